/-
  The table of codes.
-/
import Derived.Test.YtolifpkbkjofaaaCAC
import Derived.Test.YtolifpkbkjofaaaP3
set_option linter.unusedSimpArgs false
set_option linter.unusedVariables false
/- The table of codes. -/
namespace Go.Proofs.Ytolifpkbkjofaaa.AC
open Go Go.AI Go.Proofs
def tab : FuncId → Option FC
  | 3 => some ⟨75, c3, [.tmp 6]⟩
  | 4 => some ⟨79, c4, [.tmp 6]⟩
  | 5 => some ⟨90, c5, [.tmp 6]⟩
  | 6 => some ⟨62, c6, [.tmp 6]⟩
  | 7 => some ⟨79, c7, [.tmp 6]⟩
  | 8 => some ⟨85, c8, [.tmp 6]⟩
  | 9 => some ⟨44, c9, [.tmp 0]⟩
  | 10 => some ⟨31, c10, [.tmp 8]⟩
  | 11 => some ⟨26, c11, [.tmp 4]⟩
  | 12 => some ⟨50, c12, [.tmp 8]⟩
  | 13 => some ⟨107, c13, [.tmp 6, .tmp 7, .tmp 8]⟩
  | 14 => some ⟨118, c14, [.tmp 6, .tmp 7]⟩
  | 15 => some ⟨53, c15, [.tmp 8, .tmp 9, .tmp 10]⟩
  | 16 => some ⟨47, c16, [.cell 8 37, .tmp 9]⟩
  | 17 => some ⟨54, c17, [.tmp 4, .tmp 5]⟩
  | 18 => some ⟨73, c18, [.tmp 4]⟩
  | 19 => some ⟨55, c19, [.tmp 6]⟩
  | 20 => some ⟨36, c20, [.tmp 4]⟩
  | 21 => some ⟨79, c21, [.tmp 4]⟩
  | 22 => some ⟨3, c22, [.tmp 0]⟩
  | 23 => some ⟨58, c23, []⟩
  | 24 => some ⟨26, c24, [.cell 2 67, .tmp 3]⟩
  | 25 => some ⟨72, c25, []⟩
  | 26 => some ⟨8, c26, [.tmp 2]⟩
  | 27 => some ⟨18, c27, [.tmp 4]⟩
  | 28 => some ⟨34, c28, [.cell 6 37]⟩
  | 29 => some ⟨31, c29, [.tmp 6]⟩
  | 30 => some ⟨20, c30, [.tmp 4]⟩
  | 31 => some ⟨11, c31, [.tmp 3]⟩
  | 32 => some ⟨37, c32, [.tmp 4]⟩
  | 33 => some ⟨11, c33, [.tmp 2]⟩
  | 34 => some ⟨12, c34, [.tmp 2]⟩
  | 35 => some ⟨15, c35, [.tmp 2]⟩
  | 36 => some ⟨28, c36, [.tmp 4]⟩
  | 37 => some ⟨6, c37, [.tmp 2]⟩
  | 38 => some ⟨13, c38, []⟩
  | 39 => some ⟨8, c39, [.tmp 2]⟩
  | 40 => some ⟨48, c40, [.tmp 6]⟩
  | 41 => some ⟨9, c41, []⟩
  | 42 => some ⟨17, c42, [.tmp 5]⟩
  | 43 => some ⟨23, c43, []⟩
  | 44 => some ⟨63, c44, []⟩
  | 45 => some ⟨53, c45, []⟩
  | 46 => some ⟨220, c46, []⟩
  | 47 => some ⟨58, c47, []⟩
  | 48 => some ⟨38, c48, []⟩
  | 65 => some ⟨22, c65, [.tmp 6]⟩
  | 66 => some ⟨29, c66, [.tmp 2]⟩
  | 67 => some ⟨32, c67, []⟩
  | 68 => some ⟨32, c68, [.tmp 4]⟩
  | _ => none
theorem tab_ok : TabOk Try.prog tab := by
  intro f t h
  unfold tab at h
  split at h
  · injection h with h; subst h; exact code3
  · injection h with h; subst h; exact code4
  · injection h with h; subst h; exact code5
  · injection h with h; subst h; exact code6
  · injection h with h; subst h; exact code7
  · injection h with h; subst h; exact code8
  · injection h with h; subst h; exact code9
  · injection h with h; subst h; exact code10
  · injection h with h; subst h; exact code11
  · injection h with h; subst h; exact code12
  · injection h with h; subst h; exact code13
  · injection h with h; subst h; exact code14
  · injection h with h; subst h; exact code15
  · injection h with h; subst h; exact code16
  · injection h with h; subst h; exact code17
  · injection h with h; subst h; exact code18
  · injection h with h; subst h; exact code19
  · injection h with h; subst h; exact code20
  · injection h with h; subst h; exact code21
  · injection h with h; subst h; exact code22
  · injection h with h; subst h; exact code23
  · injection h with h; subst h; exact code24
  · injection h with h; subst h; exact code25
  · injection h with h; subst h; exact code26
  · injection h with h; subst h; exact code27
  · injection h with h; subst h; exact code28
  · injection h with h; subst h; exact code29
  · injection h with h; subst h; exact code30
  · injection h with h; subst h; exact code31
  · injection h with h; subst h; exact code32
  · injection h with h; subst h; exact code33
  · injection h with h; subst h; exact code34
  · injection h with h; subst h; exact code35
  · injection h with h; subst h; exact code36
  · injection h with h; subst h; exact code37
  · injection h with h; subst h; exact code38
  · injection h with h; subst h; exact code39
  · injection h with h; subst h; exact code40
  · injection h with h; subst h; exact code41
  · injection h with h; subst h; exact code42
  · injection h with h; subst h; exact code43
  · injection h with h; subst h; exact code44
  · injection h with h; subst h; exact code45
  · injection h with h; subst h; exact code46
  · injection h with h; subst h; exact code47
  · injection h with h; subst h; exact code48
  · injection h with h; subst h; exact code65
  · injection h with h; subst h; exact code66
  · injection h with h; subst h; exact code67
  · injection h with h; subst h; exact code68
  · cases h
end Go.Proofs.Ytolifpkbkjofaaa.AC
