/-
  The codes of the functions, as the rules take them.
-/
import Derived.Test.YtnlopamlmojbgaaGreatProg
import Derived.Test.YtnlopamlmojbgaaGreatP2
import Derived.KernelRfl
set_option linter.unusedSimpArgs false
set_option linter.unusedVariables false
/- The functions' codes. -/
namespace Go.Proofs.YtnlopamlmojbgaaGreat.AC
open Go Go.AI Go.Proofs
def codeOf (f : Func) : SC := match f.body with | some b => comp b | none => .bad
abbrev CO (f : Func) := {c : SC // codeOf f = c}
theorem mkA {α : Type} (l : List α) : Array.mk l = l.toArray := (rfl)
set_option maxRecDepth 100000
theorem mixed : Tryz.prog.follows .mixedOrders = true := by rfl
/- viaduct/viaductlaw20.alive -/
def c5 : SC := (⟨_, by conv => lhs; reduce; try simp only [mkA, Int.reduceOfNat, Int.reduceNegSucc]⟩ : CO Tryz.f5).1
theorem code5 : CodeIs Tryz.prog 5 105 c5 [.tmp 0] := ⟨fun a w => Tryz.call5 a w, ⟨_, _, Tryz.func5, rfl, by kernel_rfl, by kernel_rfl, rfl, rfl⟩, mixed⟩
/- viaduct/tunnel.New -/
def c6 : SC := (⟨_, by conv => lhs; reduce; try simp only [mkA, Int.reduceOfNat, Int.reduceNegSucc]⟩ : CO Tryz.f6).1
theorem code6 : CodeIs Tryz.prog 6 24 c6 [.tmp 4] := ⟨fun a w => Tryz.call6 a w, ⟨_, _, Tryz.func6, rfl, by kernel_rfl, by kernel_rfl, rfl, rfl⟩, mixed⟩
/- viaduct/viaductlaw20.does -/
def c7 : SC := (⟨_, by conv => lhs; reduce; try simp only [mkA, Int.reduceOfNat, Int.reduceNegSucc]⟩ : CO Tryz.f7).1
theorem code7 : CodeIs Tryz.prog 7 69 c7 [.tmp 4] := ⟨fun a w => Tryz.call7 a w, ⟨_, _, Tryz.func7, rfl, by kernel_rfl, by kernel_rfl, rfl, rfl⟩, mixed⟩
/- (*viaduct/tunnel.Manager).Actions -/
def c11 : SC := (⟨_, by conv => lhs; reduce; try simp only [mkA, Int.reduceOfNat, Int.reduceNegSucc]⟩ : CO Tryz.f11).1
theorem code11 : CodeIs Tryz.prog 11 15 c11 [.tmp 2] := ⟨fun a w => Tryz.call11 a w, ⟨_, _, Tryz.func11, rfl, by kernel_rfl, by kernel_rfl, rfl, rfl⟩, mixed⟩
/- (*viaduct/tunnel.Manager).Lines -/
def c14 : SC := (⟨_, by conv => lhs; reduce; try simp only [mkA, Int.reduceOfNat, Int.reduceNegSucc]⟩ : CO Tryz.f14).1
theorem code14 : CodeIs Tryz.prog 14 15 c14 [.tmp 2] := ⟨fun a w => Tryz.call14 a w, ⟨_, _, Tryz.func14, rfl, by kernel_rfl, by kernel_rfl, rfl, rfl⟩, mixed⟩
/- viaduct/viaductref20.Views -/
def c15 : SC := (⟨_, by conv => lhs; reduce; try simp only [mkA, Int.reduceOfNat, Int.reduceNegSucc]⟩ : CO Tryz.f15).1
theorem code15 : CodeIs Tryz.prog 15 76 c15 [.tmp 4] := ⟨fun a w => Tryz.call15 a w, ⟨_, _, Tryz.func15, rfl, by kernel_rfl, by kernel_rfl, rfl, rfl⟩, mixed⟩
/- viaduct/viaductlaw20.Views -/
def c16 : SC := (⟨_, by conv => lhs; reduce; try simp only [mkA, Int.reduceOfNat, Int.reduceNegSucc]⟩ : CO Tryz.f16).1
theorem code16 : CodeIs Tryz.prog 16 48 c16 [.tmp 2] := ⟨fun a w => Tryz.call16 a w, ⟨_, _, Tryz.func16, rfl, by kernel_rfl, by kernel_rfl, rfl, rfl⟩, mixed⟩
/- (*viaduct/tunnel.Manager).Tunnels -/
def c17 : SC := (⟨_, by conv => lhs; reduce; try simp only [mkA, Int.reduceOfNat, Int.reduceNegSucc]⟩ : CO Tryz.f17).1
theorem code17 : CodeIs Tryz.prog 17 37 c17 [.tmp 2] := ⟨fun a w => Tryz.call17 a w, ⟨_, _, Tryz.func17, rfl, by kernel_rfl, by kernel_rfl, rfl, rfl⟩, mixed⟩
/- viaduct/viaductref17.Find -/
def c18 : SC := (⟨_, by conv => lhs; reduce; try simp only [mkA, Int.reduceOfNat, Int.reduceNegSucc]⟩ : CO Tryz.f18).1
theorem code18 : CodeIs Tryz.prog 18 108 c18 [.tmp 10, .tmp 11, .tmp 12] := ⟨fun a w => Tryz.call18 a w, ⟨_, _, Tryz.func18, rfl, by kernel_rfl, by kernel_rfl, rfl, rfl⟩, mixed⟩
/- viaduct/viaductref04.Ints -/
def c19 : SC := (⟨_, by conv => lhs; reduce; try simp only [mkA, Int.reduceOfNat, Int.reduceNegSucc]⟩ : CO Tryz.f19).1
theorem code19 : CodeIs Tryz.prog 19 26 c19 [.tmp 4] := ⟨fun a w => Tryz.call19 a w, ⟨_, _, Tryz.func19, rfl, by kernel_rfl, by kernel_rfl, rfl, rfl⟩, mixed⟩
/- (*viaduct/tunnel.Manager).Create -/
def c20 : SC := (⟨_, by conv => lhs; reduce; try simp only [mkA, Int.reduceOfNat, Int.reduceNegSucc]⟩ : CO Tryz.f20).1
theorem code20 : CodeIs Tryz.prog 20 99 c20 [.tmp 12] := ⟨fun a w => Tryz.call20 a w, ⟨_, _, Tryz.func20, rfl, by kernel_rfl, by kernel_rfl, rfl, rfl⟩, mixed⟩
/- (*viaduct/tunnel.Manager).Event -/
def c21 : SC := (⟨_, by conv => lhs; reduce; try simp only [mkA, Int.reduceOfNat, Int.reduceNegSucc]⟩ : CO Tryz.f21).1
theorem code21 : CodeIs Tryz.prog 21 75 c21 [.tmp 6] := ⟨fun a w => Tryz.call21 a w, ⟨_, _, Tryz.func21, rfl, by kernel_rfl, by kernel_rfl, rfl, rfl⟩, mixed⟩
/- viaduct/viaductlaw16.Adverts -/
def c22 : SC := (⟨_, by conv => lhs; reduce; try simp only [mkA, Int.reduceOfNat, Int.reduceNegSucc]⟩ : CO Tryz.f22).1
theorem code22 : CodeIs Tryz.prog 22 19 c22 [.tmp 2] := ⟨fun a w => Tryz.call22 a w, ⟨_, _, Tryz.func22, rfl, by kernel_rfl, by kernel_rfl, rfl, rfl⟩, mixed⟩
/- (*viaduct/tunnel.Manager).Modify -/
def c23 : SC := (⟨_, by conv => lhs; reduce; try simp only [mkA, Int.reduceOfNat, Int.reduceNegSucc]⟩ : CO Tryz.f23).1
theorem code23 : CodeIs Tryz.prog 23 67 c23 [.tmp 10] := ⟨fun a w => Tryz.call23 a w, ⟨_, _, Tryz.func23, rfl, by kernel_rfl, by kernel_rfl, rfl, rfl⟩, mixed⟩
/- (*viaduct/tunnel.Manager).Delete -/
def c24 : SC := (⟨_, by conv => lhs; reduce; try simp only [mkA, Int.reduceOfNat, Int.reduceNegSucc]⟩ : CO Tryz.f24).1
theorem code24 : CodeIs Tryz.prog 24 45 c24 [.tmp 4] := ⟨fun a w => Tryz.call24 a w, ⟨_, _, Tryz.func24, rfl, by kernel_rfl, by kernel_rfl, rfl, rfl⟩, mixed⟩
/- (*viaduct/tunnel.Manager).Tick -/
def c25 : SC := (⟨_, by conv => lhs; reduce; try simp only [mkA, Int.reduceOfNat, Int.reduceNegSucc]⟩ : CO Tryz.f25).1
theorem code25 : CodeIs Tryz.prog 25 83 c25 [.tmp 6] := ⟨fun a w => Tryz.call25 a w, ⟨_, _, Tryz.func25, rfl, by kernel_rfl, by kernel_rfl, rfl, rfl⟩, mixed⟩
/- (*viaduct/tunnel.Manager).Restart -/
def c26 : SC := (⟨_, by conv => lhs; reduce; try simp only [mkA, Int.reduceOfNat, Int.reduceNegSucc]⟩ : CO Tryz.f26).1
theorem code26 : CodeIs Tryz.prog 26 51 c26 [.tmp 4] := ⟨fun a w => Tryz.call26 a w, ⟨_, _, Tryz.func26, rfl, by kernel_rfl, by kernel_rfl, rfl, rfl⟩, mixed⟩
/- viaduct/viaductref20.ints -/
def c33 : SC := (⟨_, by conv => lhs; reduce; try simp only [mkA, Int.reduceOfNat, Int.reduceNegSucc]⟩ : CO Tryz.f33).1
theorem code33 : CodeIs Tryz.prog 33 10 c33 [.tmp 4] := ⟨fun a w => Tryz.call33 a w, ⟨_, _, Tryz.func33, rfl, by kernel_rfl, by kernel_rfl, rfl, rfl⟩, mixed⟩
/- (*viaduct/tunnel.Manager).good -/
def c34 : SC := (⟨_, by conv => lhs; reduce; try simp only [mkA, Int.reduceOfNat, Int.reduceNegSucc]⟩ : CO Tryz.f34).1
theorem code34 : CodeIs Tryz.prog 34 12 c34 [.tmp 2] := ⟨fun a w => Tryz.call34 a w, ⟨_, _, Tryz.func34, rfl, by kernel_rfl, by kernel_rfl, rfl, rfl⟩, mixed⟩
/- viaduct/viaductref20.lsps -/
def c35 : SC := (⟨_, by conv => lhs; reduce; try simp only [mkA, Int.reduceOfNat, Int.reduceNegSucc]⟩ : CO Tryz.f35).1
theorem code35 : CodeIs Tryz.prog 35 24 c35 [.tmp 4] := ⟨fun a w => Tryz.call35 a w, ⟨_, _, Tryz.func35, rfl, by kernel_rfl, by kernel_rfl, rfl, rfl⟩, mixed⟩
/- (viaduct/tunnel.Lsp).own -/
def c36 : SC := (⟨_, by conv => lhs; reduce; try simp only [mkA, Int.reduceOfNat, Int.reduceNegSucc]⟩ : CO Tryz.f36).1
theorem code36 : CodeIs Tryz.prog 36 8 c36 [.cell 2 69] := ⟨fun a w => Tryz.call36 a w, ⟨_, _, Tryz.func36, rfl, by kernel_rfl, by kernel_rfl, rfl, rfl⟩, mixed⟩
/- viaduct/viaductref09.Check -/
def c37 : SC := (⟨_, by conv => lhs; reduce; try simp only [mkA, Int.reduceOfNat, Int.reduceNegSucc]⟩ : CO Tryz.f37).1
theorem code37 : CodeIs Tryz.prog 37 73 c37 [.tmp 4] := ⟨fun a w => Tryz.call37 a w, ⟨_, _, Tryz.func37, rfl, by kernel_rfl, by kernel_rfl, rfl, rfl⟩, mixed⟩
/- viaduct/viaductref17.links -/
def c38 : SC := (⟨_, by conv => lhs; reduce; try simp only [mkA, Int.reduceOfNat, Int.reduceNegSucc]⟩ : CO Tryz.f38).1
theorem code38 : CodeIs Tryz.prog 38 20 c38 [.tmp 2] := ⟨fun a w => Tryz.call38 a w, ⟨_, _, Tryz.func38, rfl, by kernel_rfl, by kernel_rfl, rfl, rfl⟩, mixed⟩
/- viaduct/viaductref12.Right -/
def c39 : SC := (⟨_, by conv => lhs; reduce; try simp only [mkA, Int.reduceOfNat, Int.reduceNegSucc]⟩ : CO Tryz.f39).1
theorem code39 : CodeIs Tryz.prog 39 23 c39 [.tmp 2] := ⟨fun a w => Tryz.call39 a w, ⟨_, _, Tryz.func39, rfl, by kernel_rfl, by kernel_rfl, rfl, rfl⟩, mixed⟩
/- viaduct/viaductref16.Links -/
def c40 : SC := (⟨_, by conv => lhs; reduce; try simp only [mkA, Int.reduceOfNat, Int.reduceNegSucc]⟩ : CO Tryz.f40).1
theorem code40 : CodeIs Tryz.prog 40 28 c40 [.tmp 4] := ⟨fun a w => Tryz.call40 a w, ⟨_, _, Tryz.func40, rfl, by kernel_rfl, by kernel_rfl, rfl, rfl⟩, mixed⟩
/- viaduct/viaductref17.grown -/
def c41 : SC := (⟨_, by conv => lhs; reduce; try simp only [mkA, Int.reduceOfNat, Int.reduceNegSucc]⟩ : CO Tryz.f41).1
theorem code41 : CodeIs Tryz.prog 41 119 c41 [.tmp 4] := ⟨fun a w => Tryz.call41 a w, ⟨_, _, Tryz.func41, rfl, by kernel_rfl, by kernel_rfl, rfl, rfl⟩, mixed⟩
/- (*viaduct/tunnel.Manager).find -/
def c42 : SC := (⟨_, by conv => lhs; reduce; try simp only [mkA, Int.reduceOfNat, Int.reduceNegSucc]⟩ : CO Tryz.f42).1
theorem code42 : CodeIs Tryz.prog 42 39 c42 [.tmp 4, .tmp 5] := ⟨fun a w => Tryz.call42 a w, ⟨_, _, Tryz.func42, rfl, by kernel_rfl, by kernel_rfl, rfl, rfl⟩, mixed⟩
/- viaduct/tunnel.may -/
def c43 : SC := (⟨_, by conv => lhs; reduce; try simp only [mkA, Int.reduceOfNat, Int.reduceNegSucc]⟩ : CO Tryz.f43).1
theorem code43 : CodeIs Tryz.prog 43 9 c43 [.tmp 2] := ⟨fun a w => Tryz.call43 a w, ⟨_, _, Tryz.func43, rfl, by kernel_rfl, by kernel_rfl, rfl, rfl⟩, mixed⟩
/- viaduct/group.Right -/
def c44 : SC := (⟨_, by conv => lhs; reduce; try simp only [mkA, Int.reduceOfNat, Int.reduceNegSucc]⟩ : CO Tryz.f44).1
theorem code44 : CodeIs Tryz.prog 44 18 c44 [.tmp 2] := ⟨fun a w => Tryz.call44 a w, ⟨_, _, Tryz.func44, rfl, by kernel_rfl, by kernel_rfl, rfl, rfl⟩, mixed⟩
/- (*viaduct/tunnel.tunnel).rests -/
def c45 : SC := (⟨_, by conv => lhs; reduce; try simp only [mkA, Int.reduceOfNat, Int.reduceNegSucc]⟩ : CO Tryz.f45).1
theorem code45 : CodeIs Tryz.prog 45 13 c45 [] := ⟨fun a w => Tryz.call45 a w, ⟨_, _, Tryz.func45, rfl, by kernel_rfl, by kernel_rfl, rfl, rfl⟩, mixed⟩
/- slices.Insert[[]*viaduct/tunnel.tunnel,*viaduct/tunnel.tunnel] -/
def c46 : SC := (⟨_, by conv => lhs; reduce; try simp only [mkA, Int.reduceOfNat, Int.reduceNegSucc]⟩ : CO Tryz.f46).1
theorem code46 : CodeIs Tryz.prog 46 95 c46 [.tmp 6] := ⟨fun a w => Tryz.call46 a w, ⟨_, _, Tryz.func46, rfl, by kernel_rfl, by kernel_rfl, rfl, rfl⟩, mixed⟩
/- (*viaduct/tunnel.Manager).busy -/
def c47 : SC := (⟨_, by conv => lhs; reduce; try simp only [mkA, Int.reduceOfNat, Int.reduceNegSucc]⟩ : CO Tryz.f47).1
theorem code47 : CodeIs Tryz.prog 47 8 c47 [.tmp 2] := ⟨fun a w => Tryz.call47 a w, ⟨_, _, Tryz.func47, rfl, by kernel_rfl, by kernel_rfl, rfl, rfl⟩, mixed⟩
/- (*viaduct/tunnel.tunnel).tries -/
def c48 : SC := (.seq (.reg [.p 10 (.move (.tmp 0)), .p 11 (.nilCheck (.tmp 10)), .p 12 (.fieldAddr 111 (.tmp 11) 1), .p 13 (.load 26 (.tmp 12)), .p 6 (.assign (.tmp 13))]) (.seq (.draw [⟨0, .p 15 (.move (.tmp 6)), [], [], false⟩, ⟨1, .p 16 (.nilCheck (.tmp 15)), [], [], false⟩, ⟨2, .p 17 (.fieldAddr 92 (.tmp 16) 1), [], [], false⟩, ⟨3, .p 18 (.load 3 (.tmp 17)), [], [], true⟩, ⟨4, .p 19 (.move (.tmp 2)), [], [], false⟩, ⟨5, .p 20 (.move (.tmp 0)), [], [], false⟩, ⟨7, .p 22 (.move (.tmp 6)), [], [], false⟩, ⟨8, .p 23 (.nilCheck (.tmp 22)), [], [], false⟩, ⟨9, .p 24 (.fieldAddr 92 (.tmp 23) 0), [], [], false⟩, ⟨10, .p 25 (.load 3 (.tmp 24)), [], [], true⟩, ⟨11, .p 26 (.move (.tmp 0)), [], [], false⟩, ⟨12, .p 27 (.nilCheck (.tmp 26)), [], [], false⟩, ⟨13, .p 28 (.fieldAddr 111 (.tmp 27) 0), [], [], false⟩, ⟨14, .p 29 (.fieldAddr 71 (.tmp 28) 1), [], [], false⟩, ⟨15, .p 30 (.load 3 (.tmp 29)), [], [], true⟩, ⟨6, .p 21 (.call ⟨.value (.func 82), #[(.tmp 20)], #[109]⟩), [3, 10, 15], [], false⟩, ⟨16, .p 31 (.call ⟨.value (.func 81), #[(.tmp 18), (.tmp 19), (.tmp 21), (.tmp 25), (.tmp 30)], #[3, 77, 162, 3, 3]⟩), [], [], false⟩, ⟨17, .p 14 (.move (.tmp 31)), [], [], false⟩, ⟨18, .p 32 (.extract (.tmp 14) 0), [], [], false⟩, ⟨19, .p 33 (.extract (.tmp 14) 1), [], [], false⟩, ⟨20, .p 34 (.extract (.tmp 14) 2), [], [], false⟩, ⟨21, .p 7 (.assign (.tmp 32)), [], [], false⟩, ⟨22, .p 8 (.assign (.tmp 33)), [], [], false⟩, ⟨23, .p 9 (.assign (.tmp 34)), [], [], false⟩]) (.seq (.seq (.reg [.p 35 (.move (.tmp 9)), .p 36 (.binOp .eql 44 (.tmp 35) (.const (.int .i64 0)) 44), .p 37 (.move (.tmp 36)), .g 37 true 38 (.move (.tmp 6)), .g 37 true 39 (.nilCheck (.tmp 38)), .g 37 true 40 (.fieldAddr 92 (.tmp 39) 3), .g 37 true 41 (.load 3 (.tmp 40)), .g 37 true 42 (.binOp .geq 3 (.tmp 41) (.const (.int .i64 65535)) 3), .p 43 (.pick (.tmp 37) (.tmp 42) (.const (.bool false)))]) (.cond (.tmp 43) (.reg [.p 9 (.assign (.const (.int .i64 7)))]) .skip)) (.seq (.seq (.reg [.p 44 (.move (.tmp 9)), .p 45 (.binOp .neq 44 (.tmp 44) (.const (.int .i64 0)) 44)]) (.cond (.tmp 45) (.seq (.reg [.p 46 (.move (.tmp 0)), .p 47 (.move (.tmp 1)), .p 48 (.move (.tmp 9)), .p 49 (.call ⟨.value (.func 52), #[(.tmp 46), (.tmp 47), (.tmp 48)], #[109, 3, 44]⟩)]) .ret) .skip)) (.seq (.reg [.p 50 (.move (.tmp 6)), .p 51 (.nilCheck (.tmp 50)), .p 52 (.fieldAddr 92 (.tmp 51) 3), .p 53 (.load 3 (.tmp 52)), .p 54 (.binOp .add 3 (.tmp 53) (.const (.int .i64 1)) 3), .p 55 (.nilCheck (.tmp 50)), .p 56 (.fieldAddr 92 (.tmp 55) 3), .n (.store 3 (.tmp 56) (.tmp 54))]) (.seq (.reg [.p 57 (.move (.tmp 0)), .p 58 (.move (.tmp 0)), .p 59 (.nilCheck (.tmp 58)), .p 60 (.fieldAddr 111 (.tmp 59) 0), .p 61 (.fieldAddr 71 (.tmp 60) 1), .p 62 (.load 3 (.tmp 61)), .p 63 (.move (.tmp 0)), .p 64 (.nilCheck (.tmp 63)), .p 65 (.fieldAddr 111 (.tmp 64) 0), .p 66 (.fieldAddr 71 (.tmp 65) 0), .p 67 (.load 3 (.tmp 66)), .p 68 (.move (.tmp 6)), .p 69 (.nilCheck (.tmp 68)), .p 70 (.fieldAddr 92 (.tmp 69) 0), .p 71 (.load 3 (.tmp 70)), .p 72 (.move (.tmp 6)), .p 73 (.nilCheck (.tmp 72)), .p 74 (.fieldAddr 92 (.tmp 73) 3), .p 75 (.load 3 (.tmp 74)), .p 76 (.build 38 #[(0, (.tmp 62)), (1, (.tmp 67)), (2, (.tmp 71)), (3, (.tmp 75))]), .p 77 (.move (.tmp 0)), .p 78 (.nilCheck (.tmp 77)), .p 79 (.fieldAddr 111 (.tmp 78) 0), .p 80 (.fieldAddr 71 (.tmp 79) 2), .p 81 (.load 36 (.tmp 80)), .p 82 (.move (.tmp 7)), .p 83 (.build 69 #[(0, (.tmp 76)), (1, (.tmp 81)), (2, (.tmp 82))]), .p 84 (.nilCheck (.tmp 57)), .p 85 (.fieldAddr 111 (.tmp 84) 0), .p 86 (.fieldAddr 71 (.tmp 85) 4), .n (.store 69 (.tmp 86) (.tmp 83))]) (.seq (.reg [.p 87 (.move (.tmp 0)), .p 88 (.move (.tmp 1)), .p 89 (.binOp .add 3 (.tmp 88) (.const (.int .i64 10)) 3), .p 90 (.nilCheck (.tmp 87)), .p 91 (.fieldAddr 111 (.tmp 90) 0), .p 92 (.fieldAddr 71 (.tmp 91) 5), .n (.store 3 (.tmp 92) (.tmp 89))]) (.draw [⟨0, .p 93 (.move (.tmp 0)), [], [], false⟩, ⟨1, .p 94 (.move (.tmp 0)), [], [], false⟩, ⟨2, .p 95 (.nilCheck (.tmp 94)), [], [], false⟩, ⟨3, .p 96 (.fieldAddr 111 (.tmp 95) 0), [], [], false⟩, ⟨4, .p 97 (.fieldAddr 71 (.tmp 96) 4), [], [], false⟩, ⟨5, .p 98 (.fieldAddr 69 (.tmp 97) 0), [], [], false⟩, ⟨6, .p 99 (.load 38 (.tmp 98)), [], [], true⟩, ⟨7, .p 100 (.move (.tmp 0)), [], [], false⟩, ⟨8, .p 101 (.nilCheck (.tmp 100)), [], [], false⟩, ⟨9, .p 102 (.fieldAddr 111 (.tmp 101) 0), [], [], false⟩, ⟨10, .p 103 (.fieldAddr 71 (.tmp 102) 2), [], [], false⟩, ⟨11, .p 104 (.load 36 (.tmp 103)), [], [], true⟩, ⟨12, .p 105 (.move (.tmp 7)), [], [], false⟩, ⟨13, .p 106 (.call ⟨.value (.func 72), #[(.tmp 105)], #[61]⟩), [6, 11], [], false⟩, ⟨14, .p 107 (.build 63 #[(0, (.const (.int .i64 1))), (2, (.tmp 99)), (3, (.tmp 104)), (4, (.tmp 106))]), [], [], false⟩, ⟨15, .p 108 (.call ⟨.value (.func 83), #[(.tmp 93), (.tmp 107)], #[109, 63]⟩), [], [], false⟩]))))))))
theorem code48 : CodeIs Tryz.prog 48 109 c48 [] := ⟨fun a w => Tryz.call48 a w, ⟨_, _, Tryz.func48, rfl, by kernel_rfl, by kernel_rfl, rfl, rfl⟩, mixed⟩
/- (*viaduct/tunnel.Manager).owner -/
def c49 : SC := (⟨_, by conv => lhs; reduce; try simp only [mkA, Int.reduceOfNat, Int.reduceNegSucc]⟩ : CO Tryz.f49).1
theorem code49 : CodeIs Tryz.prog 49 41 c49 [.tmp 4] := ⟨fun a w => Tryz.call49 a w, ⟨_, _, Tryz.func49, rfl, by kernel_rfl, by kernel_rfl, rfl, rfl⟩, mixed⟩
/- (*viaduct/tunnel.tunnel).ups -/
def c50 : SC := (⟨_, by conv => lhs; reduce; try simp only [mkA, Int.reduceOfNat, Int.reduceNegSucc]⟩ : CO Tryz.f50).1
theorem code50 : CodeIs Tryz.prog 50 42 c50 [] := ⟨fun a w => Tryz.call50 a w, ⟨_, _, Tryz.func50, rfl, by kernel_rfl, by kernel_rfl, rfl, rfl⟩, mixed⟩
/- (*viaduct/tunnel.tunnel).stop -/
def c51 : SC := (⟨_, by conv => lhs; reduce; try simp only [mkA, Int.reduceOfNat, Int.reduceNegSucc]⟩ : CO Tryz.f51).1
theorem code51 : CodeIs Tryz.prog 51 18 c51 [] := ⟨fun a w => Tryz.call51 a w, ⟨_, _, Tryz.func51, rfl, by kernel_rfl, by kernel_rfl, rfl, rfl⟩, mixed⟩
/- (*viaduct/tunnel.tunnel).fails -/
def c52 : SC := (.seq (.reg [.p 6 (.move (.tmp 0)), .p 7 (.move (.tmp 1)), .p 8 (.move (.tmp 2)), .p 9 (.call ⟨.value (.func 54), #[(.tmp 6), (.tmp 7), (.const (.int .i64 3)), (.tmp 8)], #[109, 3, 3, 44]⟩)]) (.seq (.reg [.p 10 (.move (.tmp 0)), .p 11 (.move (.tmp 1)), .p 12 (.move (.tmp 0)), .p 13 (.nilCheck (.tmp 12)), .p 14 (.fieldAddr 111 (.tmp 13) 0), .p 15 (.fieldAddr 71 (.tmp 14) 6), .p 16 (.load 3 (.tmp 15)), .p 17 (.binOp .add 3 (.tmp 11) (.tmp 16) 3), .p 18 (.move (.tmp 0)), .p 19 (.nilCheck (.tmp 18)), .p 20 (.fieldAddr 111 (.tmp 19) 1), .p 21 (.load 26 (.tmp 20)), .p 22 (.nilCheck (.tmp 21)), .p 23 (.fieldAddr 92 (.tmp 22) 0), .p 24 (.load 3 (.tmp 23)), .p 25 (.binOp .add 3 (.tmp 17) (.tmp 24) 3), .p 26 (.nilCheck (.tmp 10)), .p 27 (.fieldAddr 111 (.tmp 26) 0), .p 28 (.fieldAddr 71 (.tmp 27) 5), .n (.store 3 (.tmp 28) (.tmp 25))]) (.reg [.p 29 (.move (.tmp 0)), .p 30 (.move (.tmp 0)), .p 31 (.nilCheck (.tmp 30)), .p 32 (.fieldAddr 111 (.tmp 31) 0), .p 33 (.fieldAddr 71 (.tmp 32) 6), .p 34 (.load 3 (.tmp 33)), .p 35 (.binOp .mul 3 (.const (.int .i64 2)) (.tmp 34) 3), .p 36 (.call ⟨.builtin .min, #[(.tmp 35), (.const (.int .i64 8))], #[3, 3]⟩), .p 37 (.nilCheck (.tmp 29)), .p 38 (.fieldAddr 111 (.tmp 37) 0), .p 39 (.fieldAddr 71 (.tmp 38) 6), .n (.store 3 (.tmp 39) (.tmp 36))])))
theorem code52 : CodeIs Tryz.prog 52 40 c52 [] := ⟨fun a w => Tryz.call52 a w, ⟨_, _, Tryz.func52, rfl, by kernel_rfl, by kernel_rfl, rfl, rfl⟩, mixed⟩
/- (*viaduct/tunnel.tunnel).leave -/
def c53 : SC := (⟨_, by conv => lhs; reduce; try simp only [mkA, Int.reduceOfNat, Int.reduceNegSucc]⟩ : CO Tryz.f53).1
theorem code53 : CodeIs Tryz.prog 53 17 c53 [] := ⟨fun a w => Tryz.call53 a w, ⟨_, _, Tryz.func53, rfl, by kernel_rfl, by kernel_rfl, rfl, rfl⟩, mixed⟩
/- (*viaduct/tunnel.tunnel).says -/
def c54 : SC := (.draw [⟨0, .p 8 (.move (.tmp 0)), [], [], false⟩, ⟨1, .p 9 (.nilCheck (.tmp 8)), [], [], false⟩, ⟨2, .p 10 (.fieldAddr 111 (.tmp 9) 1), [], [], false⟩, ⟨3, .p 11 (.load 26 (.tmp 10)), [], [], true⟩, ⟨4, .p 12 (.move (.tmp 0)), [], [], false⟩, ⟨5, .p 13 (.nilCheck (.tmp 12)), [], [], false⟩, ⟨6, .p 14 (.fieldAddr 111 (.tmp 13) 1), [], [], false⟩, ⟨7, .p 15 (.load 26 (.tmp 14)), [], [], false⟩, ⟨8, .p 16 (.nilCheck (.tmp 15)), [], [], false⟩, ⟨9, .p 17 (.fieldAddr 92 (.tmp 16) 5), [], [], false⟩, ⟨10, .p 18 (.load 54 (.tmp 17)), [], [], false⟩, ⟨11, .p 19 (.move (.tmp 1)), [], [], false⟩, ⟨12, .p 20 (.move (.tmp 0)), [], [], false⟩, ⟨13, .p 21 (.nilCheck (.tmp 20)), [], [], false⟩, ⟨14, .p 22 (.fieldAddr 111 (.tmp 21) 0), [], [], false⟩, ⟨15, .p 23 (.fieldAddr 71 (.tmp 22) 0), [], [], false⟩, ⟨16, .p 24 (.load 3 (.tmp 23)), [], [], false⟩, ⟨17, .p 25 (.move (.tmp 2)), [], [], false⟩, ⟨18, .p 26 (.move (.tmp 3)), [], [], false⟩, ⟨19, .p 27 (.build 89 #[(0, (.tmp 19)), (1, (.tmp 24)), (2, (.tmp 25)), (3, (.tmp 26))]), [], [], false⟩, ⟨20, .p 28 (.buildSlice 54 1 #[(0, (.tmp 27))]), [], [], false⟩, ⟨21, .p 29 (.call ⟨.builtin .append, #[(.tmp 18), (.tmp 28)], #[54, 54]⟩), [3], [], false⟩, ⟨22, .p 30 (.nilCheck (.tmp 11)), [], [], false⟩, ⟨23, .p 31 (.fieldAddr 92 (.tmp 30) 5), [], [], false⟩, ⟨24, .n (.store 54 (.tmp 31) (.tmp 29)), [], [], false⟩])
theorem code54 : CodeIs Tryz.prog 54 32 c54 [] := ⟨fun a w => Tryz.call54 a w, ⟨_, _, Tryz.func54, rfl, by kernel_rfl, by kernel_rfl, rfl, rfl⟩, mixed⟩
/- viaduct/viaductlaw15.Theirs -/
def c55 : SC := (⟨_, by conv => lhs; reduce; try simp only [mkA, Int.reduceOfNat, Int.reduceNegSucc]⟩ : CO Tryz.f55).1
theorem code55 : CodeIs Tryz.prog 55 12 c55 [.cell 2 83] := ⟨fun a w => Tryz.call55 a w, ⟨_, _, Tryz.func55, rfl, by kernel_rfl, by kernel_rfl, rfl, rfl⟩, mixed⟩
/- (*viaduct/tunnel.tunnel).lacks -/
def c56 : SC := (.seq (.reg [.p 2 (.assign (.const (.bool false)))]) (.seq (.reg [.p 3 (.move (.tmp 0)), .p 4 (.nilCheck (.tmp 3)), .p 5 (.fieldAddr 111 (.tmp 4) 0), .p 6 (.fieldAddr 71 (.tmp 5) 3), .p 7 (.load 69 (.tmp 6)), .p 8 (.call ⟨.value (.func 58), #[(.tmp 7)], #[69]⟩), .p 9 (.unOp .not 4 (.tmp 8)), .p 10 (.move (.tmp 9)), .g 10 false 11 (.move (.tmp 0)), .g 10 false 12 (.nilCheck (.tmp 11)), .g 10 false 13 (.fieldAddr 111 (.tmp 12) 0), .g 10 false 14 (.fieldAddr 71 (.tmp 13) 3), .g 10 false 15 (.fieldAddr 69 (.tmp 14) 1), .g 10 false 16 (.load 36 (.tmp 15)), .g 10 false 17 (.move (.tmp 0)), .g 10 false 18 (.nilCheck (.tmp 17)), .g 10 false 19 (.fieldAddr 111 (.tmp 18) 0), .g 10 false 20 (.fieldAddr 71 (.tmp 19) 2), .g 10 false 21 (.load 36 (.tmp 20)), .g 10 false 22 (.binOp .neq 36 (.tmp 16) (.tmp 21) 36), .p 23 (.pick (.tmp 10) (.const (.bool true)) (.tmp 22)), .p 2 (.assign (.tmp 23))]) .ret))
theorem code56 : CodeIs Tryz.prog 56 24 c56 [.tmp 2] := ⟨fun a w => Tryz.call56 a w, ⟨_, _, Tryz.func56, rfl, by kernel_rfl, by kernel_rfl, rfl, rfl⟩, mixed⟩
/- slices.Delete[[]*viaduct/tunnel.tunnel,*viaduct/tunnel.tunnel] -/
def c57 : SC := (⟨_, by conv => lhs; reduce; try simp only [mkA, Int.reduceOfNat, Int.reduceNegSucc]⟩ : CO Tryz.f57).1
theorem code57 : CodeIs Tryz.prog 57 33 c57 [.tmp 6] := ⟨fun a w => Tryz.call57 a w, ⟨_, _, Tryz.func57, rfl, by kernel_rfl, by kernel_rfl, rfl, rfl⟩, mixed⟩
/- (viaduct/tunnel.Lsp).is -/
def c58 : SC := (⟨_, by conv => lhs; reduce; try simp only [mkA, Int.reduceOfNat, Int.reduceNegSucc]⟩ : CO Tryz.f58).1
theorem code58 : CodeIs Tryz.prog 58 7 c58 [.tmp 2] := ⟨fun a w => Tryz.call58 a w, ⟨_, _, Tryz.func58, rfl, by kernel_rfl, by kernel_rfl, rfl, rfl⟩, mixed⟩
/- viaduct/viaductref07.Same -/
def c71 : SC := (⟨_, by conv => lhs; reduce; try simp only [mkA, Int.reduceOfNat, Int.reduceNegSucc]⟩ : CO Tryz.f71).1
theorem code71 : CodeIs Tryz.prog 71 71 c71 [.tmp 4] := ⟨fun a w => Tryz.call71 a w, ⟨_, _, Tryz.func71, rfl, by kernel_rfl, by kernel_rfl, rfl, rfl⟩, mixed⟩
/- slices.Clone[[]int,int] -/
def c72 : SC := (⟨_, by conv => lhs; reduce; try simp only [mkA, Int.reduceOfNat, Int.reduceNegSucc]⟩ : CO Tryz.f72).1
theorem code72 : CodeIs Tryz.prog 72 8 c72 [.tmp 2] := ⟨fun a w => Tryz.call72 a w, ⟨_, _, Tryz.func72, rfl, by kernel_rfl, by kernel_rfl, rfl, rfl⟩, mixed⟩
/- viaduct/viaductref09.Find -/
def c73 : SC := (⟨_, by conv => lhs; reduce; try simp only [mkA, Int.reduceOfNat, Int.reduceNegSucc]⟩ : CO Tryz.f73).1
theorem code73 : CodeIs Tryz.prog 73 31 c73 [.tmp 6] := ⟨fun a w => Tryz.call73 a w, ⟨_, _, Tryz.func73, rfl, by kernel_rfl, by kernel_rfl, rfl, rfl⟩, mixed⟩
/- viaduct/viaductref16.Fits -/
def c74 : SC := (.seq (.reg [.p 2 (.box 132 (.tmp 0)), .p 3 (.box 67 (.tmp 1)), .p 4 (.assign (.const (.bool false)))]) (.seq (.reg [.p 9 (.fieldAddr 132 (.tmp 2) 0), .p 10 (.load 79 (.tmp 9)), .p 5 (.alloc 79), .n (.store 79 (.tmp 5) (.tmp 10))]) (.seq (.seq (.reg [.p 11 (.fieldAddr 67 (.tmp 3) 0), .p 12 (.load 36 (.tmp 11)), .p 13 (.call ⟨.value (.func 39), #[(.tmp 12)], #[36]⟩), .p 14 (.unOp .not 4 (.tmp 13)), .p 15 (.move (.tmp 14)), .g 15 false 16 (.fieldAddr 132 (.tmp 2) 2), .g 15 false 17 (.load 4 (.tmp 16)), .g 15 false 18 (.unOp .not 4 (.tmp 17)), .p 19 (.pick (.tmp 15) (.const (.bool true)) (.tmp 18)), .p 20 (.move (.tmp 19)), .g 20 false 21 (.fieldAddr 67 (.tmp 3) 0), .g 20 false 22 (.load 36 (.tmp 21)), .g 20 false 23 (.fieldAddr 79 (.tmp 5) 4), .g 20 false 24 (.load 34 (.tmp 23)), .g 20 false 25 (.call ⟨.value (.func 85), #[(.tmp 22), (.tmp 24)], #[36, 34]⟩), .g 20 false 26 (.unOp .not 4 (.tmp 25)), .p 27 (.pick (.tmp 20) (.const (.bool true)) (.tmp 26))]) (.cond (.tmp 27) (.seq (.reg [.p 4 (.assign (.const (.bool false)))]) .ret) .skip)) (.seq (.seq (.reg [.p 28 (.fieldAddr 67 (.tmp 3) 1), .p 29 (.load 61 (.tmp 28)), .p 30 (.fieldAddr 79 (.tmp 5) 0), .p 31 (.load 3 (.tmp 30)), .p 32 (.call ⟨.value (.func 75), #[(.tmp 29), (.tmp 31)], #[61, 3]⟩), .p 33 (.move (.tmp 32)), .g 33 false 34 (.fieldAddr 67 (.tmp 3) 1), .g 33 false 35 (.load 61 (.tmp 34)), .g 33 false 36 (.fieldAddr 79 (.tmp 5) 1), .g 33 false 37 (.load 3 (.tmp 36)), .g 33 false 38 (.call ⟨.value (.func 75), #[(.tmp 35), (.tmp 37)], #[61, 3]⟩), .p 39 (.pick (.tmp 33) (.const (.bool true)) (.tmp 38))]) (.cond (.tmp 39) (.seq (.reg [.p 4 (.assign (.const (.bool false)))]) .ret) .skip)) (.seq (.seq (.reg [.p 6 (.assign (.const (.int .i64 0)))]) (.block 0 (.loop (.seq (.seq (.reg [.p 40 (.move (.tmp 6)), .p 41 (.fieldAddr 67 (.tmp 3) 2), .p 42 (.load 64 (.tmp 41)), .p 43 (.call ⟨.builtin .len, #[(.tmp 42)], #[64]⟩), .p 44 (.binOp .lss 3 (.tmp 40) (.tmp 43) 3)]) (.cond (.tmp 44) .skip (.exit 0))) (.seq (.block 1 (.seq (.reg [.p 47 (.fieldAddr 67 (.tmp 3) 2), .p 48 (.load 64 (.tmp 47)), .p 49 (.move (.tmp 6)), .p 50 (.indexAddr 64 (.tmp 48) (.tmp 49)), .p 51 (.indexAddr 167 (.tmp 50) (.const (.int .i64 0))), .p 52 (.load 3 (.tmp 51)), .p 53 (.fieldAddr 79 (.tmp 5) 0), .p 54 (.load 3 (.tmp 53)), .p 55 (.binOp .eql 3 (.tmp 52) (.tmp 54) 3), .p 56 (.move (.tmp 55)), .g 56 true 57 (.fieldAddr 67 (.tmp 3) 2), .g 56 true 58 (.load 64 (.tmp 57)), .g 56 true 59 (.move (.tmp 6)), .g 56 true 60 (.indexAddr 64 (.tmp 58) (.tmp 59)), .g 56 true 61 (.indexAddr 167 (.tmp 60) (.const (.int .i64 1))), .g 56 true 62 (.load 3 (.tmp 61)), .g 56 true 63 (.fieldAddr 79 (.tmp 5) 1), .g 56 true 64 (.load 3 (.tmp 63)), .g 56 true 65 (.binOp .eql 3 (.tmp 62) (.tmp 64) 3), .p 66 (.pick (.tmp 56) (.tmp 65) (.const (.bool false)))]) (.cond (.tmp 66) (.seq (.reg [.p 4 (.assign (.const (.bool false)))]) .ret) .skip))) (.reg [.p 45 (.move (.tmp 6)), .p 46 (.binOp .add 3 (.tmp 45) (.const (.int .i64 1)) 3), .p 6 (.assign (.tmp 46))])))))) (.seq (.draw [⟨0, .p 68 (.fieldAddr 67 (.tmp 3) 0), [], [], false⟩, ⟨1, .p 69 (.fieldAddr 36 (.tmp 68) 1), [], [], false⟩, ⟨2, .p 70 (.load 3 (.tmp 69)), [], [], true⟩, ⟨3, .p 71 (.fieldAddr 132 (.tmp 2) 3), [], [], false⟩, ⟨4, .p 72 (.indexAddr 81 (.tmp 71) (.tmp 70)), [], [], false⟩, ⟨5, .p 73 (.load 33 (.tmp 72)), [], [], true⟩, ⟨6, .p 74 (.load 67 (.tmp 3)), [], [], false⟩, ⟨7, .p 75 (.fieldAddr 79 (.tmp 5) 0), [], [], false⟩, ⟨8, .p 76 (.load 3 (.tmp 75)), [], [], false⟩, ⟨9, .p 77 (.fieldAddr 79 (.tmp 5) 1), [], [], false⟩, ⟨10, .p 78 (.load 3 (.tmp 77)), [], [], false⟩, ⟨11, .p 79 (.call ⟨.value (.func 87), #[(.tmp 74), (.tmp 76), (.tmp 78)], #[67, 3, 3]⟩), [2, 5], [], false⟩, ⟨12, .p 80 (.call ⟨.value (.func 86), #[(.tmp 73), (.tmp 79)], #[33, 33]⟩), [], [], false⟩, ⟨13, .p 67 (.move (.tmp 80)), [], [], false⟩, ⟨14, .p 81 (.extract (.tmp 67) 0), [], [], false⟩, ⟨15, .p 82 (.extract (.tmp 67) 1), [], [], false⟩, ⟨16, .p 7 (.assign (.tmp 81)), [], [], false⟩, ⟨17, .p 8 (.assign (.tmp 82)), [], [], false⟩]) (.seq (.reg [.p 83 (.move (.tmp 8)), .p 84 (.unOp .not 4 (.tmp 83)), .p 85 (.move (.tmp 84)), .g 85 false 86 (.fieldAddr 67 (.tmp 3) 0), .g 85 false 87 (.fieldAddr 36 (.tmp 86) 0), .g 85 false 88 (.load 33 (.tmp 87)), .g 85 false 89 (.move (.tmp 7)), .g 85 false 90 (.binOp .leq 33 (.tmp 88) (.tmp 89) 33), .p 91 (.pick (.tmp 85) (.const (.bool true)) (.tmp 90)), .p 4 (.assign (.tmp 91))]) .ret)))))))
theorem code74 : CodeIs Tryz.prog 74 92 c74 [.tmp 4] := ⟨fun a w => Tryz.call74 a w, ⟨_, _, Tryz.func74, rfl, by kernel_rfl, by kernel_rfl, rfl, rfl⟩, mixed⟩
/- viaduct/viaductref09.Has -/
def c75 : SC := (⟨_, by conv => lhs; reduce; try simp only [mkA, Int.reduceOfNat, Int.reduceNegSucc]⟩ : CO Tryz.f75).1
theorem code75 : CodeIs Tryz.prog 75 18 c75 [.tmp 4] := ⟨fun a w => Tryz.call75 a w, ⟨_, _, Tryz.func75, rfl, by kernel_rfl, by kernel_rfl, rfl, rfl⟩, mixed⟩
/- viaduct/viaductref11.Better -/
def c76 : SC := (⟨_, by conv => lhs; reduce; try simp only [mkA, Int.reduceOfNat, Int.reduceNegSucc]⟩ : CO Tryz.f76).1
theorem code76 : CodeIs Tryz.prog 76 50 c76 [.tmp 8] := ⟨fun a w => Tryz.call76 a w, ⟨_, _, Tryz.func76, rfl, by kernel_rfl, by kernel_rfl, rfl, rfl⟩, mixed⟩
/- slices.ContainsFunc[[]*viaduct/tunnel.tunnel,*viaduct/tunnel.tunnel] -/
def c79 : SC := (⟨_, by conv => lhs; reduce; try simp only [mkA, Int.reduceOfNat, Int.reduceNegSucc]⟩ : CO Tryz.f79).1
theorem code79 : CodeIs Tryz.prog 79 9 c79 [.tmp 4] := ⟨fun a w => Tryz.call79 a w, ⟨_, _, Tryz.func79, rfl, by kernel_rfl, by kernel_rfl, rfl, rfl⟩, mixed⟩
/- (*viaduct/tunnel.Manager).busy$1 -/
def c80 : SC := (⟨_, by conv => lhs; reduce; try simp only [mkA, Int.reduceOfNat, Int.reduceNegSucc]⟩ : CO Tryz.f80).1
theorem code80 : CodeIs Tryz.prog 80 9 c80 [.tmp 2] := ⟨fun a w => Tryz.call80 a w, ⟨_, _, Tryz.func80, rfl, by kernel_rfl, by kernel_rfl, rfl, rfl⟩, mixed⟩
/- viaduct/cspf.Find -/
def c81 : SC := (⟨_, by conv => lhs; reduce; try simp only [mkA, Int.reduceOfNat, Int.reduceNegSucc]⟩ : CO Tryz.f81).1
theorem code81 : CodeIs Tryz.prog 81 159 c81 [.tmp 10, .tmp 11, .tmp 12] := ⟨fun a w => Tryz.call81 a w, ⟨_, _, Tryz.func81, rfl, by kernel_rfl, by kernel_rfl, rfl, rfl⟩, mixed⟩
/- (*viaduct/tunnel.tunnel).ask -/
def c82 : SC := (.seq (.reg [.p 2 (.alloc 162)]) (.seq (.reg [.p 6 (.move (.tmp 0)), .p 7 (.nilCheck (.tmp 6)), .p 8 (.fieldAddr 111 (.tmp 7) 0), .p 9 (.fieldAddr 71 (.tmp 8) 2), .p 10 (.load 36 (.tmp 9)), .p 11 (.build 162 #[(0, (.tmp 10))]), .p 3 (.alloc 162), .n (.store 162 (.tmp 3) (.tmp 11))]) (.seq (.seq (.reg [.p 12 (.move (.tmp 0)), .p 13 (.nilCheck (.tmp 12)), .p 14 (.fieldAddr 111 (.tmp 13) 0), .p 15 (.fieldAddr 71 (.tmp 14) 3), .p 16 (.fieldAddr 69 (.tmp 15) 2), .p 17 (.load 61 (.tmp 16)), .p 18 (.call ⟨.builtin .len, #[(.tmp 17)], #[61]⟩), .p 19 (.move (.const (.int .i64 0)))]) (.block 0 (.loop (.seq (.reg [.p 20 (.binOp .lss 3 (.tmp 19) (.tmp 18) 3)]) (.seq (.cond (.tmp 20) .skip (.exit 0)) (.seq (.block 1 (.seq (.reg [.p 21 (.move (.tmp 19)), .p 22 (.indexAddr 61 (.tmp 17) (.tmp 19)), .p 23 (.load 3 (.tmp 22)), .p 4 (.assign (.tmp 21)), .p 5 (.assign (.tmp 23))]) (.seq (.reg [.p 24 (.move (.tmp 4)), .p 25 (.binOp .gtr 3 (.tmp 24) (.const (.int .i64 0)) 3), .p 26 (.move (.tmp 25)), .g 26 true 27 (.move (.tmp 0)), .g 26 true 28 (.nilCheck (.tmp 27)), .g 26 true 29 (.fieldAddr 111 (.tmp 28) 0), .g 26 true 30 (.fieldAddr 71 (.tmp 29) 3), .g 26 true 31 (.fieldAddr 69 (.tmp 30) 1), .g 26 true 32 (.fieldAddr 36 (.tmp 31) 2), .g 26 true 33 (.load 3 (.tmp 32)), .g 26 true 34 (.move (.tmp 0)), .g 26 true 35 (.nilCheck (.tmp 34)), .g 26 true 36 (.fieldAddr 111 (.tmp 35) 0), .g 26 true 37 (.fieldAddr 71 (.tmp 36) 2), .g 26 true 38 (.fieldAddr 36 (.tmp 37) 1), .g 26 true 39 (.load 3 (.tmp 38)), .g 26 true 40 (.binOp .leq 3 (.tmp 33) (.tmp 39) 3), .p 41 (.pick (.tmp 26) (.tmp 40) (.const (.bool false)))]) (.cond (.tmp 41) (.reg [.p 42 (.fieldAddr 162 (.tmp 3) 3), .p 43 (.load 160 (.tmp 42)), .p 44 (.move (.tmp 0)), .p 45 (.nilCheck (.tmp 44)), .p 46 (.fieldAddr 111 (.tmp 45) 0), .p 47 (.fieldAddr 71 (.tmp 46) 3), .p 48 (.fieldAddr 69 (.tmp 47) 2), .p 49 (.load 61 (.tmp 48)), .p 50 (.move (.tmp 4)), .p 51 (.binOp .sub 3 (.tmp 50) (.const (.int .i64 1)) 3), .p 52 (.indexAddr 61 (.tmp 49) (.tmp 51)), .p 53 (.load 3 (.tmp 52)), .p 54 (.move (.tmp 5)), .p 55 (.move (.tmp 0)), .p 56 (.nilCheck (.tmp 55)), .p 57 (.fieldAddr 111 (.tmp 56) 0), .p 58 (.fieldAddr 71 (.tmp 57) 3), .p 59 (.fieldAddr 69 (.tmp 58) 1), .p 60 (.fieldAddr 36 (.tmp 59) 0), .p 61 (.load 33 (.tmp 60)), .p 62 (.build 192 #[(0, (.tmp 53)), (1, (.tmp 54)), (2, (.tmp 61))]), .p 63 (.buildSlice 160 1 #[(0, (.tmp 62))]), .p 64 (.call ⟨.builtin .append, #[(.tmp 43), (.tmp 63)], #[160, 160]⟩), .p 65 (.fieldAddr 162 (.tmp 3) 3), .n (.store 160 (.tmp 65) (.tmp 64))]) .skip)))) (.reg [.p 66 (.binOp .add 3 (.tmp 19) (.const (.int .i64 1)) 3), .p 19 (.move (.tmp 66))]))))))) (.seq (.reg [.p 67 (.load 162 (.tmp 3)), .n (.store 162 (.tmp 2) (.tmp 67))]) .ret))))
theorem code82 : CodeIs Tryz.prog 82 68 c82 [.cell 2 162] := ⟨fun a w => Tryz.call82 a w, ⟨_, _, Tryz.func82, rfl, by kernel_rfl, by kernel_rfl, rfl, rfl⟩, mixed⟩
/- (*viaduct/tunnel.tunnel).does -/
def c83 : SC := (.seq (.reg [.p 3 (.box 63 (.tmp 1))]) (.seq (.reg [.p 4 (.move (.tmp 0)), .p 5 (.nilCheck (.tmp 4)), .p 6 (.fieldAddr 111 (.tmp 5) 0), .p 7 (.fieldAddr 71 (.tmp 6) 0), .p 8 (.load 3 (.tmp 7)), .p 9 (.fieldAddr 63 (.tmp 3) 1), .n (.store 3 (.tmp 9) (.tmp 8))]) (.draw [⟨0, .p 10 (.move (.tmp 0)), [], [], false⟩, ⟨1, .p 11 (.nilCheck (.tmp 10)), [], [], false⟩, ⟨2, .p 12 (.fieldAddr 111 (.tmp 11) 1), [], [], false⟩, ⟨3, .p 13 (.load 26 (.tmp 12)), [], [], true⟩, ⟨4, .p 14 (.move (.tmp 0)), [], [], false⟩, ⟨5, .p 15 (.nilCheck (.tmp 14)), [], [], false⟩, ⟨6, .p 16 (.fieldAddr 111 (.tmp 15) 1), [], [], false⟩, ⟨7, .p 17 (.load 26 (.tmp 16)), [], [], false⟩, ⟨8, .p 18 (.nilCheck (.tmp 17)), [], [], false⟩, ⟨9, .p 19 (.fieldAddr 92 (.tmp 18) 4), [], [], false⟩, ⟨10, .p 20 (.load 50 (.tmp 19)), [], [], false⟩, ⟨11, .p 21 (.load 63 (.tmp 3)), [], [], false⟩, ⟨12, .p 22 (.buildSlice 50 1 #[(0, (.tmp 21))]), [], [], false⟩, ⟨13, .p 23 (.call ⟨.builtin .append, #[(.tmp 20), (.tmp 22)], #[50, 50]⟩), [3], [], false⟩, ⟨14, .p 24 (.nilCheck (.tmp 13)), [], [], false⟩, ⟨15, .p 25 (.fieldAddr 92 (.tmp 24) 4), [], [], false⟩, ⟨16, .n (.store 50 (.tmp 25) (.tmp 23)), [], [], false⟩])))
theorem code83 : CodeIs Tryz.prog 83 26 c83 [] := ⟨fun a w => Tryz.call83 a w, ⟨_, _, Tryz.func83, rfl, by kernel_rfl, by kernel_rfl, rfl, rfl⟩, mixed⟩
/- viaduct/viaductref12.Allows -/
def c85 : SC := (⟨_, by conv => lhs; reduce; try simp only [mkA, Int.reduceOfNat, Int.reduceNegSucc]⟩ : CO Tryz.f85).1
theorem code85 : CodeIs Tryz.prog 85 26 c85 [.tmp 4] := ⟨fun a w => Tryz.call85 a w, ⟨_, _, Tryz.func85, rfl, by kernel_rfl, by kernel_rfl, rfl, rfl⟩, mixed⟩
/- viaduct/viaductref13.Add -/
def c86 : SC := (⟨_, by conv => lhs; reduce; try simp only [mkA, Int.reduceOfNat, Int.reduceNegSucc]⟩ : CO Tryz.f86).1
theorem code86 : CodeIs Tryz.prog 86 13 c86 [.tmp 4, .tmp 5] := ⟨fun a w => Tryz.call86 a w, ⟨_, _, Tryz.func86, rfl, by kernel_rfl, by kernel_rfl, rfl, rfl⟩, mixed⟩
/- viaduct/viaductref16.has -/
def c87 : SC := (⟨_, by conv => lhs; reduce; try simp only [mkA, Int.reduceOfNat, Int.reduceNegSucc]⟩ : CO Tryz.f87).1
theorem code87 : CodeIs Tryz.prog 87 43 c87 [.tmp 6] := ⟨fun a w => Tryz.call87 a w, ⟨_, _, Tryz.func87, rfl, by kernel_rfl, by kernel_rfl, rfl, rfl⟩, mixed⟩
/- slices.IndexFunc[[]*viaduct/tunnel.tunnel,*viaduct/tunnel.tunnel] -/
def c89 : SC := (⟨_, by conv => lhs; reduce; try simp only [mkA, Int.reduceOfNat, Int.reduceNegSucc]⟩ : CO Tryz.f89).1
theorem code89 : CodeIs Tryz.prog 89 19 c89 [.tmp 4] := ⟨fun a w => Tryz.call89 a w, ⟨_, _, Tryz.func89, rfl, by kernel_rfl, by kernel_rfl, rfl, rfl⟩, mixed⟩
/- viaduct/cspf.Find$1 -/
def c90 : SC := (⟨_, by conv => lhs; reduce; try simp only [mkA, Int.reduceOfNat, Int.reduceNegSucc]⟩ : CO Tryz.f90).1
theorem code90 : CodeIs Tryz.prog 90 11 c90 [.tmp 3] := ⟨fun a w => Tryz.call90 a w, ⟨_, _, Tryz.func90, rfl, by kernel_rfl, by kernel_rfl, rfl, rfl⟩, mixed⟩
/- viaduct/graph.Check -/
def c91 : SC := (⟨_, by conv => lhs; reduce; try simp only [mkA, Int.reduceOfNat, Int.reduceNegSucc]⟩ : CO Tryz.f91).1
theorem code91 : CodeIs Tryz.prog 91 79 c91 [.tmp 4] := ⟨fun a w => Tryz.call91 a w, ⟨_, _, Tryz.func91, rfl, by kernel_rfl, by kernel_rfl, rfl, rfl⟩, mixed⟩
/- viaduct/prune.Links -/
def c92 : SC := (⟨_, by conv => lhs; reduce; try simp only [mkA, Int.reduceOfNat, Int.reduceNegSucc]⟩ : CO Tryz.f92).1
theorem code92 : CodeIs Tryz.prog 92 24 c92 [.tmp 4] := ⟨fun a w => Tryz.call92 a w, ⟨_, _, Tryz.func92, rfl, by kernel_rfl, by kernel_rfl, rfl, rfl⟩, mixed⟩
/- viaduct/queue.New -/
def c93 : SC := (⟨_, by conv => lhs; reduce; try simp only [mkA, Int.reduceOfNat, Int.reduceNegSucc]⟩ : CO Tryz.f93).1
theorem code93 : CodeIs Tryz.prog 93 3 c93 [.tmp 0] := ⟨fun a w => Tryz.call93 a w, ⟨_, _, Tryz.func93, rfl, by kernel_rfl, by kernel_rfl, rfl, rfl⟩, mixed⟩
/- (*viaduct/cspf.layers).offer -/
def c94 : SC := (⟨_, by conv => lhs; reduce; try simp only [mkA, Int.reduceOfNat, Int.reduceNegSucc]⟩ : CO Tryz.f94).1
theorem code94 : CodeIs Tryz.prog 94 60 c94 [] := ⟨fun a w => Tryz.call94 a w, ⟨_, _, Tryz.func94, rfl, by kernel_rfl, by kernel_rfl, rfl, rfl⟩, mixed⟩
/- (*viaduct/queue.Queue).Pop -/
def c95 : SC := (⟨_, by conv => lhs; reduce; try simp only [mkA, Int.reduceOfNat, Int.reduceNegSucc]⟩ : CO Tryz.f95).1
theorem code95 : CodeIs Tryz.prog 95 26 c95 [.cell 2 185, .tmp 3] := ⟨fun a w => Tryz.call95 a w, ⟨_, _, Tryz.func95, rfl, by kernel_rfl, by kernel_rfl, rfl, rfl⟩, mixed⟩
/- (*viaduct/cspf.layers).settle -/
def c96 : SC := (⟨_, by conv => lhs; reduce; try simp only [mkA, Int.reduceOfNat, Int.reduceNegSucc]⟩ : CO Tryz.f96).1
theorem code96 : CodeIs Tryz.prog 96 88 c96 [] := ⟨fun a w => Tryz.call96 a w, ⟨_, _, Tryz.func96, rfl, by kernel_rfl, by kernel_rfl, rfl, rfl⟩, mixed⟩
/- viaduct/spf.Better -/
def c97 : SC := (⟨_, by conv => lhs; reduce; try simp only [mkA, Int.reduceOfNat, Int.reduceNegSucc]⟩ : CO Tryz.f97).1
theorem code97 : CodeIs Tryz.prog 97 31 c97 [.tmp 8] := ⟨fun a w => Tryz.call97 a w, ⟨_, _, Tryz.func97, rfl, by kernel_rfl, by kernel_rfl, rfl, rfl⟩, mixed⟩
/- viaduct/viaductref12.Common -/
def c98 : SC := (⟨_, by conv => lhs; reduce; try simp only [mkA, Int.reduceOfNat, Int.reduceNegSucc]⟩ : CO Tryz.f98).1
theorem code98 : CodeIs Tryz.prog 98 22 c98 [.tmp 4] := ⟨fun a w => Tryz.call98 a w, ⟨_, _, Tryz.func98, rfl, by kernel_rfl, by kernel_rfl, rfl, rfl⟩, mixed⟩
/- viaduct/viaductref12.within -/
def c99 : SC := (⟨_, by conv => lhs; reduce; try simp only [mkA, Int.reduceOfNat, Int.reduceNegSucc]⟩ : CO Tryz.f99).1
theorem code99 : CodeIs Tryz.prog 99 22 c99 [.tmp 4] := ⟨fun a w => Tryz.call99 a w, ⟨_, _, Tryz.func99, rfl, by kernel_rfl, by kernel_rfl, rfl, rfl⟩, mixed⟩
/- viaduct/graph.Check$1 -/
def c101 : SC := (⟨_, by conv => lhs; reduce; try simp only [mkA, Int.reduceOfNat, Int.reduceNegSucc]⟩ : CO Tryz.f101).1
theorem code101 : CodeIs Tryz.prog 101 11 c101 [.tmp 3] := ⟨fun a w => Tryz.call101 a w, ⟨_, _, Tryz.func101, rfl, by kernel_rfl, by kernel_rfl, rfl, rfl⟩, mixed⟩
/- viaduct/prune.Fits -/
def c102 : SC := (⟨_, by conv => lhs; reduce; try simp only [mkA, Int.reduceOfNat, Int.reduceNegSucc]⟩ : CO Tryz.f102).1
theorem code102 : CodeIs Tryz.prog 102 54 c102 [.tmp 4] := ⟨fun a w => Tryz.call102 a w, ⟨_, _, Tryz.func102, rfl, by kernel_rfl, by kernel_rfl, rfl, rfl⟩, mixed⟩
/- (*viaduct/queue.Queue).Push -/
def c103 : SC := (⟨_, by conv => lhs; reduce; try simp only [mkA, Int.reduceOfNat, Int.reduceNegSucc]⟩ : CO Tryz.f103).1
theorem code103 : CodeIs Tryz.prog 103 37 c103 [.tmp 4] := ⟨fun a w => Tryz.call103 a w, ⟨_, _, Tryz.func103, rfl, by kernel_rfl, by kernel_rfl, rfl, rfl⟩, mixed⟩
/- (*viaduct/queue.Queue).good -/
def c104 : SC := (⟨_, by conv => lhs; reduce; try simp only [mkA, Int.reduceOfNat, Int.reduceNegSucc]⟩ : CO Tryz.f104).1
theorem code104 : CodeIs Tryz.prog 104 11 c104 [.tmp 2] := ⟨fun a w => Tryz.call104 a w, ⟨_, _, Tryz.func104, rfl, by kernel_rfl, by kernel_rfl, rfl, rfl⟩, mixed⟩
/- (*viaduct/queue.Queue).Len -/
def c105 : SC := (⟨_, by conv => lhs; reduce; try simp only [mkA, Int.reduceOfNat, Int.reduceNegSucc]⟩ : CO Tryz.f105).1
theorem code105 : CodeIs Tryz.prog 105 12 c105 [.tmp 2] := ⟨fun a w => Tryz.call105 a w, ⟨_, _, Tryz.func105, rfl, by kernel_rfl, by kernel_rfl, rfl, rfl⟩, mixed⟩
/- container/heap.Pop -/
def c106 : SC := (⟨_, by conv => lhs; reduce; try simp only [mkA, Int.reduceOfNat, Int.reduceNegSucc]⟩ : CO Tryz.f106).1
theorem code106 : CodeIs Tryz.prog 106 15 c106 [.tmp 2] := ⟨fun a w => Tryz.call106 a w, ⟨_, _, Tryz.func106, rfl, by kernel_rfl, by kernel_rfl, rfl, rfl⟩, mixed⟩
/- viaduct/graph.Outs -/
def c107 : SC := (⟨_, by conv => lhs; reduce; try simp only [mkA, Int.reduceOfNat, Int.reduceNegSucc]⟩ : CO Tryz.f107).1
theorem code107 : CodeIs Tryz.prog 107 28 c107 [.tmp 4] := ⟨fun a w => Tryz.call107 a w, ⟨_, _, Tryz.func107, rfl, by kernel_rfl, by kernel_rfl, rfl, rfl⟩, mixed⟩
/- viaduct/cspf.has -/
def c108 : SC := (⟨_, by conv => lhs; reduce; try simp only [mkA, Int.reduceOfNat, Int.reduceNegSucc]⟩ : CO Tryz.f108).1
theorem code108 : CodeIs Tryz.prog 108 17 c108 [.tmp 4] := ⟨fun a w => Tryz.call108 a w, ⟨_, _, Tryz.func108, rfl, by kernel_rfl, by kernel_rfl, rfl, rfl⟩, mixed⟩
/- slices.Compare[[]int,int] -/
def c109 : SC := (⟨_, by conv => lhs; reduce; try simp only [mkA, Int.reduceOfNat, Int.reduceNegSucc]⟩ : CO Tryz.f109).1
theorem code109 : CodeIs Tryz.prog 109 36 c109 [.tmp 4] := ⟨fun a w => Tryz.call109 a w, ⟨_, _, Tryz.func109, rfl, by kernel_rfl, by kernel_rfl, rfl, rfl⟩, mixed⟩
/- viaduct/group.Allows -/
def c110 : SC := (⟨_, by conv => lhs; reduce; try simp only [mkA, Int.reduceOfNat, Int.reduceNegSucc]⟩ : CO Tryz.f110).1
theorem code110 : CodeIs Tryz.prog 110 31 c110 [.tmp 4] := ⟨fun a w => Tryz.call110 a w, ⟨_, _, Tryz.func110, rfl, by kernel_rfl, by kernel_rfl, rfl, rfl⟩, mixed⟩
/- (viaduct/prune.Ask).keeps -/
def c111 : SC := (⟨_, by conv => lhs; reduce; try simp only [mkA, Int.reduceOfNat, Int.reduceNegSucc]⟩ : CO Tryz.f111).1
theorem code111 : CodeIs Tryz.prog 111 27 c111 [.tmp 4] := ⟨fun a w => Tryz.call111 a w, ⟨_, _, Tryz.func111, rfl, by kernel_rfl, by kernel_rfl, rfl, rfl⟩, mixed⟩
/- viaduct/ledger.Add -/
def c112 : SC := (⟨_, by conv => lhs; reduce; try simp only [mkA, Int.reduceOfNat, Int.reduceNegSucc]⟩ : CO Tryz.f112).1
theorem code112 : CodeIs Tryz.prog 112 17 c112 [.tmp 4, .tmp 5] := ⟨fun a w => Tryz.call112 a w, ⟨_, _, Tryz.func112, rfl, by kernel_rfl, by kernel_rfl, rfl, rfl⟩, mixed⟩
/- (viaduct/prune.Ask).has -/
def c113 : SC := (⟨_, by conv => lhs; reduce; try simp only [mkA, Int.reduceOfNat, Int.reduceNegSucc]⟩ : CO Tryz.f113).1
theorem code113 : CodeIs Tryz.prog 113 33 c113 [.tmp 4] := ⟨fun a w => Tryz.call113 a w, ⟨_, _, Tryz.func113, rfl, by kernel_rfl, by kernel_rfl, rfl, rfl⟩, mixed⟩
/- container/heap.Fix -/
def c114 : SC := (⟨_, by conv => lhs; reduce; try simp only [mkA, Int.reduceOfNat, Int.reduceNegSucc]⟩ : CO Tryz.f114).1
theorem code114 : CodeIs Tryz.prog 114 13 c114 [] := ⟨fun a w => Tryz.call114 a w, ⟨_, _, Tryz.func114, rfl, by kernel_rfl, by kernel_rfl, rfl, rfl⟩, mixed⟩
/- (*viaduct/queue.items).Len -/
def c115 : SC := (⟨_, by conv => lhs; reduce; try simp only [mkA, Int.reduceOfNat, Int.reduceNegSucc]⟩ : CO Tryz.f115).1
theorem code115 : CodeIs Tryz.prog 115 8 c115 [.tmp 2] := ⟨fun a w => Tryz.call115 a w, ⟨_, _, Tryz.func115, rfl, by kernel_rfl, by kernel_rfl, rfl, rfl⟩, mixed⟩
/- container/heap.down -/
def c116 : SC := (⟨_, by conv => lhs; reduce; try simp only [mkA, Int.reduceOfNat, Int.reduceNegSucc]⟩ : CO Tryz.f116).1
theorem code116 : CodeIs Tryz.prog 116 48 c116 [.tmp 6] := ⟨fun a w => Tryz.call116 a w, ⟨_, _, Tryz.func116, rfl, by kernel_rfl, by kernel_rfl, rfl, rfl⟩, mixed⟩
/- slices.SortStableFunc[[]int,int] -/
def c117 : SC := (⟨_, by conv => lhs; reduce; try simp only [mkA, Int.reduceOfNat, Int.reduceNegSucc]⟩ : CO Tryz.f117).1
theorem code117 : CodeIs Tryz.prog 117 9 c117 [] := ⟨fun a w => Tryz.call117 a w, ⟨_, _, Tryz.func117, rfl, by kernel_rfl, by kernel_rfl, rfl, rfl⟩, mixed⟩
/- viaduct/graph.Outs$1 -/
def c118 : SC := (⟨_, by conv => lhs; reduce; try simp only [mkA, Int.reduceOfNat, Int.reduceNegSucc]⟩ : CO Tryz.f118).1
theorem code118 : CodeIs Tryz.prog 118 17 c118 [.tmp 5] := ⟨fun a w => Tryz.call118 a w, ⟨_, _, Tryz.func118, rfl, by kernel_rfl, by kernel_rfl, rfl, rfl⟩, mixed⟩
/- cmp.Compare[int] -/
def c119 : SC := (⟨_, by conv => lhs; reduce; try simp only [mkA, Int.reduceOfNat, Int.reduceNegSucc]⟩ : CO Tryz.f119).1
theorem code119 : CodeIs Tryz.prog 119 20 c119 [.tmp 4] := ⟨fun a w => Tryz.call119 a w, ⟨_, _, Tryz.func119, rfl, by kernel_rfl, by kernel_rfl, rfl, rfl⟩, mixed⟩
/- slices.Contains[[]int,int] -/
def c120 : SC := (⟨_, by conv => lhs; reduce; try simp only [mkA, Int.reduceOfNat, Int.reduceNegSucc]⟩ : CO Tryz.f120).1
theorem code120 : CodeIs Tryz.prog 120 9 c120 [.tmp 4] := ⟨fun a w => Tryz.call120 a w, ⟨_, _, Tryz.func120, rfl, by kernel_rfl, by kernel_rfl, rfl, rfl⟩, mixed⟩
/- slices.Contains[[][2]int,[2]int] -/
def c121 : SC := (⟨_, by conv => lhs; reduce; try simp only [mkA, Int.reduceOfNat, Int.reduceNegSucc]⟩ : CO Tryz.f121).1
theorem code121 : CodeIs Tryz.prog 121 9 c121 [.tmp 4] := ⟨fun a w => Tryz.call121 a w, ⟨_, _, Tryz.func121, rfl, by kernel_rfl, by kernel_rfl, rfl, rfl⟩, mixed⟩
/- container/heap.up -/
def c123 : SC := (⟨_, by conv => lhs; reduce; try simp only [mkA, Int.reduceOfNat, Int.reduceNegSucc]⟩ : CO Tryz.f123).1
theorem code123 : CodeIs Tryz.prog 123 23 c123 [] := ⟨fun a w => Tryz.call123 a w, ⟨_, _, Tryz.func123, rfl, by kernel_rfl, by kernel_rfl, rfl, rfl⟩, mixed⟩
/- slices.stableCmpFunc[int] -/
def c124 : SC := (⟨_, by conv => lhs; reduce; try simp only [mkA, Int.reduceOfNat, Int.reduceNegSucc]⟩ : CO Tryz.f124).1
theorem code124 : CodeIs Tryz.prog 124 63 c124 [] := ⟨fun a w => Tryz.call124 a w, ⟨_, _, Tryz.func124, rfl, by kernel_rfl, by kernel_rfl, rfl, rfl⟩, mixed⟩
/- cmp.isNaN[int] -/
def c125 : SC := (⟨_, by conv => lhs; reduce; try simp only [mkA, Int.reduceOfNat, Int.reduceNegSucc]⟩ : CO Tryz.f125).1
theorem code125 : CodeIs Tryz.prog 125 6 c125 [.tmp 2] := ⟨fun a w => Tryz.call125 a w, ⟨_, _, Tryz.func125, rfl, by kernel_rfl, by kernel_rfl, rfl, rfl⟩, mixed⟩
/- slices.Index[[]int,int] -/
def c126 : SC := (⟨_, by conv => lhs; reduce; try simp only [mkA, Int.reduceOfNat, Int.reduceNegSucc]⟩ : CO Tryz.f126).1
theorem code126 : CodeIs Tryz.prog 126 19 c126 [.tmp 4] := ⟨fun a w => Tryz.call126 a w, ⟨_, _, Tryz.func126, rfl, by kernel_rfl, by kernel_rfl, rfl, rfl⟩, mixed⟩
/- slices.Index[[][2]int,[2]int] -/
def c127 : SC := (⟨_, by conv => lhs; reduce; try simp only [mkA, Int.reduceOfNat, Int.reduceNegSucc]⟩ : CO Tryz.f127).1
theorem code127 : CodeIs Tryz.prog 127 19 c127 [.tmp 4] := ⟨fun a w => Tryz.call127 a w, ⟨_, _, Tryz.func127, rfl, by kernel_rfl, by kernel_rfl, rfl, rfl⟩, mixed⟩
/- slices.insertionSortCmpFunc[int] -/
def c128 : SC := (.seq (.reg [.p 10 (.move (.tmp 1)), .p 11 (.binOp .add 3 (.tmp 10) (.const (.int .i64 1)) 3), .p 8 (.assign (.tmp 11))]) (.block 0 (.loop (.seq (.seq (.reg [.p 12 (.move (.tmp 8)), .p 13 (.move (.tmp 2)), .p 14 (.binOp .lss 3 (.tmp 12) (.tmp 13) 3)]) (.cond (.tmp 14) .skip (.exit 0))) (.seq (.block 1 (.seq (.reg [.p 17 (.move (.tmp 8)), .p 9 (.assign (.tmp 17))]) (.block 2 (.loop (.seq (.seq (.reg [.p 18 (.move (.tmp 9)), .p 19 (.move (.tmp 1)), .p 20 (.binOp .gtr 3 (.tmp 18) (.tmp 19) 3), .p 21 (.move (.tmp 20)), .g 21 true 22 (.move (.tmp 3)), .g 21 true 23 (.move (.tmp 0)), .g 21 true 24 (.move (.tmp 9)), .g 21 true 25 (.indexAddr 61 (.tmp 23) (.tmp 24)), .g 21 true 26 (.load 3 (.tmp 25)), .g 21 true 27 (.move (.tmp 0)), .g 21 true 28 (.move (.tmp 9)), .g 21 true 29 (.binOp .sub 3 (.tmp 28) (.const (.int .i64 1)) 3), .g 21 true 30 (.indexAddr 61 (.tmp 27) (.tmp 29)), .g 21 true 31 (.load 3 (.tmp 30)), .g 21 true 32 (.call ⟨.value (.tmp 22), #[(.tmp 26), (.tmp 31)], #[3, 3]⟩), .g 21 true 33 (.binOp .lss 3 (.tmp 32) (.const (.int .i64 0)) 3), .p 34 (.pick (.tmp 21) (.tmp 33) (.const (.bool false)))]) (.cond (.tmp 34) .skip (.exit 2))) (.seq (.block 3 (.reg [.p 37 (.move (.tmp 0)), .p 38 (.move (.tmp 9)), .p 39 (.move (.tmp 0)), .p 40 (.move (.tmp 9)), .p 41 (.binOp .sub 3 (.tmp 40) (.const (.int .i64 1)) 3), .p 42 (.move (.tmp 0)), .p 43 (.move (.tmp 9)), .p 44 (.binOp .sub 3 (.tmp 43) (.const (.int .i64 1)) 3), .p 45 (.indexAddr 61 (.tmp 42) (.tmp 44)), .p 46 (.load 3 (.tmp 45)), .p 47 (.move (.tmp 0)), .p 48 (.move (.tmp 9)), .p 49 (.indexAddr 61 (.tmp 47) (.tmp 48)), .p 50 (.load 3 (.tmp 49)), .p 51 (.indexAddr 61 (.tmp 37) (.tmp 38)), .n (.store 3 (.tmp 51) (.tmp 46)), .p 52 (.indexAddr 61 (.tmp 39) (.tmp 41)), .n (.store 3 (.tmp 52) (.tmp 50))])) (.reg [.p 35 (.move (.tmp 9)), .p 36 (.binOp .sub 3 (.tmp 35) (.const (.int .i64 1)) 3), .p 9 (.assign (.tmp 36))]))))))) (.reg [.p 15 (.move (.tmp 8)), .p 16 (.binOp .add 3 (.tmp 15) (.const (.int .i64 1)) 3), .p 8 (.assign (.tmp 16))]))))))
theorem code128 : CodeIs Tryz.prog 128 53 c128 [] := ⟨fun a w => Tryz.call128 a w, ⟨_, _, Tryz.func128, rfl, by kernel_rfl, by kernel_rfl, rfl, rfl⟩, mixed⟩
/- (*viaduct/queue.items).Less -/
def c148 : SC := (⟨_, by conv => lhs; reduce; try simp only [mkA, Int.reduceOfNat, Int.reduceNegSucc]⟩ : CO Tryz.f148).1
theorem code148 : CodeIs Tryz.prog 148 22 c148 [.tmp 6] := ⟨fun a w => Tryz.call148 a w, ⟨_, _, Tryz.func148, rfl, by kernel_rfl, by kernel_rfl, rfl, rfl⟩, mixed⟩
/- (*viaduct/queue.items).Pop -/
def c149 : SC := (⟨_, by conv => lhs; reduce; try simp only [mkA, Int.reduceOfNat, Int.reduceNegSucc]⟩ : CO Tryz.f149).1
theorem code149 : CodeIs Tryz.prog 149 29 c149 [.tmp 2] := ⟨fun a w => Tryz.call149 a w, ⟨_, _, Tryz.func149, rfl, by kernel_rfl, by kernel_rfl, rfl, rfl⟩, mixed⟩
/- (*viaduct/queue.items).Swap -/
def c150 : SC := (.reg [.p 6 (.move (.tmp 0)), .p 7 (.nilCheck (.tmp 6)), .p 8 (.fieldAddr 201 (.tmp 7) 0), .p 9 (.load 199 (.tmp 8)), .p 10 (.move (.tmp 1)), .p 11 (.move (.tmp 0)), .p 12 (.nilCheck (.tmp 11)), .p 13 (.fieldAddr 201 (.tmp 12) 0), .p 14 (.load 199 (.tmp 13)), .p 15 (.move (.tmp 2)), .p 16 (.move (.tmp 0)), .p 17 (.nilCheck (.tmp 16)), .p 18 (.fieldAddr 201 (.tmp 17) 0), .p 19 (.load 199 (.tmp 18)), .p 20 (.move (.tmp 2)), .p 21 (.indexAddr 199 (.tmp 19) (.tmp 20)), .p 22 (.load 185 (.tmp 21)), .p 23 (.move (.tmp 0)), .p 24 (.nilCheck (.tmp 23)), .p 25 (.fieldAddr 201 (.tmp 24) 0), .p 26 (.load 199 (.tmp 25)), .p 27 (.move (.tmp 1)), .p 28 (.indexAddr 199 (.tmp 26) (.tmp 27)), .p 29 (.load 185 (.tmp 28)), .p 30 (.indexAddr 199 (.tmp 9) (.tmp 10)), .n (.store 185 (.tmp 30) (.tmp 22)), .p 31 (.indexAddr 199 (.tmp 14) (.tmp 15)), .n (.store 185 (.tmp 31) (.tmp 29))])
theorem code150 : CodeIs Tryz.prog 150 32 c150 [] := ⟨fun a w => Tryz.call150 a w, ⟨_, _, Tryz.func150, rfl, by kernel_rfl, by kernel_rfl, rfl, rfl⟩, mixed⟩
/- viaduct/queue.Less -/
def c151 : SC := (⟨_, by conv => lhs; reduce; try simp only [mkA, Int.reduceOfNat, Int.reduceNegSucc]⟩ : CO Tryz.f151).1
theorem code151 : CodeIs Tryz.prog 151 32 c151 [.tmp 4] := ⟨fun a w => Tryz.call151 a w, ⟨_, _, Tryz.func151, rfl, by kernel_rfl, by kernel_rfl, rfl, rfl⟩, mixed⟩
end Go.Proofs.YtnlopamlmojbgaaGreat.AC
