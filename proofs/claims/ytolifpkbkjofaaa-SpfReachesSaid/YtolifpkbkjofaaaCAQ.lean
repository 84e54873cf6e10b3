/-
  Facts on the types of the program.
-/
import Derived.Test.YtolifpkbkjofaaaProg
import Derived.Test.YtolifpkbkjofaaaP2
import Derived.KernelRfl
set_option linter.unusedSimpArgs false
set_option linter.unusedVariables false
/- What simp needs to know of the program's types. -/
namespace Go.Proofs.Ytolifpkbkjofaaa.AQ
open Go Go.AI Go.Proofs
@[simp] theorem sz3 : szOf Try.prog 3 = some 1 := by kernel_rfl
@[simp] theorem sz4 : szOf Try.prog 4 = some 1 := by kernel_rfl
@[simp] theorem sz23 : szOf Try.prog 23 = some 1 := by kernel_rfl
@[simp] theorem sz28 : szOf Try.prog 28 = some 1 := by kernel_rfl
@[simp] theorem sz37 : szOf Try.prog 37 = some 2 := by kernel_rfl
@[simp] theorem sz50 : szOf Try.prog 50 = some 1 := by kernel_rfl
@[simp] theorem sz51 : szOf Try.prog 51 = some 1 := by kernel_rfl
@[simp] theorem sz53 : szOf Try.prog 53 = some 5 := by kernel_rfl
@[simp] theorem sz57 : szOf Try.prog 57 = some 1 := by kernel_rfl
@[simp] theorem sz58 : szOf Try.prog 58 = some 1 := by kernel_rfl
@[simp] theorem sz63 : szOf Try.prog 63 = some 3 := by kernel_rfl
@[simp] theorem sz67 : szOf Try.prog 67 = some 3 := by kernel_rfl
@[simp] theorem sz78 : szOf Try.prog 78 = some 2 := by kernel_rfl
@[simp] theorem sz80 : szOf Try.prog 80 = some 1 := by kernel_rfl
@[simp] theorem sz82 : szOf Try.prog 82 = some 1 := by kernel_rfl
@[simp] theorem sz84 : szOf Try.prog 84 = some 2 := by kernel_rfl
@[simp] theorem ag3 : aggOf Try.prog 3 = some false := by kernel_rfl
@[simp] theorem ag4 : aggOf Try.prog 4 = some false := by kernel_rfl
@[simp] theorem ag23 : aggOf Try.prog 23 = some false := by kernel_rfl
@[simp] theorem ag28 : aggOf Try.prog 28 = some false := by kernel_rfl
@[simp] theorem ag37 : aggOf Try.prog 37 = some true := by kernel_rfl
@[simp] theorem ag53 : aggOf Try.prog 53 = some true := by kernel_rfl
@[simp] theorem ag57 : aggOf Try.prog 57 = some false := by kernel_rfl
@[simp] theorem ag58 : aggOf Try.prog 58 = some false := by kernel_rfl
@[simp] theorem ag63 : aggOf Try.prog 63 = some true := by kernel_rfl
@[simp] theorem ag67 : aggOf Try.prog 67 = some true := by kernel_rfl
@[simp] theorem ag78 : aggOf Try.prog 78 = some true := by kernel_rfl
@[simp] theorem ag80 : aggOf Try.prog 80 = some false := by kernel_rfl
@[simp] theorem ag82 : aggOf Try.prog 82 = some true := by kernel_rfl
@[simp] theorem ze3 : zeroOf Try.prog 3 = some (.int .i64 0) := by kernel_rfl
@[simp] theorem ze4 : zeroOf Try.prog 4 = some (.bool false) := by kernel_rfl
@[simp] theorem ze23 : zeroOf Try.prog 23 = some (.slice none 0 0) := by kernel_rfl
@[simp] theorem ze37 : zeroOf Try.prog 37 = some (.agg #[(.slice none 0 0), (.int .i64 0)]) := by kernel_rfl
@[simp] theorem ze53 : zeroOf Try.prog 53 = some (.agg #[(.int .i64 0), (.int .i64 0), (.int .u64 0), (.int .i64 0), (.int .u32 0)]) := by kernel_rfl
@[simp] theorem ze61 : zeroOf Try.prog 61 = some (.agg #[(.slice none 0 0), (.slice none 0 0), (.pointer none)]) := by kernel_rfl
@[simp] theorem ze63 : zeroOf Try.prog 63 = some (.agg #[(.slice none 0 0), (.int .i64 0), (.bool false)]) := by kernel_rfl
@[simp] theorem ze67 : zeroOf Try.prog 67 = some (.agg #[(.int .i64 0), (.int .i64 0), (.int .i64 0)]) := by kernel_rfl
@[simp] theorem ze78 : zeroOf Try.prog 78 = some (.agg #[(.int .i64 0), (.int .i64 0)]) := by kernel_rfl
@[simp] theorem ze84 : zeroOf Try.prog 84 = some (.agg #[(.bool false), (.slice none 0 0)]) := by kernel_rfl
@[simp] theorem by3 : byOf Try.prog 3 = some 8 := by kernel_rfl
@[simp] theorem by4 : byOf Try.prog 4 = some 1 := by kernel_rfl
@[simp] theorem by23 : byOf Try.prog 23 = some 24 := by kernel_rfl
@[simp] theorem by37 : byOf Try.prog 37 = some 32 := by kernel_rfl
@[simp] theorem by53 : byOf Try.prog 53 = some 40 := by kernel_rfl
@[simp] theorem by63 : byOf Try.prog 63 = some 40 := by kernel_rfl
@[simp] theorem by67 : byOf Try.prog 67 = some 24 := by kernel_rfl
@[simp] theorem fd37x0 : fieldOf Try.prog 37 0 = some (0, 23) := by kernel_rfl
@[simp] theorem fd37x1 : fieldOf Try.prog 37 1 = some (1, 3) := by kernel_rfl
@[simp] theorem fd53x0 : fieldOf Try.prog 53 0 = some (0, 3) := by kernel_rfl
@[simp] theorem fd53x1 : fieldOf Try.prog 53 1 = some (1, 3) := by kernel_rfl
@[simp] theorem fd53x3 : fieldOf Try.prog 53 3 = some (3, 3) := by kernel_rfl
@[simp] theorem fd61x0 : fieldOf Try.prog 61 0 = some (0, 28) := by kernel_rfl
@[simp] theorem fd61x1 : fieldOf Try.prog 61 1 = some (1, 57) := by kernel_rfl
@[simp] theorem fd61x2 : fieldOf Try.prog 61 2 = some (2, 58) := by kernel_rfl
@[simp] theorem fd63x0 : fieldOf Try.prog 63 0 = some (0, 23) := by kernel_rfl
@[simp] theorem fd63x1 : fieldOf Try.prog 63 1 = some (1, 3) := by kernel_rfl
@[simp] theorem fd63x2 : fieldOf Try.prog 63 2 = some (2, 4) := by kernel_rfl
@[simp] theorem fd67x0 : fieldOf Try.prog 67 0 = some (0, 3) := by kernel_rfl
@[simp] theorem fd67x1 : fieldOf Try.prog 67 1 = some (1, 3) := by kernel_rfl
@[simp] theorem fd67x2 : fieldOf Try.prog 67 2 = some (2, 3) := by kernel_rfl
@[simp] theorem fd82x0 : fieldOf Try.prog 82 0 = some (0, 80) := by kernel_rfl
@[simp] theorem fd84x0 : fieldOf Try.prog 84 0 = some (0, 4) := by kernel_rfl
@[simp] theorem fd84x1 : fieldOf Try.prog 84 1 = some (1, 82) := by kernel_rfl
@[simp] theorem sl23 : sliceElem Try.prog 23 = some 3 := by kernel_rfl
@[simp] theorem sl28 : sliceElem Try.prog 28 = some 53 := by kernel_rfl
@[simp] theorem sl29 : sliceElem Try.prog 29 = some 23 := by kernel_rfl
@[simp] theorem sl33 : sliceElem Try.prog 33 = some 37 := by kernel_rfl
@[simp] theorem sl48 : sliceElem Try.prog 48 = some 4 := by kernel_rfl
@[simp] theorem sl57 : sliceElem Try.prog 57 = some 63 := by kernel_rfl
@[simp] theorem sl80 : sliceElem Try.prog 80 = some 67 := by kernel_rfl
@[simp] theorem ar22 : arrElem Try.prog 22 = some (2, 3) := by kernel_rfl
@[simp] theorem ik3 : intKind Try.prog 3 = some .i64 := by kernel_rfl
@[simp] theorem ik104 : intKind Try.prog 104 = some .u64 := by kernel_rfl
@[simp] theorem us3 : (Try.prog.underlying 3).isSome = true := by kernel_rfl
@[simp] theorem us104 : (Try.prog.underlying 104).isSome = true := by kernel_rfl
@[simp] theorem mo76 : mapOf Try.prog 76 = some (78, 3) := by kernel_rfl
@[simp] theorem ni23 : notInt Try.prog 23 = true := by kernel_rfl
@[simp] theorem ni33 : notInt Try.prog 33 = true := by kernel_rfl
@[simp] theorem ni80 : notInt Try.prog 80 = true := by kernel_rfl
theorem pl37 : plcOf Try.prog 37 = some [(0, 1), (1, 1)] := by kernel_rfl
@[simp] theorem bd37 (ps : List (Nat × Value)) : aBuild Try.prog 37 ps = (fillL (fun i => [(0, 1), (1, 1)][i]?) ((.agg #[(.slice none 0 0), (.int .i64 0)]) : Value).cells.toList ps).map fun cs => .agg cs.toArray := aBuild_struct pl37 ze37 ps
theorem pl53 : plcOf Try.prog 53 = some [(0, 1), (1, 1), (2, 1), (3, 1), (4, 1)] := by kernel_rfl
@[simp] theorem bd53 (ps : List (Nat × Value)) : aBuild Try.prog 53 ps = (fillL (fun i => [(0, 1), (1, 1), (2, 1), (3, 1), (4, 1)][i]?) ((.agg #[(.int .i64 0), (.int .i64 0), (.int .u64 0), (.int .i64 0), (.int .u32 0)]) : Value).cells.toList ps).map fun cs => .agg cs.toArray := aBuild_struct pl53 ze53 ps
theorem pl61 : plcOf Try.prog 61 = some [(0, 1), (1, 1), (2, 1)] := by kernel_rfl
@[simp] theorem bd61 (ps : List (Nat × Value)) : aBuild Try.prog 61 ps = (fillL (fun i => [(0, 1), (1, 1), (2, 1)][i]?) ((.agg #[(.slice none 0 0), (.slice none 0 0), (.pointer none)]) : Value).cells.toList ps).map fun cs => .agg cs.toArray := aBuild_struct pl61 ze61 ps
theorem pl67 : plcOf Try.prog 67 = some [(0, 1), (1, 1), (2, 1)] := by kernel_rfl
@[simp] theorem bd67 (ps : List (Nat × Value)) : aBuild Try.prog 67 ps = (fillL (fun i => [(0, 1), (1, 1), (2, 1)][i]?) ((.agg #[(.int .i64 0), (.int .i64 0), (.int .i64 0)]) : Value).cells.toList ps).map fun cs => .agg cs.toArray := aBuild_struct pl67 ze67 ps
theorem pl78 : plcOf Try.prog 78 = some [(0, 1), (1, 1)] := by kernel_rfl
@[simp] theorem bd78 (ps : List (Nat × Value)) : aBuild Try.prog 78 ps = (fillL (fun i => [(0, 1), (1, 1)][i]?) ((.agg #[(.int .i64 0), (.int .i64 0)]) : Value).cells.toList ps).map fun cs => .agg cs.toArray := aBuild_struct pl78 ze78 ps
theorem pl84 : plcOf Try.prog 84 = some [(0, 1), (1, 1)] := by kernel_rfl
@[simp] theorem bd84 (ps : List (Nat × Value)) : aBuild Try.prog 84 ps = (fillL (fun i => [(0, 1), (1, 1)][i]?) ((.agg #[(.bool false), (.slice none 0 0)]) : Value).cells.toList ps).map fun cs => .agg cs.toArray := aBuild_struct pl84 ze84 ps
@[simp] theorem bs23 (len : Nat) (ps : List (Nat × Value)) (A : AH) : aBuildSlice Try.prog 23 len ps A = if len * 1 ≤ 16777216 then (fillL (fun i => some (i * 1, 1)) (zrep len ((.int .i64 0) : Value).cells.toList) ps).map (fun cs => (.slice (some ⟨A.next, 0, none⟩) len len, A.alloc (.row cs 3 false))) else none := aBuildSlice_eq sl23 sz3 ze3 (by rfl) len ps A
@[simp] theorem bs28 (len : Nat) (ps : List (Nat × Value)) (A : AH) : aBuildSlice Try.prog 28 len ps A = if len * 5 ≤ 16777216 then (fillL (fun i => some (i * 5, 5)) (zrep len ((.agg #[(.int .i64 0), (.int .i64 0), (.int .u64 0), (.int .i64 0), (.int .u32 0)]) : Value).cells.toList) ps).map (fun cs => (.slice (some ⟨A.next, 0, none⟩) len len, A.alloc (.row cs 53 false))) else none := aBuildSlice_eq sl28 sz53 ze53 (by rfl) len ps A
@[simp] theorem bs33 (len : Nat) (ps : List (Nat × Value)) (A : AH) : aBuildSlice Try.prog 33 len ps A = if len * 2 ≤ 16777216 then (fillL (fun i => some (i * 2, 2)) (zrep len ((.agg #[(.slice none 0 0), (.int .i64 0)]) : Value).cells.toList) ps).map (fun cs => (.slice (some ⟨A.next, 0, none⟩) len len, A.alloc (.row cs 37 false))) else none := aBuildSlice_eq sl33 sz37 ze37 (by rfl) len ps A
@[simp] theorem bs80 (len : Nat) (ps : List (Nat × Value)) (A : AH) : aBuildSlice Try.prog 80 len ps A = if len * 3 ≤ 16777216 then (fillL (fun i => some (i * 3, 3)) (zrep len ((.agg #[(.int .i64 0), (.int .i64 0), (.int .i64 0)]) : Value).cells.toList) ps).map (fun cs => (.slice (some ⟨A.next, 0, none⟩) len len, A.alloc (.row cs 67 false))) else none := aBuildSlice_eq sl80 sz67 ze67 (by rfl) len ps A
def zc3 : List Value := ((.int .i64 0) : Value).cells.toList
theorem zc3_ok : zc3.length = 1 ∧ zc3.all oneB = true := ⟨rfl, rfl⟩
def zc4 : List Value := ((.bool false) : Value).cells.toList
theorem zc4_ok : zc4.length = 1 ∧ zc4.all oneB = true := ⟨rfl, rfl⟩
def zc23 : List Value := ((.slice none 0 0) : Value).cells.toList
theorem zc23_ok : zc23.length = 1 ∧ zc23.all oneB = true := ⟨rfl, rfl⟩
def zc63 : List Value := ((.agg #[(.slice none 0 0), (.int .i64 0), (.bool false)]) : Value).cells.toList
theorem zc63_ok : zc63.length = 3 ∧ zc63.all oneB = true := ⟨rfl, rfl⟩
@[simp] theorem mk23 (l c : Value) (A : AH) : aMakeSlice Try.prog 23 l c A = mkW 3 1 8 zc3 l c A := aMakeSlice_eq sl23 sz3 by3 ze3 (by rfl) l c A
@[simp] theorem mk29 (l c : Value) (A : AH) : aMakeSlice Try.prog 29 l c A = mkW 23 1 24 zc23 l c A := aMakeSlice_eq sl29 sz23 by23 ze23 (by rfl) l c A
@[simp] theorem mk48 (l c : Value) (A : AH) : aMakeSlice Try.prog 48 l c A = mkW 4 1 1 zc4 l c A := aMakeSlice_eq sl48 sz4 by4 ze4 (by rfl) l c A
@[simp] theorem mk57 (l c : Value) (A : AH) : aMakeSlice Try.prog 57 l c A = mkW 63 3 40 zc63 l c A := aMakeSlice_eq sl57 sz63 by63 ze63 (by rfl) l c A
@[simp] theorem ap23x23 (s x : Value) (A : AH) : aAppend Try.prog 23 23 s x A = appW 3 1 8 s x A := aAppend_eq ni23 sl23 sz3 by3 ze3 (by rfl) s x A
@[simp] theorem ap33x33 (s x : Value) (A : AH) : aAppend Try.prog 33 33 s x A = appW 37 2 32 s x A := aAppend_eq ni33 sl33 sz37 by37 ze37 (by rfl) s x A
@[simp] theorem ap80x80 (s x : Value) (A : AH) : aAppend Try.prog 80 80 s x A = appW 67 3 24 s x A := aAppend_eq ni80 sl80 sz67 by67 ze67 (by rfl) s x A
@[simp] theorem sc23 (a : Option Addr) (n c : Nat) (lo hi mx : Option Value) (A : AH) : aSlice Try.prog 23 (.slice a n c) lo hi mx A = slW Try.prog 1 a n c lo hi mx A := aSlice_eq sl23 sz3 a n c lo hi mx A
@[simp] theorem sc80 (a : Option Addr) (n c : Nat) (lo hi mx : Option Value) (A : AH) : aSlice Try.prog 80 (.slice a n c) lo hi mx A = slW Try.prog 3 a n c lo hi mx A := aSlice_eq sl80 sz67 a n c lo hi mx A
@[simp] theorem eq3 (A : AH) (k : Nat) (j : IntKind) (a b : Int) : aEq Try.prog A (k + 1) 3 (.int j a) (.int j b) = some (decide (a = b)) := aEq_int (by kernel_rfl) A k j a b
@[simp] theorem eq4 (A : AH) (k : Nat) (a b : Bool) : aEq Try.prog A (k + 1) 4 (.bool a) (.bool b) = some (decide (a = b)) := aEq_bool (by kernel_rfl) A k a b
@[simp] theorem eq23 (A : AH) (k : Nat) (a : Option Addr) (n c n' c' : Nat) : aEq Try.prog A (k + 1) 23 (.slice a n c) (.slice none n' c') = some (decide (a = none)) := aEq_slice (by kernel_rfl) A k a n c n' c'
@[simp] theorem eq30 (A : AH) (k : Nat) (j : IntKind) (a b : Int) : aEq Try.prog A (k + 1) 30 (.int j a) (.int j b) = some (decide (a = b)) := aEq_int (by kernel_rfl) A k j a b
@[simp] theorem eq58 (A : AH) (k : Nat) (a : Option Addr) : aEq Try.prog A (k + 1) 58 (.pointer a) (.pointer none) = some (decide (a = none)) := aEq_ptr (by kernel_rfl) A k a
@[simp] theorem eg78 : Try.prog.eqGuardType Try.prog.depth 78 = false := by kernel_rfl
@[simp] theorem eq78 (A : AH) (k : Nat) (xs ys : List Value) : aEq Try.prog A (k + 1) 78 (.agg ⟨xs⟩) (.agg ⟨ys⟩) = eqL Try.prog A k xs ys [(3, 0), (3, 1)] := aEq_fs (by kernel_rfl) A k xs ys
@[simp] theorem eq80 (A : AH) (k : Nat) (a : Option Addr) (n c n' c' : Nat) : aEq Try.prog A (k + 1) 80 (.slice a n c) (.slice none n' c') = some (decide (a = none)) := aEq_slice (by kernel_rfl) A k a n c n' c'
@[simp] theorem eq104 (A : AH) (k : Nat) (j : IntKind) (a b : Int) : aEq Try.prog A (k + 1) 104 (.int j a) (.int j b) = some (decide (a = b)) := aEq_int (by kernel_rfl) A k j a b
end Go.Proofs.Ytolifpkbkjofaaa.AQ
