/-
  Facts on the types of the program.
-/
import Derived.Test.YtanpbdbicicepaaProg
import Derived.Test.YtanpbdbicicepaaP2
import Derived.KernelRfl
/- What simp needs to know of the program's types. -/
namespace Go.Proofs.Ytanpbdbicicepaa.AQ
open Go Go.AI Go.Proofs
@[simp] theorem sz3 : szOf Try.prog 3 = some 1 := by kernel_rfl
@[simp] theorem sz4 : szOf Try.prog 4 = some 1 := by kernel_rfl
@[simp] theorem sz24 : szOf Try.prog 24 = some 1 := by kernel_rfl
@[simp] theorem sz27 : szOf Try.prog 27 = some 4 := by kernel_rfl
@[simp] theorem sz28 : szOf Try.prog 28 = some 1 := by kernel_rfl
@[simp] theorem sz29 : szOf Try.prog 29 = some 1 := by kernel_rfl
@[simp] theorem sz31 : szOf Try.prog 31 = some 6 := by kernel_rfl
@[simp] theorem sz32 : szOf Try.prog 32 = some 1 := by kernel_rfl
@[simp] theorem sz34 : szOf Try.prog 34 = some 17 := by kernel_rfl
@[simp] theorem sz36 : szOf Try.prog 36 = some 19 := by kernel_rfl
@[simp] theorem sz39 : szOf Try.prog 39 = some 17 := by kernel_rfl
@[simp] theorem sz42 : szOf Try.prog 42 = some 1 := by kernel_rfl
@[simp] theorem sz48 : szOf Try.prog 48 = some 1 := by kernel_rfl
@[simp] theorem sz50 : szOf Try.prog 50 = some 2 := by kernel_rfl
@[simp] theorem sz68 : szOf Try.prog 68 = some 2 := by kernel_rfl
@[simp] theorem ag3 : aggOf Try.prog 3 = some false := by kernel_rfl
@[simp] theorem ag4 : aggOf Try.prog 4 = some false := by kernel_rfl
@[simp] theorem ag24 : aggOf Try.prog 24 = some false := by kernel_rfl
@[simp] theorem ag27 : aggOf Try.prog 27 = some true := by kernel_rfl
@[simp] theorem ag28 : aggOf Try.prog 28 = some false := by kernel_rfl
@[simp] theorem ag29 : aggOf Try.prog 29 = some false := by kernel_rfl
@[simp] theorem ag31 : aggOf Try.prog 31 = some true := by kernel_rfl
@[simp] theorem ag32 : aggOf Try.prog 32 = some false := by kernel_rfl
@[simp] theorem ag34 : aggOf Try.prog 34 = some true := by kernel_rfl
@[simp] theorem ag36 : aggOf Try.prog 36 = some true := by kernel_rfl
@[simp] theorem ag39 : aggOf Try.prog 39 = some true := by kernel_rfl
@[simp] theorem ag42 : aggOf Try.prog 42 = some false := by kernel_rfl
@[simp] theorem ag48 : aggOf Try.prog 48 = some false := by kernel_rfl
@[simp] theorem ag50 : aggOf Try.prog 50 = some true := by kernel_rfl
@[simp] theorem ze3 : zeroOf Try.prog 3 = some (.int .i64 0) := by kernel_rfl
@[simp] theorem ze24 : zeroOf Try.prog 24 = some (.pointer none) := by kernel_rfl
@[simp] theorem ze27 : zeroOf Try.prog 27 = some (.agg #[(.int .i64 0), (.int .i64 0), (.int .i64 0), (.int .i64 0)]) := by kernel_rfl
@[simp] theorem ze34 : zeroOf Try.prog 34 = some (.agg #[(.int .i64 0), (.int .i64 0), (.int .i64 0), (.int .i64 0), (.int .u64 0), (.int .i64 0), (.int .i64 0), (.int .u32 0), (.int .u32 0), (.int .u32 0), (.slice none 0 0), (.int .i64 0), (.int .i64 0), (.int .i64 0), (.int .i64 0), (.int .i64 0), (.int .i64 0)]) := by kernel_rfl
@[simp] theorem ze36 : zeroOf Try.prog 36 = some (.agg #[(.bool false), (.int .i64 0), (.int .i64 0), (.int .i64 0), (.int .i64 0), (.int .u64 0), (.int .i64 0), (.int .i64 0), (.int .u32 0), (.int .u32 0), (.int .u32 0), (.slice none 0 0), (.int .i64 0), (.int .i64 0), (.int .i64 0), (.int .i64 0), (.int .i64 0), (.int .i64 0), (.int .i64 0)]) := by kernel_rfl
@[simp] theorem ze39 : zeroOf Try.prog 39 = some (.agg #[(.int .i64 0), (.int .i64 0), (.int .i64 0), (.int .i64 0), (.int .u64 0), (.int .i64 0), (.int .i64 0), (.int .u32 0), (.int .u32 0), (.int .u32 0), (.slice none 0 0), (.int .i64 0), (.int .i64 0), (.int .i64 0), (.int .i64 0), (.int .i64 0), (.int .i64 0)]) := by kernel_rfl
@[simp] theorem ze50 : zeroOf Try.prog 50 = some (.agg #[(.slice none 0 0), (.int .i64 0)]) := by kernel_rfl
@[simp] theorem ze68 : zeroOf Try.prog 68 = some (.agg #[(.int .i64 0), (.slice none 0 0)]) := by kernel_rfl
@[simp] theorem ze80 : zeroOf Try.prog 80 = some (.agg #[(.int .i64 0), (.int .i64 0), (.int .i64 0), (.int .i64 0), (.int .u64 0), (.slice none 0 0), (.int .u64 0), (.int .i64 0), (.int .i64 0), (.int .u32 0), (.int .u32 0), (.int .u32 0)]) := by kernel_rfl
@[simp] theorem by3 : byOf Try.prog 3 = some 8 := by kernel_rfl
@[simp] theorem by24 : byOf Try.prog 24 = some 8 := by kernel_rfl
@[simp] theorem by27 : byOf Try.prog 27 = some 32 := by kernel_rfl
@[simp] theorem by34 : byOf Try.prog 34 = some 144 := by kernel_rfl
@[simp] theorem by39 : byOf Try.prog 39 = some 144 := by kernel_rfl
@[simp] theorem fd27x0 : fieldOf Try.prog 27 0 = some (0, 3) := by kernel_rfl
@[simp] theorem fd27x1 : fieldOf Try.prog 27 1 = some (1, 3) := by kernel_rfl
@[simp] theorem fd27x2 : fieldOf Try.prog 27 2 = some (2, 3) := by kernel_rfl
@[simp] theorem fd27x3 : fieldOf Try.prog 27 3 = some (3, 3) := by kernel_rfl
@[simp] theorem fd31x1 : fieldOf Try.prog 31 1 = some (1, 3) := by kernel_rfl
@[simp] theorem fd31x2 : fieldOf Try.prog 31 2 = some (2, 3) := by kernel_rfl
@[simp] theorem fd34x0 : fieldOf Try.prog 34 0 = some (0, 27) := by kernel_rfl
@[simp] theorem fd34x1 : fieldOf Try.prog 34 1 = some (4, 31) := by kernel_rfl
@[simp] theorem fd34x2 : fieldOf Try.prog 34 2 = some (10, 32) := by kernel_rfl
@[simp] theorem fd34x3 : fieldOf Try.prog 34 3 = some (11, 3) := by kernel_rfl
@[simp] theorem fd34x4 : fieldOf Try.prog 34 4 = some (12, 3) := by kernel_rfl
@[simp] theorem fd34x5 : fieldOf Try.prog 34 5 = some (13, 3) := by kernel_rfl
@[simp] theorem fd34x6 : fieldOf Try.prog 34 6 = some (14, 3) := by kernel_rfl
@[simp] theorem fd34x7 : fieldOf Try.prog 34 7 = some (15, 3) := by kernel_rfl
@[simp] theorem fd34x8 : fieldOf Try.prog 34 8 = some (16, 3) := by kernel_rfl
@[simp] theorem fd36x0 : fieldOf Try.prog 36 0 = some (0, 4) := by kernel_rfl
@[simp] theorem fd36x1 : fieldOf Try.prog 36 1 = some (1, 34) := by kernel_rfl
@[simp] theorem fd36x2 : fieldOf Try.prog 36 2 = some (18, 3) := by kernel_rfl
@[simp] theorem fd39x0 : fieldOf Try.prog 39 0 = some (0, 27) := by kernel_rfl
@[simp] theorem fd39x1 : fieldOf Try.prog 39 1 = some (4, 31) := by kernel_rfl
@[simp] theorem fd39x2 : fieldOf Try.prog 39 2 = some (10, 32) := by kernel_rfl
@[simp] theorem fd39x3 : fieldOf Try.prog 39 3 = some (11, 3) := by kernel_rfl
@[simp] theorem fd39x4 : fieldOf Try.prog 39 4 = some (12, 3) := by kernel_rfl
@[simp] theorem fd39x5 : fieldOf Try.prog 39 5 = some (13, 3) := by kernel_rfl
@[simp] theorem fd39x6 : fieldOf Try.prog 39 6 = some (14, 3) := by kernel_rfl
@[simp] theorem fd39x7 : fieldOf Try.prog 39 7 = some (15, 3) := by kernel_rfl
@[simp] theorem fd39x8 : fieldOf Try.prog 39 8 = some (16, 3) := by kernel_rfl
@[simp] theorem fd50x0 : fieldOf Try.prog 50 0 = some (0, 48) := by kernel_rfl
@[simp] theorem fd50x1 : fieldOf Try.prog 50 1 = some (1, 3) := by kernel_rfl
@[simp] theorem fd68x0 : fieldOf Try.prog 68 0 = some (0, 3) := by kernel_rfl
@[simp] theorem fd68x1 : fieldOf Try.prog 68 1 = some (1, 42) := by kernel_rfl
@[simp] theorem fd80x0 : fieldOf Try.prog 80 0 = some (0, 3) := by kernel_rfl
@[simp] theorem fd80x1 : fieldOf Try.prog 80 1 = some (1, 3) := by kernel_rfl
@[simp] theorem fd80x2 : fieldOf Try.prog 80 2 = some (2, 3) := by kernel_rfl
@[simp] theorem fd80x3 : fieldOf Try.prog 80 3 = some (3, 3) := by kernel_rfl
@[simp] theorem fd80x4 : fieldOf Try.prog 80 4 = some (4, 28) := by kernel_rfl
@[simp] theorem fd80x5 : fieldOf Try.prog 80 5 = some (5, 32) := by kernel_rfl
@[simp] theorem fd80x6 : fieldOf Try.prog 80 6 = some (6, 31) := by kernel_rfl
@[simp] theorem sl22 : sliceElem Try.prog 22 = some 36 := by kernel_rfl
@[simp] theorem sl32 : sliceElem Try.prog 32 = some 3 := by kernel_rfl
@[simp] theorem sl41 : sliceElem Try.prog 41 = some 27 := by kernel_rfl
@[simp] theorem sl42 : sliceElem Try.prog 42 = some 39 := by kernel_rfl
@[simp] theorem sl48 : sliceElem Try.prog 48 = some 34 := by kernel_rfl
@[simp] theorem sl69 : sliceElem Try.prog 69 = some 24 := by kernel_rfl
@[simp] theorem ik3 : intKind Try.prog 3 = some .i64 := by kernel_rfl
@[simp] theorem us5 : (Try.prog.underlying 5).isSome = true := by kernel_rfl
@[simp] theorem ni3 : notInt Try.prog 3 = false := by kernel_rfl
@[simp] theorem ni32 : notInt Try.prog 32 = true := by kernel_rfl
@[simp] theorem ni41 : notInt Try.prog 41 = true := by kernel_rfl
@[simp] theorem ni42 : notInt Try.prog 42 = true := by kernel_rfl
@[simp] theorem ni48 : notInt Try.prog 48 = true := by kernel_rfl
theorem pl27 : plcOf Try.prog 27 = some [(0, 1), (1, 1), (2, 1), (3, 1)] := by kernel_rfl
@[simp] theorem bd27 (ps : List (Nat × Value)) : aBuild Try.prog 27 ps = (fillL (fun i => [(0, 1), (1, 1), (2, 1), (3, 1)][i]?) ((.agg #[(.int .i64 0), (.int .i64 0), (.int .i64 0), (.int .i64 0)]) : Value).cells.toList ps).map fun cs => .agg cs.toArray := aBuild_struct pl27 ze27 ps
theorem pl34 : plcOf Try.prog 34 = some [(0, 4), (4, 6), (10, 1), (11, 1), (12, 1), (13, 1), (14, 1), (15, 1), (16, 1)] := by kernel_rfl
@[simp] theorem bd34 (ps : List (Nat × Value)) : aBuild Try.prog 34 ps = (fillL (fun i => [(0, 4), (4, 6), (10, 1), (11, 1), (12, 1), (13, 1), (14, 1), (15, 1), (16, 1)][i]?) ((.agg #[(.int .i64 0), (.int .i64 0), (.int .i64 0), (.int .i64 0), (.int .u64 0), (.int .i64 0), (.int .i64 0), (.int .u32 0), (.int .u32 0), (.int .u32 0), (.slice none 0 0), (.int .i64 0), (.int .i64 0), (.int .i64 0), (.int .i64 0), (.int .i64 0), (.int .i64 0)]) : Value).cells.toList ps).map fun cs => .agg cs.toArray := aBuild_struct pl34 ze34 ps
theorem pl39 : plcOf Try.prog 39 = some [(0, 4), (4, 6), (10, 1), (11, 1), (12, 1), (13, 1), (14, 1), (15, 1), (16, 1)] := by kernel_rfl
@[simp] theorem bd39 (ps : List (Nat × Value)) : aBuild Try.prog 39 ps = (fillL (fun i => [(0, 4), (4, 6), (10, 1), (11, 1), (12, 1), (13, 1), (14, 1), (15, 1), (16, 1)][i]?) ((.agg #[(.int .i64 0), (.int .i64 0), (.int .i64 0), (.int .i64 0), (.int .u64 0), (.int .i64 0), (.int .i64 0), (.int .u32 0), (.int .u32 0), (.int .u32 0), (.slice none 0 0), (.int .i64 0), (.int .i64 0), (.int .i64 0), (.int .i64 0), (.int .i64 0), (.int .i64 0)]) : Value).cells.toList ps).map fun cs => .agg cs.toArray := aBuild_struct pl39 ze39 ps
theorem pl50 : plcOf Try.prog 50 = some [(0, 1), (1, 1)] := by kernel_rfl
@[simp] theorem bd50 (ps : List (Nat × Value)) : aBuild Try.prog 50 ps = (fillL (fun i => [(0, 1), (1, 1)][i]?) ((.agg #[(.slice none 0 0), (.int .i64 0)]) : Value).cells.toList ps).map fun cs => .agg cs.toArray := aBuild_struct pl50 ze50 ps
theorem pl68 : plcOf Try.prog 68 = some [(0, 1), (1, 1)] := by kernel_rfl
@[simp] theorem bd68 (ps : List (Nat × Value)) : aBuild Try.prog 68 ps = (fillL (fun i => [(0, 1), (1, 1)][i]?) ((.agg #[(.int .i64 0), (.slice none 0 0)]) : Value).cells.toList ps).map fun cs => .agg cs.toArray := aBuild_struct pl68 ze68 ps
theorem pl80 : plcOf Try.prog 80 = some [(0, 1), (1, 1), (2, 1), (3, 1), (4, 1), (5, 1), (6, 6)] := by kernel_rfl
@[simp] theorem bd80 (ps : List (Nat × Value)) : aBuild Try.prog 80 ps = (fillL (fun i => [(0, 1), (1, 1), (2, 1), (3, 1), (4, 1), (5, 1), (6, 6)][i]?) ((.agg #[(.int .i64 0), (.int .i64 0), (.int .i64 0), (.int .i64 0), (.int .u64 0), (.slice none 0 0), (.int .u64 0), (.int .i64 0), (.int .i64 0), (.int .u32 0), (.int .u32 0), (.int .u32 0)]) : Value).cells.toList ps).map fun cs => .agg cs.toArray := aBuild_struct pl80 ze80 ps
@[simp] theorem bs32 (len : Nat) (ps : List (Nat × Value)) (A : AH) : aBuildSlice Try.prog 32 len ps A = if len * 1 ≤ 16777216 then (fillL (fun i => some (i * 1, 1)) (zrep len ((.int .i64 0) : Value).cells.toList) ps).map (fun cs => (.slice (some ⟨A.next, 0, none⟩) len len, A.alloc (.row cs 3 false))) else none := aBuildSlice_eq sl32 sz3 ze3 (by rfl) len ps A
@[simp] theorem bs41 (len : Nat) (ps : List (Nat × Value)) (A : AH) : aBuildSlice Try.prog 41 len ps A = if len * 4 ≤ 16777216 then (fillL (fun i => some (i * 4, 4)) (zrep len ((.agg #[(.int .i64 0), (.int .i64 0), (.int .i64 0), (.int .i64 0)]) : Value).cells.toList) ps).map (fun cs => (.slice (some ⟨A.next, 0, none⟩) len len, A.alloc (.row cs 27 false))) else none := aBuildSlice_eq sl41 sz27 ze27 (by rfl) len ps A
@[simp] theorem bs42 (len : Nat) (ps : List (Nat × Value)) (A : AH) : aBuildSlice Try.prog 42 len ps A = if len * 17 ≤ 16777216 then (fillL (fun i => some (i * 17, 17)) (zrep len ((.agg #[(.int .i64 0), (.int .i64 0), (.int .i64 0), (.int .i64 0), (.int .u64 0), (.int .i64 0), (.int .i64 0), (.int .u32 0), (.int .u32 0), (.int .u32 0), (.slice none 0 0), (.int .i64 0), (.int .i64 0), (.int .i64 0), (.int .i64 0), (.int .i64 0), (.int .i64 0)]) : Value).cells.toList) ps).map (fun cs => (.slice (some ⟨A.next, 0, none⟩) len len, A.alloc (.row cs 39 false))) else none := aBuildSlice_eq sl42 sz39 ze39 (by rfl) len ps A
@[simp] theorem bs48 (len : Nat) (ps : List (Nat × Value)) (A : AH) : aBuildSlice Try.prog 48 len ps A = if len * 17 ≤ 16777216 then (fillL (fun i => some (i * 17, 17)) (zrep len ((.agg #[(.int .i64 0), (.int .i64 0), (.int .i64 0), (.int .i64 0), (.int .u64 0), (.int .i64 0), (.int .i64 0), (.int .u32 0), (.int .u32 0), (.int .u32 0), (.slice none 0 0), (.int .i64 0), (.int .i64 0), (.int .i64 0), (.int .i64 0), (.int .i64 0), (.int .i64 0)]) : Value).cells.toList) ps).map (fun cs => (.slice (some ⟨A.next, 0, none⟩) len len, A.alloc (.row cs 34 false))) else none := aBuildSlice_eq sl48 sz34 ze34 (by rfl) len ps A
@[simp] theorem bs69 (len : Nat) (ps : List (Nat × Value)) (A : AH) : aBuildSlice Try.prog 69 len ps A = if len * 1 ≤ 16777216 then (fillL (fun i => some (i * 1, 1)) (zrep len ((.pointer none) : Value).cells.toList) ps).map (fun cs => (.slice (some ⟨A.next, 0, none⟩) len len, A.alloc (.row cs 24 false))) else none := aBuildSlice_eq sl69 sz24 ze24 (by rfl) len ps A
def zc39 : List Value := ((.agg #[(.int .i64 0), (.int .i64 0), (.int .i64 0), (.int .i64 0), (.int .u64 0), (.int .i64 0), (.int .i64 0), (.int .u32 0), (.int .u32 0), (.int .u32 0), (.slice none 0 0), (.int .i64 0), (.int .i64 0), (.int .i64 0), (.int .i64 0), (.int .i64 0), (.int .i64 0)]) : Value).cells.toList
theorem zc39_ok : zc39.length = 17 ∧ zc39.all oneB = true := ⟨rfl, rfl⟩
@[simp] theorem mk42 (l c : Value) (A : AH) : aMakeSlice Try.prog 42 l c A = mkW 39 17 144 zc39 l c A := aMakeSlice_eq sl42 sz39 by39 ze39 (by rfl) l c A
@[simp] theorem ap32x32 (s x : Value) (A : AH) : aAppend Try.prog 32 32 s x A = appW 3 1 8 s x A := aAppend_eq ni32 sl32 sz3 by3 ze3 (by rfl) s x A
@[simp] theorem ap41x41 (s x : Value) (A : AH) : aAppend Try.prog 41 41 s x A = appW 27 4 32 s x A := aAppend_eq ni41 sl41 sz27 by27 ze27 (by rfl) s x A
@[simp] theorem ap42x3 (s x : Value) (A : AH) : aAppendZ Try.prog 42 3 s x A = appZ 39 17 144 ((.agg #[(.int .i64 0), (.int .i64 0), (.int .i64 0), (.int .i64 0), (.int .u64 0), (.int .i64 0), (.int .i64 0), (.int .u32 0), (.int .u32 0), (.int .u32 0), (.slice none 0 0), (.int .i64 0), (.int .i64 0), (.int .i64 0), (.int .i64 0), (.int .i64 0), (.int .i64 0)]) : Value).cells.toList s x A := aAppendZ_eq (by kernel_rfl) sl42 sz39 by39 ze39 (by rfl) s x A
@[simp] theorem ap42x42 (s x : Value) (A : AH) : aAppend Try.prog 42 42 s x A = appW 39 17 144 s x A := aAppend_eq ni42 sl42 sz39 by39 ze39 (by rfl) s x A
@[simp] theorem ap48x48 (s x : Value) (A : AH) : aAppend Try.prog 48 48 s x A = appW 34 17 144 s x A := aAppend_eq ni48 sl48 sz34 by34 ze34 (by rfl) s x A
@[simp] theorem sc32 (a : Option Addr) (n c : Nat) (lo hi mx : Option Value) (A : AH) : aSlice Try.prog 32 (.slice a n c) lo hi mx A = slW Try.prog 1 a n c lo hi mx A := aSlice_eq sl32 sz3 a n c lo hi mx A
@[simp] theorem sc42 (a : Option Addr) (n c : Nat) (lo hi mx : Option Value) (A : AH) : aSlice Try.prog 42 (.slice a n c) lo hi mx A = slW Try.prog 17 a n c lo hi mx A := aSlice_eq sl42 sz39 a n c lo hi mx A
@[simp] theorem cp42 (d s : Value) (A : AH) : aCopy Try.prog 42 d s A = cpW 17 d s A := aCopy_eq sl42 sz39 d s A
@[simp] theorem cl42 (x : Value) (A : AH) : aClear Try.prog 42 x A = clW ((.agg #[(.int .i64 0), (.int .i64 0), (.int .i64 0), (.int .i64 0), (.int .u64 0), (.int .i64 0), (.int .i64 0), (.int .u32 0), (.int .u32 0), (.int .u32 0), (.slice none 0 0), (.int .i64 0), (.int .i64 0), (.int .i64 0), (.int .i64 0), (.int .i64 0), (.int .i64 0)]) : Value).cells.toList x A := aClear_eq sl42 ze39 x A
@[simp] theorem eq3 (A : AH) (k : Nat) (j : IntKind) (a b : Int) : aEq Try.prog A (k + 1) 3 (.int j a) (.int j b) = some (decide (a = b)) := aEq_int (by kernel_rfl) A k j a b
@[simp] theorem eq4 (A : AH) (k : Nat) (a b : Bool) : aEq Try.prog A (k + 1) 4 (.bool a) (.bool b) = some (decide (a = b)) := aEq_bool (by kernel_rfl) A k a b
@[simp] theorem eq5 (A : AH) (k : Nat) (j : IntKind) (a b : Int) : aEq Try.prog A (k + 1) 5 (.int j a) (.int j b) = some (decide (a = b)) := aEq_int (by kernel_rfl) A k j a b
@[simp] theorem eq24 (A : AH) (k : Nat) (a : Option Addr) : aEq Try.prog A (k + 1) 24 (.pointer a) (.pointer none) = some (decide (a = none)) := aEq_ptr (by kernel_rfl) A k a
@[simp] theorem eg27 : Try.prog.eqGuardType Try.prog.depth 27 = false := by kernel_rfl
@[simp] theorem eq27 (A : AH) (k : Nat) (xs ys : List Value) : aEq Try.prog A (k + 1) 27 (.agg ⟨xs⟩) (.agg ⟨ys⟩) = eqL Try.prog A k xs ys [(3, 0), (3, 1), (3, 2), (3, 3)] := aEq_fs (by kernel_rfl) A k xs ys
@[simp] theorem eq28 (A : AH) (k : Nat) (j : IntKind) (a b : Int) : aEq Try.prog A (k + 1) 28 (.int j a) (.int j b) = some (decide (a = b)) := aEq_int (by kernel_rfl) A k j a b
@[simp] theorem eq29 (A : AH) (k : Nat) (j : IntKind) (a b : Int) : aEq Try.prog A (k + 1) 29 (.int j a) (.int j b) = some (decide (a = b)) := aEq_int (by kernel_rfl) A k j a b
@[simp] theorem eg31 : Try.prog.eqGuardType Try.prog.depth 31 = false := by kernel_rfl
@[simp] theorem eq31 (A : AH) (k : Nat) (xs ys : List Value) : aEq Try.prog A (k + 1) 31 (.agg ⟨xs⟩) (.agg ⟨ys⟩) = eqL Try.prog A k xs ys [(28, 0), (3, 1), (3, 2), (29, 3), (29, 4), (29, 5)] := aEq_fs (by kernel_rfl) A k xs ys
@[simp] theorem eq32 (A : AH) (k : Nat) (a : Option Addr) (n c n' c' : Nat) : aEq Try.prog A (k + 1) 32 (.slice a n c) (.slice none n' c') = some (decide (a = none)) := aEq_slice (by kernel_rfl) A k a n c n' c'
@[simp] theorem eq37 (A : AH) (k : Nat) (j : IntKind) (a b : Int) : aEq Try.prog A (k + 1) 37 (.int j a) (.int j b) = some (decide (a = b)) := aEq_int (by kernel_rfl) A k j a b
@[simp] theorem eq42 (A : AH) (k : Nat) (a : Option Addr) (n c n' c' : Nat) : aEq Try.prog A (k + 1) 42 (.slice a n c) (.slice none n' c') = some (decide (a = none)) := aEq_slice (by kernel_rfl) A k a n c n' c'
end Go.Proofs.Ytanpbdbicicepaa.AQ
