/-
  Facts on the types of the program.
-/
import Derived.Test.YtieehccjajhpfaaProg
import Derived.Test.YtieehccjajhpfaaP2
import Derived.KernelRfl
set_option linter.unusedSimpArgs false
set_option linter.unusedVariables false
/- What simp needs to know of the program's types. -/
namespace Go.Proofs.Ytieehccjajhpfaa.AQ
open Go Go.AI Go.Proofs
@[simp] theorem sz3 : szOf Try.prog 3 = some 1 := by kernel_rfl
@[simp] theorem sz4 : szOf Try.prog 4 = some 1 := by kernel_rfl
@[simp] theorem sz23 : szOf Try.prog 23 = some 4 := by kernel_rfl
@[simp] theorem sz26 : szOf Try.prog 26 = some 1 := by kernel_rfl
@[simp] theorem sz28 : szOf Try.prog 28 = some 1 := by kernel_rfl
@[simp] theorem sz31 : szOf Try.prog 31 = some 1 := by kernel_rfl
@[simp] theorem sz33 : szOf Try.prog 33 = some 6 := by kernel_rfl
@[simp] theorem sz35 : szOf Try.prog 35 = some 12 := by kernel_rfl
@[simp] theorem sz46 : szOf Try.prog 46 = some 8 := by kernel_rfl
@[simp] theorem sz48 : szOf Try.prog 48 = some 9 := by kernel_rfl
@[simp] theorem sz50 : szOf Try.prog 50 = some 9 := by kernel_rfl
@[simp] theorem sz55 : szOf Try.prog 55 = some 1 := by kernel_rfl
@[simp] theorem sz63 : szOf Try.prog 63 = some 10 := by kernel_rfl
@[simp] theorem sz70 : szOf Try.prog 70 = some 3 := by kernel_rfl
@[simp] theorem sz78 : szOf Try.prog 78 = some 10 := by kernel_rfl
@[simp] theorem sz86 : szOf Try.prog 86 = some 1 := by kernel_rfl
@[simp] theorem sz88 : szOf Try.prog 88 = some 3 := by kernel_rfl
@[simp] theorem sz99 : szOf Try.prog 99 = some 6 := by kernel_rfl
@[simp] theorem sz143 : szOf Try.prog 143 = some 1 := by kernel_rfl
@[simp] theorem ag3 : aggOf Try.prog 3 = some false := by kernel_rfl
@[simp] theorem ag4 : aggOf Try.prog 4 = some false := by kernel_rfl
@[simp] theorem ag23 : aggOf Try.prog 23 = some true := by kernel_rfl
@[simp] theorem ag26 : aggOf Try.prog 26 = some false := by kernel_rfl
@[simp] theorem ag28 : aggOf Try.prog 28 = some false := by kernel_rfl
@[simp] theorem ag31 : aggOf Try.prog 31 = some false := by kernel_rfl
@[simp] theorem ag33 : aggOf Try.prog 33 = some true := by kernel_rfl
@[simp] theorem ag35 : aggOf Try.prog 35 = some true := by kernel_rfl
@[simp] theorem ag46 : aggOf Try.prog 46 = some true := by kernel_rfl
@[simp] theorem ag48 : aggOf Try.prog 48 = some true := by kernel_rfl
@[simp] theorem ag50 : aggOf Try.prog 50 = some true := by kernel_rfl
@[simp] theorem ag55 : aggOf Try.prog 55 = some false := by kernel_rfl
@[simp] theorem ag63 : aggOf Try.prog 63 = some true := by kernel_rfl
@[simp] theorem ag78 : aggOf Try.prog 78 = some true := by kernel_rfl
@[simp] theorem ag86 : aggOf Try.prog 86 = some false := by kernel_rfl
@[simp] theorem ag99 : aggOf Try.prog 99 = some true := by kernel_rfl
@[simp] theorem ag143 : aggOf Try.prog 143 = some false := by kernel_rfl
@[simp] theorem ze3 : zeroOf Try.prog 3 = some (.int .i64 0) := by kernel_rfl
@[simp] theorem ze23 : zeroOf Try.prog 23 = some (.agg #[(.int .i64 0), (.int .i64 0), (.int .i64 0), (.int .i64 0)]) := by kernel_rfl
@[simp] theorem ze28 : zeroOf Try.prog 28 = some (.pointer none) := by kernel_rfl
@[simp] theorem ze33 : zeroOf Try.prog 33 = some (.agg #[(.int .u64 0), (.int .i64 0), (.int .i64 0), (.int .u32 0), (.int .u32 0), (.int .u32 0)]) := by kernel_rfl
@[simp] theorem ze35 : zeroOf Try.prog 35 = some (.agg #[(.bool false), (.bool false), (.int .i64 0), (.int .i64 0), (.int .i64 0), (.int .i64 0), (.int .u64 0), (.int .i64 0), (.int .i64 0), (.int .u32 0), (.int .u32 0), (.int .u32 0)]) := by kernel_rfl
@[simp] theorem ze48 : zeroOf Try.prog 48 = some (.agg #[(.int .u64 0), (.int .u64 0), (.int .u64 0), (.int .u64 0), (.int .u64 0), (.int .u64 0), (.int .u64 0), (.int .u64 0), (.int .u64 0)]) := by kernel_rfl
@[simp] theorem ze50 : zeroOf Try.prog 50 = some (.agg #[(.int .u64 0), (.int .u64 0), (.int .u64 0), (.int .u64 0), (.int .u64 0), (.int .u64 0), (.int .u64 0), (.int .u64 0), (.int .u64 0)]) := by kernel_rfl
@[simp] theorem ze55 : zeroOf Try.prog 55 = some (.slice none 0 0) := by kernel_rfl
@[simp] theorem ze63 : zeroOf Try.prog 63 = some (.agg #[(.int .i64 0), (.int .i64 0), (.int .i64 0), (.int .i64 0), (.int .u64 0), (.int .i64 0), (.int .i64 0), (.int .u32 0), (.int .u32 0), (.int .u32 0)]) := by kernel_rfl
@[simp] theorem ze70 : zeroOf Try.prog 70 = some (.agg #[(.bool false), (.int .u64 0), (.slice none 0 0)]) := by kernel_rfl
@[simp] theorem ze78 : zeroOf Try.prog 78 = some (.agg #[(.int .i64 0), (.int .i64 0), (.int .i64 0), (.int .i64 0), (.int .u64 0), (.int .i64 0), (.int .i64 0), (.int .u32 0), (.int .u32 0), (.int .u32 0)]) := by kernel_rfl
@[simp] theorem ze86 : zeroOf Try.prog 86 = some (.pointer none) := by kernel_rfl
@[simp] theorem ze88 : zeroOf Try.prog 88 = some (.agg #[(.slice none 0 0), (.int .u64 0), (.int .i64 0)]) := by kernel_rfl
@[simp] theorem ze99 : zeroOf Try.prog 99 = some (.agg #[(.int .i64 0), (.int .i64 0), (.int .i64 0), (.int .i64 0), (.int .u64 0), (.int .i64 0)]) := by kernel_rfl
@[simp] theorem ze143 : zeroOf Try.prog 143 = some (.int .u64 0) := by kernel_rfl
@[simp] theorem by3 : byOf Try.prog 3 = some 8 := by kernel_rfl
@[simp] theorem by23 : byOf Try.prog 23 = some 32 := by kernel_rfl
@[simp] theorem by28 : byOf Try.prog 28 = some 8 := by kernel_rfl
@[simp] theorem by55 : byOf Try.prog 55 = some 24 := by kernel_rfl
@[simp] theorem by63 : byOf Try.prog 63 = some 72 := by kernel_rfl
@[simp] theorem by78 : byOf Try.prog 78 = some 72 := by kernel_rfl
@[simp] theorem by86 : byOf Try.prog 86 = some 8 := by kernel_rfl
@[simp] theorem by99 : byOf Try.prog 99 = some 48 := by kernel_rfl
@[simp] theorem fd23x0 : fieldOf Try.prog 23 0 = some (0, 3) := by kernel_rfl
@[simp] theorem fd23x1 : fieldOf Try.prog 23 1 = some (1, 3) := by kernel_rfl
@[simp] theorem fd23x2 : fieldOf Try.prog 23 2 = some (2, 3) := by kernel_rfl
@[simp] theorem fd23x3 : fieldOf Try.prog 23 3 = some (3, 3) := by kernel_rfl
@[simp] theorem fd33x0 : fieldOf Try.prog 33 0 = some (0, 26) := by kernel_rfl
@[simp] theorem fd33x1 : fieldOf Try.prog 33 1 = some (1, 3) := by kernel_rfl
@[simp] theorem fd33x2 : fieldOf Try.prog 33 2 = some (2, 3) := by kernel_rfl
@[simp] theorem fd35x0 : fieldOf Try.prog 35 0 = some (0, 4) := by kernel_rfl
@[simp] theorem fd35x1 : fieldOf Try.prog 35 1 = some (1, 4) := by kernel_rfl
@[simp] theorem fd35x2 : fieldOf Try.prog 35 2 = some (2, 23) := by kernel_rfl
@[simp] theorem fd35x3 : fieldOf Try.prog 35 3 = some (6, 33) := by kernel_rfl
@[simp] theorem fd48x0 : fieldOf Try.prog 48 0 = some (0, 26) := by kernel_rfl
@[simp] theorem fd48x1 : fieldOf Try.prog 48 1 = some (1, 46) := by kernel_rfl
@[simp] theorem fd50x0 : fieldOf Try.prog 50 0 = some (0, 26) := by kernel_rfl
@[simp] theorem fd50x1 : fieldOf Try.prog 50 1 = some (1, 46) := by kernel_rfl
@[simp] theorem fd63x0 : fieldOf Try.prog 63 0 = some (0, 23) := by kernel_rfl
@[simp] theorem fd63x1 : fieldOf Try.prog 63 1 = some (4, 33) := by kernel_rfl
@[simp] theorem fd70x0 : fieldOf Try.prog 70 0 = some (0, 4) := by kernel_rfl
@[simp] theorem fd70x1 : fieldOf Try.prog 70 1 = some (1, 26) := by kernel_rfl
@[simp] theorem fd70x2 : fieldOf Try.prog 70 2 = some (2, 55) := by kernel_rfl
@[simp] theorem fd78x0 : fieldOf Try.prog 78 0 = some (0, 23) := by kernel_rfl
@[simp] theorem fd78x1 : fieldOf Try.prog 78 1 = some (4, 33) := by kernel_rfl
@[simp] theorem fd88x0 : fieldOf Try.prog 88 0 = some (0, 55) := by kernel_rfl
@[simp] theorem fd88x1 : fieldOf Try.prog 88 1 = some (1, 26) := by kernel_rfl
@[simp] theorem fd88x2 : fieldOf Try.prog 88 2 = some (2, 3) := by kernel_rfl
@[simp] theorem fd99x0 : fieldOf Try.prog 99 0 = some (0, 23) := by kernel_rfl
@[simp] theorem fd99x1 : fieldOf Try.prog 99 1 = some (4, 26) := by kernel_rfl
@[simp] theorem fd99x2 : fieldOf Try.prog 99 2 = some (5, 3) := by kernel_rfl
@[simp] theorem sl27 : sliceElem Try.prog 27 = some 35 := by kernel_rfl
@[simp] theorem sl30 : sliceElem Try.prog 30 = some 78 := by kernel_rfl
@[simp] theorem sl40 : sliceElem Try.prog 40 = some 23 := by kernel_rfl
@[simp] theorem sl55 : sliceElem Try.prog 55 = some 63 := by kernel_rfl
@[simp] theorem sl71 : sliceElem Try.prog 71 = some 28 := by kernel_rfl
@[simp] theorem sl73 : sliceElem Try.prog 73 = some 55 := by kernel_rfl
@[simp] theorem sl82 : sliceElem Try.prog 82 = some 86 := by kernel_rfl
@[simp] theorem sl102 : sliceElem Try.prog 102 = some 99 := by kernel_rfl
@[simp] theorem sl123 : sliceElem Try.prog 123 = some 3 := by kernel_rfl
@[simp] theorem ar46 : arrElem Try.prog 46 = some (8, 26) := by kernel_rfl
@[simp] theorem ik3 : intKind Try.prog 3 = some .i64 := by kernel_rfl
@[simp] theorem ik5 : intKind Try.prog 5 = some .u8 := by kernel_rfl
@[simp] theorem ik31 : intKind Try.prog 31 = some .u32 := by kernel_rfl
@[simp] theorem ik115 : intKind Try.prog 115 = some .u64 := by kernel_rfl
@[simp] theorem ik143 : intKind Try.prog 143 = some .u64 := by kernel_rfl
@[simp] theorem us3 : (Try.prog.underlying 3).isSome = true := by kernel_rfl
@[simp] theorem us5 : (Try.prog.underlying 5).isSome = true := by kernel_rfl
@[simp] theorem us26 : (Try.prog.underlying 26).isSome = true := by kernel_rfl
@[simp] theorem us31 : (Try.prog.underlying 31).isSome = true := by kernel_rfl
@[simp] theorem us115 : (Try.prog.underlying 115).isSome = true := by kernel_rfl
@[simp] theorem ni3 : notInt Try.prog 3 = false := by kernel_rfl
@[simp] theorem ni30 : notInt Try.prog 30 = true := by kernel_rfl
@[simp] theorem ni40 : notInt Try.prog 40 = true := by kernel_rfl
@[simp] theorem ni55 : notInt Try.prog 55 = true := by kernel_rfl
@[simp] theorem ni71 : notInt Try.prog 71 = true := by kernel_rfl
@[simp] theorem ni73 : notInt Try.prog 73 = true := by kernel_rfl
@[simp] theorem ni82 : notInt Try.prog 82 = true := by kernel_rfl
@[simp] theorem ni102 : notInt Try.prog 102 = true := by kernel_rfl
theorem pl23 : plcOf Try.prog 23 = some [(0, 1), (1, 1), (2, 1), (3, 1)] := by kernel_rfl
@[simp] theorem bd23 (ps : List (Nat × Value)) : aBuild Try.prog 23 ps = (fillL (fun i => [(0, 1), (1, 1), (2, 1), (3, 1)][i]?) ((.agg #[(.int .i64 0), (.int .i64 0), (.int .i64 0), (.int .i64 0)]) : Value).cells.toList ps).map fun cs => .agg cs.toArray := aBuild_struct pl23 ze23 ps
theorem pl33 : plcOf Try.prog 33 = some [(0, 1), (1, 1), (2, 1), (3, 1), (4, 1), (5, 1)] := by kernel_rfl
@[simp] theorem bd33 (ps : List (Nat × Value)) : aBuild Try.prog 33 ps = (fillL (fun i => [(0, 1), (1, 1), (2, 1), (3, 1), (4, 1), (5, 1)][i]?) ((.agg #[(.int .u64 0), (.int .i64 0), (.int .i64 0), (.int .u32 0), (.int .u32 0), (.int .u32 0)]) : Value).cells.toList ps).map fun cs => .agg cs.toArray := aBuild_struct pl33 ze33 ps
theorem pl48 : plcOf Try.prog 48 = some [(0, 1), (1, 8)] := by kernel_rfl
@[simp] theorem bd48 (ps : List (Nat × Value)) : aBuild Try.prog 48 ps = (fillL (fun i => [(0, 1), (1, 8)][i]?) ((.agg #[(.int .u64 0), (.int .u64 0), (.int .u64 0), (.int .u64 0), (.int .u64 0), (.int .u64 0), (.int .u64 0), (.int .u64 0), (.int .u64 0)]) : Value).cells.toList ps).map fun cs => .agg cs.toArray := aBuild_struct pl48 ze48 ps
theorem pl50 : plcOf Try.prog 50 = some [(0, 1), (1, 8)] := by kernel_rfl
@[simp] theorem bd50 (ps : List (Nat × Value)) : aBuild Try.prog 50 ps = (fillL (fun i => [(0, 1), (1, 8)][i]?) ((.agg #[(.int .u64 0), (.int .u64 0), (.int .u64 0), (.int .u64 0), (.int .u64 0), (.int .u64 0), (.int .u64 0), (.int .u64 0), (.int .u64 0)]) : Value).cells.toList ps).map fun cs => .agg cs.toArray := aBuild_struct pl50 ze50 ps
theorem pl63 : plcOf Try.prog 63 = some [(0, 4), (4, 6)] := by kernel_rfl
@[simp] theorem bd63 (ps : List (Nat × Value)) : aBuild Try.prog 63 ps = (fillL (fun i => [(0, 4), (4, 6)][i]?) ((.agg #[(.int .i64 0), (.int .i64 0), (.int .i64 0), (.int .i64 0), (.int .u64 0), (.int .i64 0), (.int .i64 0), (.int .u32 0), (.int .u32 0), (.int .u32 0)]) : Value).cells.toList ps).map fun cs => .agg cs.toArray := aBuild_struct pl63 ze63 ps
theorem pl70 : plcOf Try.prog 70 = some [(0, 1), (1, 1), (2, 1)] := by kernel_rfl
@[simp] theorem bd70 (ps : List (Nat × Value)) : aBuild Try.prog 70 ps = (fillL (fun i => [(0, 1), (1, 1), (2, 1)][i]?) ((.agg #[(.bool false), (.int .u64 0), (.slice none 0 0)]) : Value).cells.toList ps).map fun cs => .agg cs.toArray := aBuild_struct pl70 ze70 ps
theorem pl78 : plcOf Try.prog 78 = some [(0, 4), (4, 6)] := by kernel_rfl
@[simp] theorem bd78 (ps : List (Nat × Value)) : aBuild Try.prog 78 ps = (fillL (fun i => [(0, 4), (4, 6)][i]?) ((.agg #[(.int .i64 0), (.int .i64 0), (.int .i64 0), (.int .i64 0), (.int .u64 0), (.int .i64 0), (.int .i64 0), (.int .u32 0), (.int .u32 0), (.int .u32 0)]) : Value).cells.toList ps).map fun cs => .agg cs.toArray := aBuild_struct pl78 ze78 ps
theorem pl88 : plcOf Try.prog 88 = some [(0, 1), (1, 1), (2, 1)] := by kernel_rfl
@[simp] theorem bd88 (ps : List (Nat × Value)) : aBuild Try.prog 88 ps = (fillL (fun i => [(0, 1), (1, 1), (2, 1)][i]?) ((.agg #[(.slice none 0 0), (.int .u64 0), (.int .i64 0)]) : Value).cells.toList ps).map fun cs => .agg cs.toArray := aBuild_struct pl88 ze88 ps
theorem pl99 : plcOf Try.prog 99 = some [(0, 4), (4, 1), (5, 1)] := by kernel_rfl
@[simp] theorem bd99 (ps : List (Nat × Value)) : aBuild Try.prog 99 ps = (fillL (fun i => [(0, 4), (4, 1), (5, 1)][i]?) ((.agg #[(.int .i64 0), (.int .i64 0), (.int .i64 0), (.int .i64 0), (.int .u64 0), (.int .i64 0)]) : Value).cells.toList ps).map fun cs => .agg cs.toArray := aBuild_struct pl99 ze99 ps
@[simp] theorem bs30 (len : Nat) (ps : List (Nat × Value)) (A : AH) : aBuildSlice Try.prog 30 len ps A = if len * 10 ≤ 16777216 then (fillL (fun i => some (i * 10, 10)) (zrep len ((.agg #[(.int .i64 0), (.int .i64 0), (.int .i64 0), (.int .i64 0), (.int .u64 0), (.int .i64 0), (.int .i64 0), (.int .u32 0), (.int .u32 0), (.int .u32 0)]) : Value).cells.toList) ps).map (fun cs => (.slice (some ⟨A.next, 0, none⟩) len len, A.alloc (.row cs 78 false))) else none := aBuildSlice_eq sl30 sz78 ze78 (by rfl) len ps A
@[simp] theorem bs40 (len : Nat) (ps : List (Nat × Value)) (A : AH) : aBuildSlice Try.prog 40 len ps A = if len * 4 ≤ 16777216 then (fillL (fun i => some (i * 4, 4)) (zrep len ((.agg #[(.int .i64 0), (.int .i64 0), (.int .i64 0), (.int .i64 0)]) : Value).cells.toList) ps).map (fun cs => (.slice (some ⟨A.next, 0, none⟩) len len, A.alloc (.row cs 23 false))) else none := aBuildSlice_eq sl40 sz23 ze23 (by rfl) len ps A
@[simp] theorem bs55 (len : Nat) (ps : List (Nat × Value)) (A : AH) : aBuildSlice Try.prog 55 len ps A = if len * 10 ≤ 16777216 then (fillL (fun i => some (i * 10, 10)) (zrep len ((.agg #[(.int .i64 0), (.int .i64 0), (.int .i64 0), (.int .i64 0), (.int .u64 0), (.int .i64 0), (.int .i64 0), (.int .u32 0), (.int .u32 0), (.int .u32 0)]) : Value).cells.toList) ps).map (fun cs => (.slice (some ⟨A.next, 0, none⟩) len len, A.alloc (.row cs 63 false))) else none := aBuildSlice_eq sl55 sz63 ze63 (by rfl) len ps A
@[simp] theorem bs71 (len : Nat) (ps : List (Nat × Value)) (A : AH) : aBuildSlice Try.prog 71 len ps A = if len * 1 ≤ 16777216 then (fillL (fun i => some (i * 1, 1)) (zrep len ((.pointer none) : Value).cells.toList) ps).map (fun cs => (.slice (some ⟨A.next, 0, none⟩) len len, A.alloc (.row cs 28 false))) else none := aBuildSlice_eq sl71 sz28 ze28 (by rfl) len ps A
@[simp] theorem bs73 (len : Nat) (ps : List (Nat × Value)) (A : AH) : aBuildSlice Try.prog 73 len ps A = if len * 1 ≤ 16777216 then (fillL (fun i => some (i * 1, 1)) (zrep len ((.slice none 0 0) : Value).cells.toList) ps).map (fun cs => (.slice (some ⟨A.next, 0, none⟩) len len, A.alloc (.row cs 55 false))) else none := aBuildSlice_eq sl73 sz55 ze55 (by rfl) len ps A
@[simp] theorem bs82 (len : Nat) (ps : List (Nat × Value)) (A : AH) : aBuildSlice Try.prog 82 len ps A = if len * 1 ≤ 16777216 then (fillL (fun i => some (i * 1, 1)) (zrep len ((.pointer none) : Value).cells.toList) ps).map (fun cs => (.slice (some ⟨A.next, 0, none⟩) len len, A.alloc (.row cs 86 false))) else none := aBuildSlice_eq sl82 sz86 ze86 (by rfl) len ps A
@[simp] theorem bs102 (len : Nat) (ps : List (Nat × Value)) (A : AH) : aBuildSlice Try.prog 102 len ps A = if len * 6 ≤ 16777216 then (fillL (fun i => some (i * 6, 6)) (zrep len ((.agg #[(.int .i64 0), (.int .i64 0), (.int .i64 0), (.int .i64 0), (.int .u64 0), (.int .i64 0)]) : Value).cells.toList) ps).map (fun cs => (.slice (some ⟨A.next, 0, none⟩) len len, A.alloc (.row cs 99 false))) else none := aBuildSlice_eq sl102 sz99 ze99 (by rfl) len ps A
@[simp] theorem bs123 (len : Nat) (ps : List (Nat × Value)) (A : AH) : aBuildSlice Try.prog 123 len ps A = if len * 1 ≤ 16777216 then (fillL (fun i => some (i * 1, 1)) (zrep len ((.int .i64 0) : Value).cells.toList) ps).map (fun cs => (.slice (some ⟨A.next, 0, none⟩) len len, A.alloc (.row cs 3 false))) else none := aBuildSlice_eq sl123 sz3 ze3 (by rfl) len ps A
@[simp] theorem ap30x30 (s x : Value) (A : AH) : aAppend Try.prog 30 30 s x A = appW 78 10 72 s x A := aAppend_eq ni30 sl30 sz78 by78 ze78 (by rfl) s x A
@[simp] theorem ap40x40 (s x : Value) (A : AH) : aAppend Try.prog 40 40 s x A = appW 23 4 32 s x A := aAppend_eq ni40 sl40 sz23 by23 ze23 (by rfl) s x A
@[simp] theorem ap55x3 (s x : Value) (A : AH) : aAppendZ Try.prog 55 3 s x A = appZ 63 10 72 ((.agg #[(.int .i64 0), (.int .i64 0), (.int .i64 0), (.int .i64 0), (.int .u64 0), (.int .i64 0), (.int .i64 0), (.int .u32 0), (.int .u32 0), (.int .u32 0)]) : Value).cells.toList s x A := aAppendZ_eq (by kernel_rfl) sl55 sz63 by63 ze63 (by rfl) s x A
@[simp] theorem ap55x55 (s x : Value) (A : AH) : aAppend Try.prog 55 55 s x A = appW 63 10 72 s x A := aAppend_eq ni55 sl55 sz63 by63 ze63 (by rfl) s x A
@[simp] theorem ap71x71 (s x : Value) (A : AH) : aAppend Try.prog 71 71 s x A = appW 28 1 8 s x A := aAppend_eq ni71 sl71 sz28 by28 ze28 (by rfl) s x A
@[simp] theorem ap73x73 (s x : Value) (A : AH) : aAppend Try.prog 73 73 s x A = appW 55 1 24 s x A := aAppend_eq ni73 sl73 sz55 by55 ze55 (by rfl) s x A
@[simp] theorem ap82x82 (s x : Value) (A : AH) : aAppend Try.prog 82 82 s x A = appW 86 1 8 s x A := aAppend_eq ni82 sl82 sz86 by86 ze86 (by rfl) s x A
@[simp] theorem ap102x102 (s x : Value) (A : AH) : aAppend Try.prog 102 102 s x A = appW 99 6 48 s x A := aAppend_eq ni102 sl102 sz99 by99 ze99 (by rfl) s x A
@[simp] theorem sc55 (a : Option Addr) (n c : Nat) (lo hi mx : Option Value) (A : AH) : aSlice Try.prog 55 (.slice a n c) lo hi mx A = slW Try.prog 10 a n c lo hi mx A := aSlice_eq sl55 sz63 a n c lo hi mx A
@[simp] theorem sc82 (a : Option Addr) (n c : Nat) (lo hi mx : Option Value) (A : AH) : aSlice Try.prog 82 (.slice a n c) lo hi mx A = slW Try.prog 1 a n c lo hi mx A := aSlice_eq sl82 sz86 a n c lo hi mx A
@[simp] theorem cp55 (d s : Value) (A : AH) : aCopy Try.prog 55 d s A = cpW 10 d s A := aCopy_eq sl55 sz63 d s A
@[simp] theorem cl55 (x : Value) (A : AH) : aClear Try.prog 55 x A = clW ((.agg #[(.int .i64 0), (.int .i64 0), (.int .i64 0), (.int .i64 0), (.int .u64 0), (.int .i64 0), (.int .i64 0), (.int .u32 0), (.int .u32 0), (.int .u32 0)]) : Value).cells.toList x A := aClear_eq sl55 ze63 x A
@[simp] theorem cl82 (x : Value) (A : AH) : aClear Try.prog 82 x A = clW ((.pointer none) : Value).cells.toList x A := aClear_eq sl82 ze86 x A
@[simp] theorem eq3 (A : AH) (k : Nat) (j : IntKind) (a b : Int) : aEq Try.prog A (k + 1) 3 (.int j a) (.int j b) = some (decide (a = b)) := aEq_int (by kernel_rfl) A k j a b
@[simp] theorem eq4 (A : AH) (k : Nat) (a b : Bool) : aEq Try.prog A (k + 1) 4 (.bool a) (.bool b) = some (decide (a = b)) := aEq_bool (by kernel_rfl) A k a b
@[simp] theorem eq5 (A : AH) (k : Nat) (j : IntKind) (a b : Int) : aEq Try.prog A (k + 1) 5 (.int j a) (.int j b) = some (decide (a = b)) := aEq_int (by kernel_rfl) A k j a b
@[simp] theorem eg23 : Try.prog.eqGuardType Try.prog.depth 23 = false := by kernel_rfl
@[simp] theorem eq23 (A : AH) (k : Nat) (xs ys : List Value) : aEq Try.prog A (k + 1) 23 (.agg ⟨xs⟩) (.agg ⟨ys⟩) = eqL Try.prog A k xs ys [(3, 0), (3, 1), (3, 2), (3, 3)] := aEq_fs (by kernel_rfl) A k xs ys
@[simp] theorem eq26 (A : AH) (k : Nat) (j : IntKind) (a b : Int) : aEq Try.prog A (k + 1) 26 (.int j a) (.int j b) = some (decide (a = b)) := aEq_int (by kernel_rfl) A k j a b
@[simp] theorem eq28 (A : AH) (k : Nat) (a : Option Addr) : aEq Try.prog A (k + 1) 28 (.pointer a) (.pointer none) = some (decide (a = none)) := aEq_ptr (by kernel_rfl) A k a
@[simp] theorem eq31 (A : AH) (k : Nat) (j : IntKind) (a b : Int) : aEq Try.prog A (k + 1) 31 (.int j a) (.int j b) = some (decide (a = b)) := aEq_int (by kernel_rfl) A k j a b
@[simp] theorem eg33 : Try.prog.eqGuardType Try.prog.depth 33 = false := by kernel_rfl
@[simp] theorem eq33 (A : AH) (k : Nat) (xs ys : List Value) : aEq Try.prog A (k + 1) 33 (.agg ⟨xs⟩) (.agg ⟨ys⟩) = eqL Try.prog A k xs ys [(26, 0), (3, 1), (3, 2), (31, 3), (31, 4), (31, 5)] := aEq_fs (by kernel_rfl) A k xs ys
@[simp] theorem eq38 (A : AH) (k : Nat) (j : IntKind) (a b : Int) : aEq Try.prog A (k + 1) 38 (.int j a) (.int j b) = some (decide (a = b)) := aEq_int (by kernel_rfl) A k j a b
@[simp] theorem eq55 (A : AH) (k : Nat) (a : Option Addr) (n c n' c' : Nat) : aEq Try.prog A (k + 1) 55 (.slice a n c) (.slice none n' c') = some (decide (a = none)) := aEq_slice (by kernel_rfl) A k a n c n' c'
@[simp] theorem eg78 : Try.prog.eqGuardType Try.prog.depth 78 = false := by kernel_rfl
@[simp] theorem eq78 (A : AH) (k : Nat) (xs ys : List Value) : aEq Try.prog A (k + 1) 78 (.agg ⟨xs⟩) (.agg ⟨ys⟩) = eqL Try.prog A k xs ys [(23, 0), (33, 4)] := aEq_fs (by kernel_rfl) A k xs ys
@[simp] theorem eq82 (A : AH) (k : Nat) (a : Option Addr) (n c n' c' : Nat) : aEq Try.prog A (k + 1) 82 (.slice a n c) (.slice none n' c') = some (decide (a = none)) := aEq_slice (by kernel_rfl) A k a n c n' c'
@[simp] theorem eq86 (A : AH) (k : Nat) (a : Option Addr) : aEq Try.prog A (k + 1) 86 (.pointer a) (.pointer none) = some (decide (a = none)) := aEq_ptr (by kernel_rfl) A k a
@[simp] theorem eq115 (A : AH) (k : Nat) (j : IntKind) (a b : Int) : aEq Try.prog A (k + 1) 115 (.int j a) (.int j b) = some (decide (a = b)) := aEq_int (by kernel_rfl) A k j a b
@[simp] theorem eq126 (A : AH) (k : Nat) (j : IntKind) (a b : Int) : aEq Try.prog A (k + 1) 126 (.int j a) (.int j b) = some (decide (a = b)) := aEq_int (by kernel_rfl) A k j a b
end Go.Proofs.Ytieehccjajhpfaa.AQ
