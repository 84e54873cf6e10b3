/-
  Facts on the types of the program.
-/
import Derived.Test.YtiapgbhnbgccaaaProg
import Derived.Test.YtiapgbhnbgccaaaP2
import Derived.KernelRfl
set_option linter.unusedSimpArgs false
set_option linter.unusedVariables false
/- What simp needs to know of the program's types. -/
namespace Go.Proofs.Ytiapgbhnbgccaaa.AQ
open Go Go.AI Go.Proofs
@[simp] theorem sz3 : szOf Try.prog 3 = some 1 := by kernel_rfl
@[simp] theorem sz4 : szOf Try.prog 4 = some 1 := by kernel_rfl
@[simp] theorem sz22 : szOf Try.prog 22 = some 1 := by kernel_rfl
@[simp] theorem sz24 : szOf Try.prog 24 = some 4 := by kernel_rfl
@[simp] theorem sz25 : szOf Try.prog 25 = some 1 := by kernel_rfl
@[simp] theorem sz26 : szOf Try.prog 26 = some 1 := by kernel_rfl
@[simp] theorem sz28 : szOf Try.prog 28 = some 6 := by kernel_rfl
@[simp] theorem sz29 : szOf Try.prog 29 = some 1 := by kernel_rfl
@[simp] theorem sz30 : szOf Try.prog 30 = some 1 := by kernel_rfl
@[simp] theorem sz31 : szOf Try.prog 31 = some 1 := by kernel_rfl
@[simp] theorem sz33 : szOf Try.prog 33 = some 10 := by kernel_rfl
@[simp] theorem sz46 : szOf Try.prog 46 = some 1 := by kernel_rfl
@[simp] theorem sz52 : szOf Try.prog 52 = some 5 := by kernel_rfl
@[simp] theorem sz53 : szOf Try.prog 53 = some 8 := by kernel_rfl
@[simp] theorem sz55 : szOf Try.prog 55 = some 15 := by kernel_rfl
@[simp] theorem sz57 : szOf Try.prog 57 = some 1 := by kernel_rfl
@[simp] theorem sz59 : szOf Try.prog 59 = some 10 := by kernel_rfl
@[simp] theorem sz67 : szOf Try.prog 67 = some 2 := by kernel_rfl
@[simp] theorem sz72 : szOf Try.prog 72 = some 15 := by kernel_rfl
@[simp] theorem sz77 : szOf Try.prog 77 = some 1 := by kernel_rfl
@[simp] theorem sz78 : szOf Try.prog 78 = some 1 := by kernel_rfl
@[simp] theorem sz79 : szOf Try.prog 79 = some 1 := by kernel_rfl
@[simp] theorem sz85 : szOf Try.prog 85 = some 2 := by kernel_rfl
@[simp] theorem sz87 : szOf Try.prog 87 = some 3 := by kernel_rfl
@[simp] theorem sz92 : szOf Try.prog 92 = some 2 := by kernel_rfl
@[simp] theorem sz95 : szOf Try.prog 95 = some 3 := by kernel_rfl
@[simp] theorem sz96 : szOf Try.prog 96 = some 3 := by kernel_rfl
@[simp] theorem sz99 : szOf Try.prog 99 = some 2 := by kernel_rfl
@[simp] theorem sz105 : szOf Try.prog 105 = some 2 := by kernel_rfl
@[simp] theorem sz108 : szOf Try.prog 108 = some 1 := by kernel_rfl
@[simp] theorem sz110 : szOf Try.prog 110 = some 1 := by kernel_rfl
@[simp] theorem sz112 : szOf Try.prog 112 = some 2 := by kernel_rfl
@[simp] theorem ag3 : aggOf Try.prog 3 = some false := by kernel_rfl
@[simp] theorem ag4 : aggOf Try.prog 4 = some false := by kernel_rfl
@[simp] theorem ag22 : aggOf Try.prog 22 = some false := by kernel_rfl
@[simp] theorem ag24 : aggOf Try.prog 24 = some true := by kernel_rfl
@[simp] theorem ag25 : aggOf Try.prog 25 = some false := by kernel_rfl
@[simp] theorem ag26 : aggOf Try.prog 26 = some false := by kernel_rfl
@[simp] theorem ag28 : aggOf Try.prog 28 = some true := by kernel_rfl
@[simp] theorem ag29 : aggOf Try.prog 29 = some false := by kernel_rfl
@[simp] theorem ag30 : aggOf Try.prog 30 = some false := by kernel_rfl
@[simp] theorem ag31 : aggOf Try.prog 31 = some false := by kernel_rfl
@[simp] theorem ag33 : aggOf Try.prog 33 = some true := by kernel_rfl
@[simp] theorem ag46 : aggOf Try.prog 46 = some false := by kernel_rfl
@[simp] theorem ag52 : aggOf Try.prog 52 = some true := by kernel_rfl
@[simp] theorem ag53 : aggOf Try.prog 53 = some true := by kernel_rfl
@[simp] theorem ag55 : aggOf Try.prog 55 = some true := by kernel_rfl
@[simp] theorem ag57 : aggOf Try.prog 57 = some false := by kernel_rfl
@[simp] theorem ag59 : aggOf Try.prog 59 = some true := by kernel_rfl
@[simp] theorem ag67 : aggOf Try.prog 67 = some true := by kernel_rfl
@[simp] theorem ag72 : aggOf Try.prog 72 = some true := by kernel_rfl
@[simp] theorem ag77 : aggOf Try.prog 77 = some false := by kernel_rfl
@[simp] theorem ag78 : aggOf Try.prog 78 = some false := by kernel_rfl
@[simp] theorem ag79 : aggOf Try.prog 79 = some false := by kernel_rfl
@[simp] theorem ag85 : aggOf Try.prog 85 = some true := by kernel_rfl
@[simp] theorem ag87 : aggOf Try.prog 87 = some true := by kernel_rfl
@[simp] theorem ag92 : aggOf Try.prog 92 = some true := by kernel_rfl
@[simp] theorem ag95 : aggOf Try.prog 95 = some true := by kernel_rfl
@[simp] theorem ag96 : aggOf Try.prog 96 = some true := by kernel_rfl
@[simp] theorem ag99 : aggOf Try.prog 99 = some true := by kernel_rfl
@[simp] theorem ag105 : aggOf Try.prog 105 = some true := by kernel_rfl
@[simp] theorem ag108 : aggOf Try.prog 108 = some false := by kernel_rfl
@[simp] theorem ag110 : aggOf Try.prog 110 = some true := by kernel_rfl
@[simp] theorem ze3 : zeroOf Try.prog 3 = some (.int .i64 0) := by kernel_rfl
@[simp] theorem ze33 : zeroOf Try.prog 33 = some (.agg #[(.int .u64 0), (.int .i64 0), (.int .i64 0), (.int .u32 0), (.int .u32 0), (.int .u32 0), (.slice none 0 0), (.slice none 0 0), (.slice none 0 0), (.int .i64 0)]) := by kernel_rfl
@[simp] theorem ze52 : zeroOf Try.prog 52 = some (.agg #[(.int .i64 0), (.int .i64 0), (.int .u64 0), (.int .i64 0), (.int .u32 0)]) := by kernel_rfl
@[simp] theorem ze55 : zeroOf Try.prog 55 = some (.agg #[(.int .i64 0), (.int .i64 0), (.int .u64 0), (.int .i64 0), (.int .u32 0), (.int .i64 0), (.bool false), (.int .u64 0), (.int .u64 0), (.int .u64 0), (.int .u64 0), (.int .u64 0), (.int .u64 0), (.int .u64 0), (.int .u64 0)]) := by kernel_rfl
@[simp] theorem ze59 : zeroOf Try.prog 59 = some (.agg #[(.int .u64 0), (.int .i64 0), (.int .i64 0), (.int .u32 0), (.int .u32 0), (.int .u32 0), (.slice none 0 0), (.slice none 0 0), (.slice none 0 0), (.int .i64 0)]) := by kernel_rfl
@[simp] theorem ze67 : zeroOf Try.prog 67 = some (.agg #[(.slice none 0 0), (.int .i64 0)]) := by kernel_rfl
@[simp] theorem ze72 : zeroOf Try.prog 72 = some (.agg #[(.int .i64 0), (.int .i64 0), (.int .u64 0), (.int .i64 0), (.int .u32 0), (.int .i64 0), (.bool false), (.int .u64 0), (.int .u64 0), (.int .u64 0), (.int .u64 0), (.int .u64 0), (.int .u64 0), (.int .u64 0), (.int .u64 0)]) := by kernel_rfl
@[simp] theorem ze82 : zeroOf Try.prog 82 = some (.agg #[(.slice none 0 0), (.int .i64 0), (.map none), (.map none), (.pointer none)]) := by kernel_rfl
@[simp] theorem ze85 : zeroOf Try.prog 85 = some (.agg #[(.slice none 0 0), (.int .i64 0)]) := by kernel_rfl
@[simp] theorem ze87 : zeroOf Try.prog 87 = some (.agg #[(.int .i64 0), (.int .i64 0), (.int .i64 0)]) := by kernel_rfl
@[simp] theorem ze92 : zeroOf Try.prog 92 = some (.agg #[(.int .i64 0), (.int .i64 0)]) := by kernel_rfl
@[simp] theorem ze95 : zeroOf Try.prog 95 = some (.agg #[(.int .i64 0), (.int .i64 0), (.int .u64 0)]) := by kernel_rfl
@[simp] theorem ze96 : zeroOf Try.prog 96 = some (.agg #[(.int .i64 0), (.int .i64 0), (.int .u64 0)]) := by kernel_rfl
@[simp] theorem ze99 : zeroOf Try.prog 99 = some (.agg #[(.int .i64 0), (.int .i64 0)]) := by kernel_rfl
@[simp] theorem ze105 : zeroOf Try.prog 105 = some (.agg #[(.int .i64 0), (.int .i64 0)]) := by kernel_rfl
@[simp] theorem ze112 : zeroOf Try.prog 112 = some (.agg #[(.bool false), (.slice none 0 0)]) := by kernel_rfl
@[simp] theorem by3 : byOf Try.prog 3 = some 8 := by kernel_rfl
@[simp] theorem by52 : byOf Try.prog 52 = some 40 := by kernel_rfl
@[simp] theorem by55 : byOf Try.prog 55 = some 120 := by kernel_rfl
@[simp] theorem by67 : byOf Try.prog 67 = some 32 := by kernel_rfl
@[simp] theorem by87 : byOf Try.prog 87 = some 24 := by kernel_rfl
@[simp] theorem by96 : byOf Try.prog 96 = some 24 := by kernel_rfl
@[simp] theorem fd24x0 : fieldOf Try.prog 24 0 = some (0, 3) := by kernel_rfl
@[simp] theorem fd24x1 : fieldOf Try.prog 24 1 = some (1, 22) := by kernel_rfl
@[simp] theorem fd24x2 : fieldOf Try.prog 24 2 = some (2, 3) := by kernel_rfl
@[simp] theorem fd24x3 : fieldOf Try.prog 24 3 = some (3, 3) := by kernel_rfl
@[simp] theorem fd28x0 : fieldOf Try.prog 28 0 = some (0, 25) := by kernel_rfl
@[simp] theorem fd28x1 : fieldOf Try.prog 28 1 = some (1, 3) := by kernel_rfl
@[simp] theorem fd28x2 : fieldOf Try.prog 28 2 = some (2, 3) := by kernel_rfl
@[simp] theorem fd28x3 : fieldOf Try.prog 28 3 = some (3, 26) := by kernel_rfl
@[simp] theorem fd28x4 : fieldOf Try.prog 28 4 = some (4, 26) := by kernel_rfl
@[simp] theorem fd28x5 : fieldOf Try.prog 28 5 = some (5, 26) := by kernel_rfl
@[simp] theorem fd33x0 : fieldOf Try.prog 33 0 = some (0, 28) := by kernel_rfl
@[simp] theorem fd33x1 : fieldOf Try.prog 33 1 = some (6, 29) := by kernel_rfl
@[simp] theorem fd33x2 : fieldOf Try.prog 33 2 = some (7, 30) := by kernel_rfl
@[simp] theorem fd33x3 : fieldOf Try.prog 33 3 = some (8, 31) := by kernel_rfl
@[simp] theorem fd33x4 : fieldOf Try.prog 33 4 = some (9, 3) := by kernel_rfl
@[simp] theorem fd52x0 : fieldOf Try.prog 52 0 = some (0, 3) := by kernel_rfl
@[simp] theorem fd52x1 : fieldOf Try.prog 52 1 = some (1, 3) := by kernel_rfl
@[simp] theorem fd52x3 : fieldOf Try.prog 52 3 = some (3, 3) := by kernel_rfl
@[simp] theorem fd52x4 : fieldOf Try.prog 52 4 = some (4, 26) := by kernel_rfl
@[simp] theorem fd55x0 : fieldOf Try.prog 55 0 = some (0, 52) := by kernel_rfl
@[simp] theorem fd55x2 : fieldOf Try.prog 55 2 = some (6, 4) := by kernel_rfl
@[simp] theorem fd55x3 : fieldOf Try.prog 55 3 = some (7, 53) := by kernel_rfl
@[simp] theorem fd59x0 : fieldOf Try.prog 59 0 = some (0, 28) := by kernel_rfl
@[simp] theorem fd59x1 : fieldOf Try.prog 59 1 = some (6, 29) := by kernel_rfl
@[simp] theorem fd59x2 : fieldOf Try.prog 59 2 = some (7, 30) := by kernel_rfl
@[simp] theorem fd59x3 : fieldOf Try.prog 59 3 = some (8, 57) := by kernel_rfl
@[simp] theorem fd59x4 : fieldOf Try.prog 59 4 = some (9, 3) := by kernel_rfl
@[simp] theorem fd67x0 : fieldOf Try.prog 67 0 = some (0, 29) := by kernel_rfl
@[simp] theorem fd67x1 : fieldOf Try.prog 67 1 = some (1, 3) := by kernel_rfl
@[simp] theorem fd72x0 : fieldOf Try.prog 72 0 = some (0, 52) := by kernel_rfl
@[simp] theorem fd72x1 : fieldOf Try.prog 72 1 = some (5, 3) := by kernel_rfl
@[simp] theorem fd72x2 : fieldOf Try.prog 72 2 = some (6, 4) := by kernel_rfl
@[simp] theorem fd72x3 : fieldOf Try.prog 72 3 = some (7, 53) := by kernel_rfl
@[simp] theorem fd82x0 : fieldOf Try.prog 82 0 = some (0, 46) := by kernel_rfl
@[simp] theorem fd82x1 : fieldOf Try.prog 82 1 = some (1, 3) := by kernel_rfl
@[simp] theorem fd82x2 : fieldOf Try.prog 82 2 = some (2, 77) := by kernel_rfl
@[simp] theorem fd82x3 : fieldOf Try.prog 82 3 = some (3, 78) := by kernel_rfl
@[simp] theorem fd82x4 : fieldOf Try.prog 82 4 = some (4, 79) := by kernel_rfl
@[simp] theorem fd85x0 : fieldOf Try.prog 85 0 = some (0, 29) := by kernel_rfl
@[simp] theorem fd85x1 : fieldOf Try.prog 85 1 = some (1, 3) := by kernel_rfl
@[simp] theorem fd87x0 : fieldOf Try.prog 87 0 = some (0, 3) := by kernel_rfl
@[simp] theorem fd87x1 : fieldOf Try.prog 87 1 = some (1, 3) := by kernel_rfl
@[simp] theorem fd87x2 : fieldOf Try.prog 87 2 = some (2, 3) := by kernel_rfl
@[simp] theorem fd92x0 : fieldOf Try.prog 92 0 = some (0, 3) := by kernel_rfl
@[simp] theorem fd92x1 : fieldOf Try.prog 92 1 = some (1, 3) := by kernel_rfl
@[simp] theorem fd95x0 : fieldOf Try.prog 95 0 = some (0, 3) := by kernel_rfl
@[simp] theorem fd95x1 : fieldOf Try.prog 95 1 = some (1, 3) := by kernel_rfl
@[simp] theorem fd95x2 : fieldOf Try.prog 95 2 = some (2, 25) := by kernel_rfl
@[simp] theorem fd96x0 : fieldOf Try.prog 96 0 = some (0, 3) := by kernel_rfl
@[simp] theorem fd96x1 : fieldOf Try.prog 96 1 = some (1, 3) := by kernel_rfl
@[simp] theorem fd96x2 : fieldOf Try.prog 96 2 = some (2, 25) := by kernel_rfl
@[simp] theorem fd110x0 : fieldOf Try.prog 110 0 = some (0, 108) := by kernel_rfl
@[simp] theorem fd112x0 : fieldOf Try.prog 112 0 = some (0, 4) := by kernel_rfl
@[simp] theorem fd112x1 : fieldOf Try.prog 112 1 = some (1, 110) := by kernel_rfl
@[simp] theorem sl22 : sliceElem Try.prog 22 = some 72 := by kernel_rfl
@[simp] theorem sl29 : sliceElem Try.prog 29 = some 3 := by kernel_rfl
@[simp] theorem sl30 : sliceElem Try.prog 30 = some 99 := by kernel_rfl
@[simp] theorem sl31 : sliceElem Try.prog 31 = some 95 := by kernel_rfl
@[simp] theorem sl46 : sliceElem Try.prog 46 = some 52 := by kernel_rfl
@[simp] theorem sl50 : sliceElem Try.prog 50 = some 55 := by kernel_rfl
@[simp] theorem sl57 : sliceElem Try.prog 57 = some 96 := by kernel_rfl
@[simp] theorem sl65 : sliceElem Try.prog 65 = some 67 := by kernel_rfl
@[simp] theorem sl108 : sliceElem Try.prog 108 = some 87 := by kernel_rfl
@[simp] theorem ar53 : arrElem Try.prog 53 = some (8, 25) := by kernel_rfl
@[simp] theorem ar99 : arrElem Try.prog 99 = some (2, 3) := by kernel_rfl
@[simp] theorem mo77 : mapOf Try.prog 77 = some (92, 85) := by kernel_rfl
@[simp] theorem mo78 : mapOf Try.prog 78 = some (92, 92) := by kernel_rfl
@[simp] theorem mo103 : mapOf Try.prog 103 = some (105, 3) := by kernel_rfl
@[simp] theorem ni29 : notInt Try.prog 29 = true := by kernel_rfl
@[simp] theorem ni46 : notInt Try.prog 46 = true := by kernel_rfl
@[simp] theorem ni50 : notInt Try.prog 50 = true := by kernel_rfl
@[simp] theorem ni57 : notInt Try.prog 57 = true := by kernel_rfl
@[simp] theorem ni65 : notInt Try.prog 65 = true := by kernel_rfl
@[simp] theorem ni108 : notInt Try.prog 108 = true := by kernel_rfl
theorem pl33 : plcOf Try.prog 33 = some [(0, 6), (6, 1), (7, 1), (8, 1), (9, 1)] := by kernel_rfl
@[simp] theorem bd33 (ps : List (Nat × Value)) : aBuild Try.prog 33 ps = (fillL (fun i => [(0, 6), (6, 1), (7, 1), (8, 1), (9, 1)][i]?) ((.agg #[(.int .u64 0), (.int .i64 0), (.int .i64 0), (.int .u32 0), (.int .u32 0), (.int .u32 0), (.slice none 0 0), (.slice none 0 0), (.slice none 0 0), (.int .i64 0)]) : Value).cells.toList ps).map fun cs => .agg cs.toArray := aBuild_struct pl33 ze33 ps
theorem pl52 : plcOf Try.prog 52 = some [(0, 1), (1, 1), (2, 1), (3, 1), (4, 1)] := by kernel_rfl
@[simp] theorem bd52 (ps : List (Nat × Value)) : aBuild Try.prog 52 ps = (fillL (fun i => [(0, 1), (1, 1), (2, 1), (3, 1), (4, 1)][i]?) ((.agg #[(.int .i64 0), (.int .i64 0), (.int .u64 0), (.int .i64 0), (.int .u32 0)]) : Value).cells.toList ps).map fun cs => .agg cs.toArray := aBuild_struct pl52 ze52 ps
theorem pl55 : plcOf Try.prog 55 = some [(0, 5), (5, 1), (6, 1), (7, 8)] := by kernel_rfl
@[simp] theorem bd55 (ps : List (Nat × Value)) : aBuild Try.prog 55 ps = (fillL (fun i => [(0, 5), (5, 1), (6, 1), (7, 8)][i]?) ((.agg #[(.int .i64 0), (.int .i64 0), (.int .u64 0), (.int .i64 0), (.int .u32 0), (.int .i64 0), (.bool false), (.int .u64 0), (.int .u64 0), (.int .u64 0), (.int .u64 0), (.int .u64 0), (.int .u64 0), (.int .u64 0), (.int .u64 0)]) : Value).cells.toList ps).map fun cs => .agg cs.toArray := aBuild_struct pl55 ze55 ps
theorem pl59 : plcOf Try.prog 59 = some [(0, 6), (6, 1), (7, 1), (8, 1), (9, 1)] := by kernel_rfl
@[simp] theorem bd59 (ps : List (Nat × Value)) : aBuild Try.prog 59 ps = (fillL (fun i => [(0, 6), (6, 1), (7, 1), (8, 1), (9, 1)][i]?) ((.agg #[(.int .u64 0), (.int .i64 0), (.int .i64 0), (.int .u32 0), (.int .u32 0), (.int .u32 0), (.slice none 0 0), (.slice none 0 0), (.slice none 0 0), (.int .i64 0)]) : Value).cells.toList ps).map fun cs => .agg cs.toArray := aBuild_struct pl59 ze59 ps
theorem pl67 : plcOf Try.prog 67 = some [(0, 1), (1, 1)] := by kernel_rfl
@[simp] theorem bd67 (ps : List (Nat × Value)) : aBuild Try.prog 67 ps = (fillL (fun i => [(0, 1), (1, 1)][i]?) ((.agg #[(.slice none 0 0), (.int .i64 0)]) : Value).cells.toList ps).map fun cs => .agg cs.toArray := aBuild_struct pl67 ze67 ps
theorem pl82 : plcOf Try.prog 82 = some [(0, 1), (1, 1), (2, 1), (3, 1), (4, 1)] := by kernel_rfl
@[simp] theorem bd82 (ps : List (Nat × Value)) : aBuild Try.prog 82 ps = (fillL (fun i => [(0, 1), (1, 1), (2, 1), (3, 1), (4, 1)][i]?) ((.agg #[(.slice none 0 0), (.int .i64 0), (.map none), (.map none), (.pointer none)]) : Value).cells.toList ps).map fun cs => .agg cs.toArray := aBuild_struct pl82 ze82 ps
theorem pl85 : plcOf Try.prog 85 = some [(0, 1), (1, 1)] := by kernel_rfl
@[simp] theorem bd85 (ps : List (Nat × Value)) : aBuild Try.prog 85 ps = (fillL (fun i => [(0, 1), (1, 1)][i]?) ((.agg #[(.slice none 0 0), (.int .i64 0)]) : Value).cells.toList ps).map fun cs => .agg cs.toArray := aBuild_struct pl85 ze85 ps
theorem pl87 : plcOf Try.prog 87 = some [(0, 1), (1, 1), (2, 1)] := by kernel_rfl
@[simp] theorem bd87 (ps : List (Nat × Value)) : aBuild Try.prog 87 ps = (fillL (fun i => [(0, 1), (1, 1), (2, 1)][i]?) ((.agg #[(.int .i64 0), (.int .i64 0), (.int .i64 0)]) : Value).cells.toList ps).map fun cs => .agg cs.toArray := aBuild_struct pl87 ze87 ps
theorem pl92 : plcOf Try.prog 92 = some [(0, 1), (1, 1)] := by kernel_rfl
@[simp] theorem bd92 (ps : List (Nat × Value)) : aBuild Try.prog 92 ps = (fillL (fun i => [(0, 1), (1, 1)][i]?) ((.agg #[(.int .i64 0), (.int .i64 0)]) : Value).cells.toList ps).map fun cs => .agg cs.toArray := aBuild_struct pl92 ze92 ps
theorem pl96 : plcOf Try.prog 96 = some [(0, 1), (1, 1), (2, 1)] := by kernel_rfl
@[simp] theorem bd96 (ps : List (Nat × Value)) : aBuild Try.prog 96 ps = (fillL (fun i => [(0, 1), (1, 1), (2, 1)][i]?) ((.agg #[(.int .i64 0), (.int .i64 0), (.int .u64 0)]) : Value).cells.toList ps).map fun cs => .agg cs.toArray := aBuild_struct pl96 ze96 ps
theorem pl105 : plcOf Try.prog 105 = some [(0, 1), (1, 1)] := by kernel_rfl
@[simp] theorem bd105 (ps : List (Nat × Value)) : aBuild Try.prog 105 ps = (fillL (fun i => [(0, 1), (1, 1)][i]?) ((.agg #[(.int .i64 0), (.int .i64 0)]) : Value).cells.toList ps).map fun cs => .agg cs.toArray := aBuild_struct pl105 ze105 ps
theorem pl112 : plcOf Try.prog 112 = some [(0, 1), (1, 1)] := by kernel_rfl
@[simp] theorem bd112 (ps : List (Nat × Value)) : aBuild Try.prog 112 ps = (fillL (fun i => [(0, 1), (1, 1)][i]?) ((.agg #[(.bool false), (.slice none 0 0)]) : Value).cells.toList ps).map fun cs => .agg cs.toArray := aBuild_struct pl112 ze112 ps
@[simp] theorem bs29 (len : Nat) (ps : List (Nat × Value)) (A : AH) : aBuildSlice Try.prog 29 len ps A = if len * 1 ≤ 16777216 then (fillL (fun i => some (i * 1, 1)) (zrep len ((.int .i64 0) : Value).cells.toList) ps).map (fun cs => (.slice (some ⟨A.next, 0, none⟩) len len, A.alloc (.row cs 3 false))) else none := aBuildSlice_eq sl29 sz3 ze3 (by rfl) len ps A
@[simp] theorem bs46 (len : Nat) (ps : List (Nat × Value)) (A : AH) : aBuildSlice Try.prog 46 len ps A = if len * 5 ≤ 16777216 then (fillL (fun i => some (i * 5, 5)) (zrep len ((.agg #[(.int .i64 0), (.int .i64 0), (.int .u64 0), (.int .i64 0), (.int .u32 0)]) : Value).cells.toList) ps).map (fun cs => (.slice (some ⟨A.next, 0, none⟩) len len, A.alloc (.row cs 52 false))) else none := aBuildSlice_eq sl46 sz52 ze52 (by rfl) len ps A
@[simp] theorem bs50 (len : Nat) (ps : List (Nat × Value)) (A : AH) : aBuildSlice Try.prog 50 len ps A = if len * 15 ≤ 16777216 then (fillL (fun i => some (i * 15, 15)) (zrep len ((.agg #[(.int .i64 0), (.int .i64 0), (.int .u64 0), (.int .i64 0), (.int .u32 0), (.int .i64 0), (.bool false), (.int .u64 0), (.int .u64 0), (.int .u64 0), (.int .u64 0), (.int .u64 0), (.int .u64 0), (.int .u64 0), (.int .u64 0)]) : Value).cells.toList) ps).map (fun cs => (.slice (some ⟨A.next, 0, none⟩) len len, A.alloc (.row cs 55 false))) else none := aBuildSlice_eq sl50 sz55 ze55 (by rfl) len ps A
@[simp] theorem bs57 (len : Nat) (ps : List (Nat × Value)) (A : AH) : aBuildSlice Try.prog 57 len ps A = if len * 3 ≤ 16777216 then (fillL (fun i => some (i * 3, 3)) (zrep len ((.agg #[(.int .i64 0), (.int .i64 0), (.int .u64 0)]) : Value).cells.toList) ps).map (fun cs => (.slice (some ⟨A.next, 0, none⟩) len len, A.alloc (.row cs 96 false))) else none := aBuildSlice_eq sl57 sz96 ze96 (by rfl) len ps A
@[simp] theorem bs65 (len : Nat) (ps : List (Nat × Value)) (A : AH) : aBuildSlice Try.prog 65 len ps A = if len * 2 ≤ 16777216 then (fillL (fun i => some (i * 2, 2)) (zrep len ((.agg #[(.slice none 0 0), (.int .i64 0)]) : Value).cells.toList) ps).map (fun cs => (.slice (some ⟨A.next, 0, none⟩) len len, A.alloc (.row cs 67 false))) else none := aBuildSlice_eq sl65 sz67 ze67 (by rfl) len ps A
@[simp] theorem bs108 (len : Nat) (ps : List (Nat × Value)) (A : AH) : aBuildSlice Try.prog 108 len ps A = if len * 3 ≤ 16777216 then (fillL (fun i => some (i * 3, 3)) (zrep len ((.agg #[(.int .i64 0), (.int .i64 0), (.int .i64 0)]) : Value).cells.toList) ps).map (fun cs => (.slice (some ⟨A.next, 0, none⟩) len len, A.alloc (.row cs 87 false))) else none := aBuildSlice_eq sl108 sz87 ze87 (by rfl) len ps A
@[simp] theorem ap29x29 (s x : Value) (A : AH) : aAppend Try.prog 29 29 s x A = appW 3 1 8 s x A := aAppend_eq ni29 sl29 sz3 by3 ze3 (by rfl) s x A
@[simp] theorem ap46x46 (s x : Value) (A : AH) : aAppend Try.prog 46 46 s x A = appW 52 5 40 s x A := aAppend_eq ni46 sl46 sz52 by52 ze52 (by rfl) s x A
@[simp] theorem ap50x50 (s x : Value) (A : AH) : aAppend Try.prog 50 50 s x A = appW 55 15 120 s x A := aAppend_eq ni50 sl50 sz55 by55 ze55 (by rfl) s x A
@[simp] theorem ap57x57 (s x : Value) (A : AH) : aAppend Try.prog 57 57 s x A = appW 96 3 24 s x A := aAppend_eq ni57 sl57 sz96 by96 ze96 (by rfl) s x A
@[simp] theorem ap65x65 (s x : Value) (A : AH) : aAppend Try.prog 65 65 s x A = appW 67 2 32 s x A := aAppend_eq ni65 sl65 sz67 by67 ze67 (by rfl) s x A
@[simp] theorem ap108x108 (s x : Value) (A : AH) : aAppend Try.prog 108 108 s x A = appW 87 3 24 s x A := aAppend_eq ni108 sl108 sz87 by87 ze87 (by rfl) s x A
@[simp] theorem sc29 (a : Option Addr) (n c : Nat) (lo hi mx : Option Value) (A : AH) : aSlice Try.prog 29 (.slice a n c) lo hi mx A = slW Try.prog 1 a n c lo hi mx A := aSlice_eq sl29 sz3 a n c lo hi mx A
@[simp] theorem sc108 (a : Option Addr) (n c : Nat) (lo hi mx : Option Value) (A : AH) : aSlice Try.prog 108 (.slice a n c) lo hi mx A = slW Try.prog 3 a n c lo hi mx A := aSlice_eq sl108 sz87 a n c lo hi mx A
@[simp] theorem eq3 (A : AH) (k : Nat) (j : IntKind) (a b : Int) : aEq Try.prog A (k + 1) 3 (.int j a) (.int j b) = some (decide (a = b)) := aEq_int (by kernel_rfl) A k j a b
@[simp] theorem eq25 (A : AH) (k : Nat) (j : IntKind) (a b : Int) : aEq Try.prog A (k + 1) 25 (.int j a) (.int j b) = some (decide (a = b)) := aEq_int (by kernel_rfl) A k j a b
@[simp] theorem eq26 (A : AH) (k : Nat) (j : IntKind) (a b : Int) : aEq Try.prog A (k + 1) 26 (.int j a) (.int j b) = some (decide (a = b)) := aEq_int (by kernel_rfl) A k j a b
@[simp] theorem eq29 (A : AH) (k : Nat) (a : Option Addr) (n c n' c' : Nat) : aEq Try.prog A (k + 1) 29 (.slice a n c) (.slice none n' c') = some (decide (a = none)) := aEq_slice (by kernel_rfl) A k a n c n' c'
@[simp] theorem eq36 (A : AH) (k : Nat) (j : IntKind) (a b : Int) : aEq Try.prog A (k + 1) 36 (.int j a) (.int j b) = some (decide (a = b)) := aEq_int (by kernel_rfl) A k j a b
@[simp] theorem eq79 (A : AH) (k : Nat) (a : Option Addr) : aEq Try.prog A (k + 1) 79 (.pointer a) (.pointer none) = some (decide (a = none)) := aEq_ptr (by kernel_rfl) A k a
@[simp] theorem eg92 : Try.prog.eqGuardType Try.prog.depth 92 = false := by kernel_rfl
@[simp] theorem eq92 (A : AH) (k : Nat) (xs ys : List Value) : aEq Try.prog A (k + 1) 92 (.agg ⟨xs⟩) (.agg ⟨ys⟩) = eqL Try.prog A k xs ys [(3, 0), (3, 1)] := aEq_fs (by kernel_rfl) A k xs ys
@[simp] theorem eg105 : Try.prog.eqGuardType Try.prog.depth 105 = false := by kernel_rfl
@[simp] theorem eq105 (A : AH) (k : Nat) (xs ys : List Value) : aEq Try.prog A (k + 1) 105 (.agg ⟨xs⟩) (.agg ⟨ys⟩) = eqL Try.prog A k xs ys [(3, 0), (3, 1)] := aEq_fs (by kernel_rfl) A k xs ys
@[simp] theorem eq108 (A : AH) (k : Nat) (a : Option Addr) (n c n' c' : Nat) : aEq Try.prog A (k + 1) 108 (.slice a n c) (.slice none n' c') = some (decide (a = none)) := aEq_slice (by kernel_rfl) A k a n c n' c'
end Go.Proofs.Ytiapgbhnbgccaaa.AQ
