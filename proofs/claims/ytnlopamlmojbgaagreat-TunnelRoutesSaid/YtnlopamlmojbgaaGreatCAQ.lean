/-
  Facts on the types of the program.
-/
import Derived.Test.YtnlopamlmojbgaaGreatProg
import Derived.Test.YtnlopamlmojbgaaGreatP2
import Derived.KernelRfl
set_option linter.unusedSimpArgs false
set_option linter.unusedVariables false
/- What simp needs to know of the program's types. -/
namespace Go.Proofs.YtnlopamlmojbgaaGreat.AQ
open Go Go.AI Go.Proofs
@[simp] theorem sz3 : szOf Tryz.prog 3 = some 1 := by kernel_rfl
@[simp] theorem sz4 : szOf Tryz.prog 4 = some 1 := by kernel_rfl
@[simp] theorem sz5 : szOf Tryz.prog 5 = some 1 := by kernel_rfl
@[simp] theorem sz22 : szOf Tryz.prog 22 = some 1 := by kernel_rfl
@[simp] theorem sz26 : szOf Tryz.prog 26 = some 1 := by kernel_rfl
@[simp] theorem sz28 : szOf Tryz.prog 28 = some 1 := by kernel_rfl
@[simp] theorem sz29 : szOf Tryz.prog 29 = some 1 := by kernel_rfl
@[simp] theorem sz30 : szOf Tryz.prog 30 = some 1 := by kernel_rfl
@[simp] theorem sz32 : szOf Tryz.prog 32 = some 6 := by kernel_rfl
@[simp] theorem sz33 : szOf Tryz.prog 33 = some 1 := by kernel_rfl
@[simp] theorem sz34 : szOf Tryz.prog 34 = some 1 := by kernel_rfl
@[simp] theorem sz36 : szOf Tryz.prog 36 = some 6 := by kernel_rfl
@[simp] theorem sz38 : szOf Tryz.prog 38 = some 4 := by kernel_rfl
@[simp] theorem sz40 : szOf Tryz.prog 40 = some 6 := by kernel_rfl
@[simp] theorem sz41 : szOf Tryz.prog 41 = some 1 := by kernel_rfl
@[simp] theorem sz43 : szOf Tryz.prog 43 = some 17 := by kernel_rfl
@[simp] theorem sz44 : szOf Tryz.prog 44 = some 1 := by kernel_rfl
@[simp] theorem sz50 : szOf Tryz.prog 50 = some 1 := by kernel_rfl
@[simp] theorem sz54 : szOf Tryz.prog 54 = some 1 := by kernel_rfl
@[simp] theorem sz61 : szOf Tryz.prog 61 = some 1 := by kernel_rfl
@[simp] theorem sz63 : szOf Tryz.prog 63 = some 13 := by kernel_rfl
@[simp] theorem sz64 : szOf Tryz.prog 64 = some 1 := by kernel_rfl
@[simp] theorem sz65 : szOf Tryz.prog 65 = some 1 := by kernel_rfl
@[simp] theorem sz67 : szOf Tryz.prog 67 = some 10 := by kernel_rfl
@[simp] theorem sz69 : szOf Tryz.prog 69 = some 11 := by kernel_rfl
@[simp] theorem sz71 : szOf Tryz.prog 71 = some 32 := by kernel_rfl
@[simp] theorem sz73 : szOf Tryz.prog 73 = some 3 := by kernel_rfl
@[simp] theorem sz79 : szOf Tryz.prog 79 = some 5 := by kernel_rfl
@[simp] theorem sz80 : szOf Tryz.prog 80 = some 1 := by kernel_rfl
@[simp] theorem sz81 : szOf Tryz.prog 81 = some 8 := by kernel_rfl
@[simp] theorem sz83 : szOf Tryz.prog 83 = some 15 := by kernel_rfl
@[simp] theorem sz89 : szOf Tryz.prog 89 = some 4 := by kernel_rfl
@[simp] theorem sz90 : szOf Tryz.prog 90 = some 1 := by kernel_rfl
@[simp] theorem sz92 : szOf Tryz.prog 92 = some 6 := by kernel_rfl
@[simp] theorem sz102 : szOf Tryz.prog 102 = some 13 := by kernel_rfl
@[simp] theorem sz104 : szOf Tryz.prog 104 = some 4 := by kernel_rfl
@[simp] theorem sz105 : szOf Tryz.prog 105 = some 11 := by kernel_rfl
@[simp] theorem sz107 : szOf Tryz.prog 107 = some 32 := by kernel_rfl
@[simp] theorem sz109 : szOf Tryz.prog 109 = some 1 := by kernel_rfl
@[simp] theorem sz111 : szOf Tryz.prog 111 = some 33 := by kernel_rfl
@[simp] theorem sz118 : szOf Tryz.prog 118 = some 2 := by kernel_rfl
@[simp] theorem sz132 : szOf Tryz.prog 132 = some 15 := by kernel_rfl
@[simp] theorem sz160 : szOf Tryz.prog 160 = some 1 := by kernel_rfl
@[simp] theorem sz162 : szOf Tryz.prog 162 = some 10 := by kernel_rfl
@[simp] theorem sz167 : szOf Tryz.prog 167 = some 2 := by kernel_rfl
@[simp] theorem sz175 : szOf Tryz.prog 175 = some 1 := by kernel_rfl
@[simp] theorem sz176 : szOf Tryz.prog 176 = some 1 := by kernel_rfl
@[simp] theorem sz177 : szOf Tryz.prog 177 = some 1 := by kernel_rfl
@[simp] theorem sz183 : szOf Tryz.prog 183 = some 2 := by kernel_rfl
@[simp] theorem sz185 : szOf Tryz.prog 185 = some 3 := by kernel_rfl
@[simp] theorem sz190 : szOf Tryz.prog 190 = some 2 := by kernel_rfl
@[simp] theorem sz192 : szOf Tryz.prog 192 = some 3 := by kernel_rfl
@[simp] theorem sz197 : szOf Tryz.prog 197 = some 2 := by kernel_rfl
@[simp] theorem sz199 : szOf Tryz.prog 199 = some 1 := by kernel_rfl
@[simp] theorem sz201 : szOf Tryz.prog 201 = some 1 := by kernel_rfl
@[simp] theorem sz203 : szOf Tryz.prog 203 = some 2 := by kernel_rfl
@[simp] theorem ag3 : aggOf Tryz.prog 3 = some false := by kernel_rfl
@[simp] theorem ag4 : aggOf Tryz.prog 4 = some false := by kernel_rfl
@[simp] theorem ag5 : aggOf Tryz.prog 5 = some false := by kernel_rfl
@[simp] theorem ag22 : aggOf Tryz.prog 22 = some false := by kernel_rfl
@[simp] theorem ag26 : aggOf Tryz.prog 26 = some false := by kernel_rfl
@[simp] theorem ag28 : aggOf Tryz.prog 28 = some false := by kernel_rfl
@[simp] theorem ag29 : aggOf Tryz.prog 29 = some false := by kernel_rfl
@[simp] theorem ag30 : aggOf Tryz.prog 30 = some false := by kernel_rfl
@[simp] theorem ag32 : aggOf Tryz.prog 32 = some true := by kernel_rfl
@[simp] theorem ag33 : aggOf Tryz.prog 33 = some false := by kernel_rfl
@[simp] theorem ag34 : aggOf Tryz.prog 34 = some false := by kernel_rfl
@[simp] theorem ag36 : aggOf Tryz.prog 36 = some true := by kernel_rfl
@[simp] theorem ag38 : aggOf Tryz.prog 38 = some true := by kernel_rfl
@[simp] theorem ag40 : aggOf Tryz.prog 40 = some true := by kernel_rfl
@[simp] theorem ag41 : aggOf Tryz.prog 41 = some false := by kernel_rfl
@[simp] theorem ag43 : aggOf Tryz.prog 43 = some true := by kernel_rfl
@[simp] theorem ag44 : aggOf Tryz.prog 44 = some false := by kernel_rfl
@[simp] theorem ag50 : aggOf Tryz.prog 50 = some false := by kernel_rfl
@[simp] theorem ag54 : aggOf Tryz.prog 54 = some false := by kernel_rfl
@[simp] theorem ag61 : aggOf Tryz.prog 61 = some false := by kernel_rfl
@[simp] theorem ag63 : aggOf Tryz.prog 63 = some true := by kernel_rfl
@[simp] theorem ag64 : aggOf Tryz.prog 64 = some false := by kernel_rfl
@[simp] theorem ag65 : aggOf Tryz.prog 65 = some false := by kernel_rfl
@[simp] theorem ag67 : aggOf Tryz.prog 67 = some true := by kernel_rfl
@[simp] theorem ag69 : aggOf Tryz.prog 69 = some true := by kernel_rfl
@[simp] theorem ag71 : aggOf Tryz.prog 71 = some true := by kernel_rfl
@[simp] theorem ag79 : aggOf Tryz.prog 79 = some true := by kernel_rfl
@[simp] theorem ag80 : aggOf Tryz.prog 80 = some false := by kernel_rfl
@[simp] theorem ag81 : aggOf Tryz.prog 81 = some true := by kernel_rfl
@[simp] theorem ag83 : aggOf Tryz.prog 83 = some true := by kernel_rfl
@[simp] theorem ag89 : aggOf Tryz.prog 89 = some true := by kernel_rfl
@[simp] theorem ag90 : aggOf Tryz.prog 90 = some false := by kernel_rfl
@[simp] theorem ag102 : aggOf Tryz.prog 102 = some true := by kernel_rfl
@[simp] theorem ag104 : aggOf Tryz.prog 104 = some true := by kernel_rfl
@[simp] theorem ag105 : aggOf Tryz.prog 105 = some true := by kernel_rfl
@[simp] theorem ag107 : aggOf Tryz.prog 107 = some true := by kernel_rfl
@[simp] theorem ag109 : aggOf Tryz.prog 109 = some false := by kernel_rfl
@[simp] theorem ag118 : aggOf Tryz.prog 118 = some true := by kernel_rfl
@[simp] theorem ag132 : aggOf Tryz.prog 132 = some true := by kernel_rfl
@[simp] theorem ag160 : aggOf Tryz.prog 160 = some false := by kernel_rfl
@[simp] theorem ag162 : aggOf Tryz.prog 162 = some true := by kernel_rfl
@[simp] theorem ag167 : aggOf Tryz.prog 167 = some true := by kernel_rfl
@[simp] theorem ag175 : aggOf Tryz.prog 175 = some false := by kernel_rfl
@[simp] theorem ag176 : aggOf Tryz.prog 176 = some false := by kernel_rfl
@[simp] theorem ag177 : aggOf Tryz.prog 177 = some false := by kernel_rfl
@[simp] theorem ag183 : aggOf Tryz.prog 183 = some true := by kernel_rfl
@[simp] theorem ag185 : aggOf Tryz.prog 185 = some true := by kernel_rfl
@[simp] theorem ag190 : aggOf Tryz.prog 190 = some true := by kernel_rfl
@[simp] theorem ag192 : aggOf Tryz.prog 192 = some true := by kernel_rfl
@[simp] theorem ag197 : aggOf Tryz.prog 197 = some true := by kernel_rfl
@[simp] theorem ag199 : aggOf Tryz.prog 199 = some false := by kernel_rfl
@[simp] theorem ag201 : aggOf Tryz.prog 201 = some true := by kernel_rfl
@[simp] theorem ze3 : zeroOf Tryz.prog 3 = some (.int .i64 0) := by kernel_rfl
@[simp] theorem ze32 : zeroOf Tryz.prog 32 = some (.agg #[(.int .i64 0), (.int .i64 0), (.slice none 0 0), (.int .i64 0), (.slice none 0 0), (.slice none 0 0)]) := by kernel_rfl
@[simp] theorem ze36 : zeroOf Tryz.prog 36 = some (.agg #[(.int .u64 0), (.int .i64 0), (.int .i64 0), (.int .u32 0), (.int .u32 0), (.int .u32 0)]) := by kernel_rfl
@[simp] theorem ze38 : zeroOf Tryz.prog 38 = some (.agg #[(.int .i64 0), (.int .i64 0), (.int .i64 0), (.int .i64 0)]) := by kernel_rfl
@[simp] theorem ze43 : zeroOf Tryz.prog 43 = some (.agg #[(.int .u8 0), (.int .i64 0), (.int .i64 0), (.int .i64 0), (.int .u64 0), (.int .i64 0), (.int .i64 0), (.int .u32 0), (.int .u32 0), (.int .u32 0), (.int .i64 0), (.int .i64 0), (.int .i64 0), (.int .i64 0), (.int .i64 0), (.int .i64 0), (.slice none 0 0)]) := by kernel_rfl
@[simp] theorem ze63 : zeroOf Tryz.prog 63 = some (.agg #[(.int .i64 0), (.int .i64 0), (.int .i64 0), (.int .i64 0), (.int .i64 0), (.int .i64 0), (.int .u64 0), (.int .i64 0), (.int .i64 0), (.int .u32 0), (.int .u32 0), (.int .u32 0), (.slice none 0 0)]) := by kernel_rfl
@[simp] theorem ze67 : zeroOf Tryz.prog 67 = some (.agg #[(.int .u64 0), (.int .i64 0), (.int .i64 0), (.int .u32 0), (.int .u32 0), (.int .u32 0), (.slice none 0 0), (.slice none 0 0), (.slice none 0 0), (.int .i64 0)]) := by kernel_rfl
@[simp] theorem ze69 : zeroOf Tryz.prog 69 = some (.agg #[(.int .i64 0), (.int .i64 0), (.int .i64 0), (.int .i64 0), (.int .u64 0), (.int .i64 0), (.int .i64 0), (.int .u32 0), (.int .u32 0), (.int .u32 0), (.slice none 0 0)]) := by kernel_rfl
@[simp] theorem ze71 : zeroOf Tryz.prog 71 = some (.agg #[(.int .i64 0), (.int .i64 0), (.int .u64 0), (.int .i64 0), (.int .i64 0), (.int .u32 0), (.int .u32 0), (.int .u32 0), (.int .i64 0), (.int .i64 0), (.int .i64 0), (.int .i64 0), (.int .u64 0), (.int .i64 0), (.int .i64 0), (.int .u32 0), (.int .u32 0), (.int .u32 0), (.slice none 0 0), (.int .i64 0), (.int .i64 0), (.int .i64 0), (.int .i64 0), (.int .u64 0), (.int .i64 0), (.int .i64 0), (.int .u32 0), (.int .u32 0), (.int .u32 0), (.slice none 0 0), (.int .i64 0), (.int .i64 0)]) := by kernel_rfl
@[simp] theorem ze73 : zeroOf Tryz.prog 73 = some (.agg #[(.int .i64 0), (.int .i64 0), (.int .u64 0)]) := by kernel_rfl
@[simp] theorem ze79 : zeroOf Tryz.prog 79 = some (.agg #[(.int .i64 0), (.int .i64 0), (.int .u64 0), (.int .i64 0), (.int .u32 0)]) := by kernel_rfl
@[simp] theorem ze81 : zeroOf Tryz.prog 81 = some (.agg #[(.int .u64 0), (.int .u64 0), (.int .u64 0), (.int .u64 0), (.int .u64 0), (.int .u64 0), (.int .u64 0), (.int .u64 0)]) := by kernel_rfl
@[simp] theorem ze83 : zeroOf Tryz.prog 83 = some (.agg #[(.int .i64 0), (.int .i64 0), (.int .u64 0), (.int .i64 0), (.int .u32 0), (.int .i64 0), (.bool false), (.int .u64 0), (.int .u64 0), (.int .u64 0), (.int .u64 0), (.int .u64 0), (.int .u64 0), (.int .u64 0), (.int .u64 0)]) := by kernel_rfl
@[simp] theorem ze87 : zeroOf Tryz.prog 87 = some (.agg #[(.int .i64 0), (.int .i64 0), (.int .i64 0), (.int .i64 0), (.int .i64 0), (.int .i64 0)]) := by kernel_rfl
@[simp] theorem ze89 : zeroOf Tryz.prog 89 = some (.agg #[(.int .i64 0), (.int .i64 0), (.int .i64 0), (.int .i64 0)]) := by kernel_rfl
@[simp] theorem ze92 : zeroOf Tryz.prog 92 = some (.agg #[(.int .i64 0), (.int .i64 0), (.slice none 0 0), (.int .i64 0), (.slice none 0 0), (.slice none 0 0)]) := by kernel_rfl
@[simp] theorem ze102 : zeroOf Tryz.prog 102 = some (.agg #[(.int .i64 0), (.int .i64 0), (.int .i64 0), (.int .i64 0), (.int .i64 0), (.int .i64 0), (.int .u64 0), (.int .i64 0), (.int .i64 0), (.int .u32 0), (.int .u32 0), (.int .u32 0), (.slice none 0 0)]) := by kernel_rfl
@[simp] theorem ze104 : zeroOf Tryz.prog 104 = some (.agg #[(.int .i64 0), (.int .i64 0), (.int .i64 0), (.int .i64 0)]) := by kernel_rfl
@[simp] theorem ze105 : zeroOf Tryz.prog 105 = some (.agg #[(.int .i64 0), (.int .i64 0), (.int .i64 0), (.int .i64 0), (.int .u64 0), (.int .i64 0), (.int .i64 0), (.int .u32 0), (.int .u32 0), (.int .u32 0), (.slice none 0 0)]) := by kernel_rfl
@[simp] theorem ze107 : zeroOf Tryz.prog 107 = some (.agg #[(.int .i64 0), (.int .i64 0), (.int .u64 0), (.int .i64 0), (.int .i64 0), (.int .u32 0), (.int .u32 0), (.int .u32 0), (.int .i64 0), (.int .i64 0), (.int .i64 0), (.int .i64 0), (.int .u64 0), (.int .i64 0), (.int .i64 0), (.int .u32 0), (.int .u32 0), (.int .u32 0), (.slice none 0 0), (.int .i64 0), (.int .i64 0), (.int .i64 0), (.int .i64 0), (.int .u64 0), (.int .i64 0), (.int .i64 0), (.int .u32 0), (.int .u32 0), (.int .u32 0), (.slice none 0 0), (.int .i64 0), (.int .i64 0)]) := by kernel_rfl
@[simp] theorem ze109 : zeroOf Tryz.prog 109 = some (.pointer none) := by kernel_rfl
@[simp] theorem ze111 : zeroOf Tryz.prog 111 = some (.agg #[(.int .i64 0), (.int .i64 0), (.int .u64 0), (.int .i64 0), (.int .i64 0), (.int .u32 0), (.int .u32 0), (.int .u32 0), (.int .i64 0), (.int .i64 0), (.int .i64 0), (.int .i64 0), (.int .u64 0), (.int .i64 0), (.int .i64 0), (.int .u32 0), (.int .u32 0), (.int .u32 0), (.slice none 0 0), (.int .i64 0), (.int .i64 0), (.int .i64 0), (.int .i64 0), (.int .u64 0), (.int .i64 0), (.int .i64 0), (.int .u32 0), (.int .u32 0), (.int .u32 0), (.slice none 0 0), (.int .i64 0), (.int .i64 0), (.pointer none)]) := by kernel_rfl
@[simp] theorem ze118 : zeroOf Tryz.prog 118 = some (.agg #[(.slice none 0 0), (.int .i64 0)]) := by kernel_rfl
@[simp] theorem ze132 : zeroOf Tryz.prog 132 = some (.agg #[(.int .i64 0), (.int .i64 0), (.int .u64 0), (.int .i64 0), (.int .u32 0), (.int .i64 0), (.bool false), (.int .u64 0), (.int .u64 0), (.int .u64 0), (.int .u64 0), (.int .u64 0), (.int .u64 0), (.int .u64 0), (.int .u64 0)]) := by kernel_rfl
@[simp] theorem ze148 : zeroOf Tryz.prog 148 = some (.agg #[(.int .i64 0), (.int .i64 0), (.int .i64 0), (.int .i64 0), (.int .u64 0), (.slice none 0 0), (.int .u64 0), (.int .i64 0), (.int .i64 0), (.int .u32 0), (.int .u32 0), (.int .u32 0)]) := by kernel_rfl
@[simp] theorem ze162 : zeroOf Tryz.prog 162 = some (.agg #[(.int .u64 0), (.int .i64 0), (.int .i64 0), (.int .u32 0), (.int .u32 0), (.int .u32 0), (.slice none 0 0), (.slice none 0 0), (.slice none 0 0), (.int .i64 0)]) := by kernel_rfl
@[simp] theorem ze167 : zeroOf Tryz.prog 167 = some (.agg #[(.int .i64 0), (.int .i64 0)]) := by kernel_rfl
@[simp] theorem ze180 : zeroOf Tryz.prog 180 = some (.agg #[(.slice none 0 0), (.int .i64 0), (.map none), (.map none), (.pointer none)]) := by kernel_rfl
@[simp] theorem ze183 : zeroOf Tryz.prog 183 = some (.agg #[(.slice none 0 0), (.int .i64 0)]) := by kernel_rfl
@[simp] theorem ze185 : zeroOf Tryz.prog 185 = some (.agg #[(.int .i64 0), (.int .i64 0), (.int .i64 0)]) := by kernel_rfl
@[simp] theorem ze190 : zeroOf Tryz.prog 190 = some (.agg #[(.int .i64 0), (.int .i64 0)]) := by kernel_rfl
@[simp] theorem ze192 : zeroOf Tryz.prog 192 = some (.agg #[(.int .i64 0), (.int .i64 0), (.int .u64 0)]) := by kernel_rfl
@[simp] theorem ze197 : zeroOf Tryz.prog 197 = some (.agg #[(.int .i64 0), (.int .i64 0)]) := by kernel_rfl
@[simp] theorem ze203 : zeroOf Tryz.prog 203 = some (.agg #[(.bool false), (.slice none 0 0)]) := by kernel_rfl
@[simp] theorem by3 : byOf Tryz.prog 3 = some 8 := by kernel_rfl
@[simp] theorem by63 : byOf Tryz.prog 63 = some 112 := by kernel_rfl
@[simp] theorem by71 : byOf Tryz.prog 71 = some 264 := by kernel_rfl
@[simp] theorem by73 : byOf Tryz.prog 73 = some 24 := by kernel_rfl
@[simp] theorem by79 : byOf Tryz.prog 79 = some 40 := by kernel_rfl
@[simp] theorem by83 : byOf Tryz.prog 83 = some 120 := by kernel_rfl
@[simp] theorem by89 : byOf Tryz.prog 89 = some 32 := by kernel_rfl
@[simp] theorem by102 : byOf Tryz.prog 102 = some 112 := by kernel_rfl
@[simp] theorem by104 : byOf Tryz.prog 104 = some 32 := by kernel_rfl
@[simp] theorem by107 : byOf Tryz.prog 107 = some 264 := by kernel_rfl
@[simp] theorem by109 : byOf Tryz.prog 109 = some 8 := by kernel_rfl
@[simp] theorem by118 : byOf Tryz.prog 118 = some 32 := by kernel_rfl
@[simp] theorem by185 : byOf Tryz.prog 185 = some 24 := by kernel_rfl
@[simp] theorem by192 : byOf Tryz.prog 192 = some 24 := by kernel_rfl
@[simp] theorem fd24x0 : fieldOf Tryz.prog 24 0 = some (0, 3) := by kernel_rfl
@[simp] theorem fd24x1 : fieldOf Tryz.prog 24 1 = some (1, 3) := by kernel_rfl
@[simp] theorem fd24x2 : fieldOf Tryz.prog 24 2 = some (2, 22) := by kernel_rfl
@[simp] theorem fd32x0 : fieldOf Tryz.prog 32 0 = some (0, 3) := by kernel_rfl
@[simp] theorem fd32x1 : fieldOf Tryz.prog 32 1 = some (1, 3) := by kernel_rfl
@[simp] theorem fd32x2 : fieldOf Tryz.prog 32 2 = some (2, 28) := by kernel_rfl
@[simp] theorem fd32x3 : fieldOf Tryz.prog 32 3 = some (3, 3) := by kernel_rfl
@[simp] theorem fd32x4 : fieldOf Tryz.prog 32 4 = some (4, 29) := by kernel_rfl
@[simp] theorem fd32x5 : fieldOf Tryz.prog 32 5 = some (5, 30) := by kernel_rfl
@[simp] theorem fd36x0 : fieldOf Tryz.prog 36 0 = some (0, 33) := by kernel_rfl
@[simp] theorem fd36x1 : fieldOf Tryz.prog 36 1 = some (1, 3) := by kernel_rfl
@[simp] theorem fd36x2 : fieldOf Tryz.prog 36 2 = some (2, 3) := by kernel_rfl
@[simp] theorem fd36x3 : fieldOf Tryz.prog 36 3 = some (3, 34) := by kernel_rfl
@[simp] theorem fd36x4 : fieldOf Tryz.prog 36 4 = some (4, 34) := by kernel_rfl
@[simp] theorem fd36x5 : fieldOf Tryz.prog 36 5 = some (5, 34) := by kernel_rfl
@[simp] theorem fd38x3 : fieldOf Tryz.prog 38 3 = some (3, 3) := by kernel_rfl
@[simp] theorem fd40x0 : fieldOf Tryz.prog 40 0 = some (0, 3) := by kernel_rfl
@[simp] theorem fd40x1 : fieldOf Tryz.prog 40 1 = some (1, 38) := by kernel_rfl
@[simp] theorem fd40x2 : fieldOf Tryz.prog 40 2 = some (5, 3) := by kernel_rfl
@[simp] theorem fd43x0 : fieldOf Tryz.prog 43 0 = some (0, 5) := by kernel_rfl
@[simp] theorem fd43x1 : fieldOf Tryz.prog 43 1 = some (1, 3) := by kernel_rfl
@[simp] theorem fd43x2 : fieldOf Tryz.prog 43 2 = some (2, 3) := by kernel_rfl
@[simp] theorem fd43x3 : fieldOf Tryz.prog 43 3 = some (3, 3) := by kernel_rfl
@[simp] theorem fd43x4 : fieldOf Tryz.prog 43 4 = some (4, 36) := by kernel_rfl
@[simp] theorem fd43x5 : fieldOf Tryz.prog 43 5 = some (10, 40) := by kernel_rfl
@[simp] theorem fd43x6 : fieldOf Tryz.prog 43 6 = some (16, 41) := by kernel_rfl
@[simp] theorem fd63x0 : fieldOf Tryz.prog 63 0 = some (0, 3) := by kernel_rfl
@[simp] theorem fd63x1 : fieldOf Tryz.prog 63 1 = some (1, 3) := by kernel_rfl
@[simp] theorem fd63x2 : fieldOf Tryz.prog 63 2 = some (2, 38) := by kernel_rfl
@[simp] theorem fd63x3 : fieldOf Tryz.prog 63 3 = some (6, 36) := by kernel_rfl
@[simp] theorem fd63x4 : fieldOf Tryz.prog 63 4 = some (12, 61) := by kernel_rfl
@[simp] theorem fd67x0 : fieldOf Tryz.prog 67 0 = some (0, 36) := by kernel_rfl
@[simp] theorem fd67x1 : fieldOf Tryz.prog 67 1 = some (6, 61) := by kernel_rfl
@[simp] theorem fd67x2 : fieldOf Tryz.prog 67 2 = some (7, 64) := by kernel_rfl
@[simp] theorem fd67x3 : fieldOf Tryz.prog 67 3 = some (8, 65) := by kernel_rfl
@[simp] theorem fd67x4 : fieldOf Tryz.prog 67 4 = some (9, 3) := by kernel_rfl
@[simp] theorem fd69x0 : fieldOf Tryz.prog 69 0 = some (0, 38) := by kernel_rfl
@[simp] theorem fd69x1 : fieldOf Tryz.prog 69 1 = some (4, 36) := by kernel_rfl
@[simp] theorem fd69x2 : fieldOf Tryz.prog 69 2 = some (10, 61) := by kernel_rfl
@[simp] theorem fd71x0 : fieldOf Tryz.prog 71 0 = some (0, 3) := by kernel_rfl
@[simp] theorem fd71x1 : fieldOf Tryz.prog 71 1 = some (1, 3) := by kernel_rfl
@[simp] theorem fd71x2 : fieldOf Tryz.prog 71 2 = some (2, 36) := by kernel_rfl
@[simp] theorem fd71x3 : fieldOf Tryz.prog 71 3 = some (8, 69) := by kernel_rfl
@[simp] theorem fd71x4 : fieldOf Tryz.prog 71 4 = some (19, 69) := by kernel_rfl
@[simp] theorem fd71x5 : fieldOf Tryz.prog 71 5 = some (30, 3) := by kernel_rfl
@[simp] theorem fd71x6 : fieldOf Tryz.prog 71 6 = some (31, 3) := by kernel_rfl
@[simp] theorem fd73x0 : fieldOf Tryz.prog 73 0 = some (0, 3) := by kernel_rfl
@[simp] theorem fd73x1 : fieldOf Tryz.prog 73 1 = some (1, 3) := by kernel_rfl
@[simp] theorem fd73x2 : fieldOf Tryz.prog 73 2 = some (2, 33) := by kernel_rfl
@[simp] theorem fd79x0 : fieldOf Tryz.prog 79 0 = some (0, 3) := by kernel_rfl
@[simp] theorem fd79x1 : fieldOf Tryz.prog 79 1 = some (1, 3) := by kernel_rfl
@[simp] theorem fd79x3 : fieldOf Tryz.prog 79 3 = some (3, 3) := by kernel_rfl
@[simp] theorem fd79x4 : fieldOf Tryz.prog 79 4 = some (4, 34) := by kernel_rfl
@[simp] theorem fd83x0 : fieldOf Tryz.prog 83 0 = some (0, 79) := by kernel_rfl
@[simp] theorem fd83x2 : fieldOf Tryz.prog 83 2 = some (6, 4) := by kernel_rfl
@[simp] theorem fd83x3 : fieldOf Tryz.prog 83 3 = some (7, 81) := by kernel_rfl
@[simp] theorem fd87x0 : fieldOf Tryz.prog 87 0 = some (0, 3) := by kernel_rfl
@[simp] theorem fd87x1 : fieldOf Tryz.prog 87 1 = some (1, 38) := by kernel_rfl
@[simp] theorem fd87x2 : fieldOf Tryz.prog 87 2 = some (5, 44) := by kernel_rfl
@[simp] theorem fd89x0 : fieldOf Tryz.prog 89 0 = some (0, 3) := by kernel_rfl
@[simp] theorem fd89x1 : fieldOf Tryz.prog 89 1 = some (1, 3) := by kernel_rfl
@[simp] theorem fd89x2 : fieldOf Tryz.prog 89 2 = some (2, 3) := by kernel_rfl
@[simp] theorem fd89x3 : fieldOf Tryz.prog 89 3 = some (3, 44) := by kernel_rfl
@[simp] theorem fd92x0 : fieldOf Tryz.prog 92 0 = some (0, 3) := by kernel_rfl
@[simp] theorem fd92x1 : fieldOf Tryz.prog 92 1 = some (1, 3) := by kernel_rfl
@[simp] theorem fd92x2 : fieldOf Tryz.prog 92 2 = some (2, 90) := by kernel_rfl
@[simp] theorem fd92x3 : fieldOf Tryz.prog 92 3 = some (3, 3) := by kernel_rfl
@[simp] theorem fd92x4 : fieldOf Tryz.prog 92 4 = some (4, 50) := by kernel_rfl
@[simp] theorem fd92x5 : fieldOf Tryz.prog 92 5 = some (5, 54) := by kernel_rfl
@[simp] theorem fd102x0 : fieldOf Tryz.prog 102 0 = some (0, 3) := by kernel_rfl
@[simp] theorem fd102x1 : fieldOf Tryz.prog 102 1 = some (1, 3) := by kernel_rfl
@[simp] theorem fd102x2 : fieldOf Tryz.prog 102 2 = some (2, 38) := by kernel_rfl
@[simp] theorem fd102x3 : fieldOf Tryz.prog 102 3 = some (6, 36) := by kernel_rfl
@[simp] theorem fd102x4 : fieldOf Tryz.prog 102 4 = some (12, 61) := by kernel_rfl
@[simp] theorem fd105x0 : fieldOf Tryz.prog 105 0 = some (0, 38) := by kernel_rfl
@[simp] theorem fd105x1 : fieldOf Tryz.prog 105 1 = some (4, 36) := by kernel_rfl
@[simp] theorem fd105x2 : fieldOf Tryz.prog 105 2 = some (10, 61) := by kernel_rfl
@[simp] theorem fd107x0 : fieldOf Tryz.prog 107 0 = some (0, 3) := by kernel_rfl
@[simp] theorem fd107x1 : fieldOf Tryz.prog 107 1 = some (1, 3) := by kernel_rfl
@[simp] theorem fd107x2 : fieldOf Tryz.prog 107 2 = some (2, 36) := by kernel_rfl
@[simp] theorem fd107x3 : fieldOf Tryz.prog 107 3 = some (8, 105) := by kernel_rfl
@[simp] theorem fd107x4 : fieldOf Tryz.prog 107 4 = some (19, 105) := by kernel_rfl
@[simp] theorem fd107x5 : fieldOf Tryz.prog 107 5 = some (30, 3) := by kernel_rfl
@[simp] theorem fd107x6 : fieldOf Tryz.prog 107 6 = some (31, 3) := by kernel_rfl
@[simp] theorem fd111x0 : fieldOf Tryz.prog 111 0 = some (0, 71) := by kernel_rfl
@[simp] theorem fd111x1 : fieldOf Tryz.prog 111 1 = some (32, 26) := by kernel_rfl
@[simp] theorem fd118x0 : fieldOf Tryz.prog 118 0 = some (0, 61) := by kernel_rfl
@[simp] theorem fd118x1 : fieldOf Tryz.prog 118 1 = some (1, 3) := by kernel_rfl
@[simp] theorem fd132x0 : fieldOf Tryz.prog 132 0 = some (0, 79) := by kernel_rfl
@[simp] theorem fd132x1 : fieldOf Tryz.prog 132 1 = some (5, 3) := by kernel_rfl
@[simp] theorem fd132x2 : fieldOf Tryz.prog 132 2 = some (6, 4) := by kernel_rfl
@[simp] theorem fd132x3 : fieldOf Tryz.prog 132 3 = some (7, 81) := by kernel_rfl
@[simp] theorem fd148x0 : fieldOf Tryz.prog 148 0 = some (0, 3) := by kernel_rfl
@[simp] theorem fd148x1 : fieldOf Tryz.prog 148 1 = some (1, 3) := by kernel_rfl
@[simp] theorem fd148x2 : fieldOf Tryz.prog 148 2 = some (2, 3) := by kernel_rfl
@[simp] theorem fd148x3 : fieldOf Tryz.prog 148 3 = some (3, 3) := by kernel_rfl
@[simp] theorem fd148x4 : fieldOf Tryz.prog 148 4 = some (4, 33) := by kernel_rfl
@[simp] theorem fd148x5 : fieldOf Tryz.prog 148 5 = some (5, 61) := by kernel_rfl
@[simp] theorem fd148x6 : fieldOf Tryz.prog 148 6 = some (6, 36) := by kernel_rfl
@[simp] theorem fd162x0 : fieldOf Tryz.prog 162 0 = some (0, 36) := by kernel_rfl
@[simp] theorem fd162x1 : fieldOf Tryz.prog 162 1 = some (6, 61) := by kernel_rfl
@[simp] theorem fd162x2 : fieldOf Tryz.prog 162 2 = some (7, 64) := by kernel_rfl
@[simp] theorem fd162x3 : fieldOf Tryz.prog 162 3 = some (8, 160) := by kernel_rfl
@[simp] theorem fd162x4 : fieldOf Tryz.prog 162 4 = some (9, 3) := by kernel_rfl
@[simp] theorem fd180x0 : fieldOf Tryz.prog 180 0 = some (0, 80) := by kernel_rfl
@[simp] theorem fd180x1 : fieldOf Tryz.prog 180 1 = some (1, 3) := by kernel_rfl
@[simp] theorem fd180x2 : fieldOf Tryz.prog 180 2 = some (2, 175) := by kernel_rfl
@[simp] theorem fd180x3 : fieldOf Tryz.prog 180 3 = some (3, 176) := by kernel_rfl
@[simp] theorem fd180x4 : fieldOf Tryz.prog 180 4 = some (4, 177) := by kernel_rfl
@[simp] theorem fd183x0 : fieldOf Tryz.prog 183 0 = some (0, 61) := by kernel_rfl
@[simp] theorem fd183x1 : fieldOf Tryz.prog 183 1 = some (1, 3) := by kernel_rfl
@[simp] theorem fd185x0 : fieldOf Tryz.prog 185 0 = some (0, 3) := by kernel_rfl
@[simp] theorem fd185x1 : fieldOf Tryz.prog 185 1 = some (1, 3) := by kernel_rfl
@[simp] theorem fd185x2 : fieldOf Tryz.prog 185 2 = some (2, 3) := by kernel_rfl
@[simp] theorem fd190x0 : fieldOf Tryz.prog 190 0 = some (0, 3) := by kernel_rfl
@[simp] theorem fd190x1 : fieldOf Tryz.prog 190 1 = some (1, 3) := by kernel_rfl
@[simp] theorem fd192x0 : fieldOf Tryz.prog 192 0 = some (0, 3) := by kernel_rfl
@[simp] theorem fd192x1 : fieldOf Tryz.prog 192 1 = some (1, 3) := by kernel_rfl
@[simp] theorem fd192x2 : fieldOf Tryz.prog 192 2 = some (2, 33) := by kernel_rfl
@[simp] theorem fd201x0 : fieldOf Tryz.prog 201 0 = some (0, 199) := by kernel_rfl
@[simp] theorem fd203x0 : fieldOf Tryz.prog 203 0 = some (0, 4) := by kernel_rfl
@[simp] theorem fd203x1 : fieldOf Tryz.prog 203 1 = some (1, 201) := by kernel_rfl
@[simp] theorem sl22 : sliceElem Tryz.prog 22 = some 43 := by kernel_rfl
@[simp] theorem sl28 : sliceElem Tryz.prog 28 = some 107 := by kernel_rfl
@[simp] theorem sl29 : sliceElem Tryz.prog 29 = some 102 := by kernel_rfl
@[simp] theorem sl30 : sliceElem Tryz.prog 30 = some 104 := by kernel_rfl
@[simp] theorem sl41 : sliceElem Tryz.prog 41 = some 132 := by kernel_rfl
@[simp] theorem sl50 : sliceElem Tryz.prog 50 = some 63 := by kernel_rfl
@[simp] theorem sl54 : sliceElem Tryz.prog 54 = some 89 := by kernel_rfl
@[simp] theorem sl58 : sliceElem Tryz.prog 58 = some 71 := by kernel_rfl
@[simp] theorem sl61 : sliceElem Tryz.prog 61 = some 3 := by kernel_rfl
@[simp] theorem sl64 : sliceElem Tryz.prog 64 = some 167 := by kernel_rfl
@[simp] theorem sl65 : sliceElem Tryz.prog 65 = some 73 := by kernel_rfl
@[simp] theorem sl77 : sliceElem Tryz.prog 77 = some 83 := by kernel_rfl
@[simp] theorem sl80 : sliceElem Tryz.prog 80 = some 79 := by kernel_rfl
@[simp] theorem sl90 : sliceElem Tryz.prog 90 = some 109 := by kernel_rfl
@[simp] theorem sl116 : sliceElem Tryz.prog 116 = some 118 := by kernel_rfl
@[simp] theorem sl160 : sliceElem Tryz.prog 160 = some 192 := by kernel_rfl
@[simp] theorem sl199 : sliceElem Tryz.prog 199 = some 185 := by kernel_rfl
@[simp] theorem ar81 : arrElem Tryz.prog 81 = some (8, 33) := by kernel_rfl
@[simp] theorem ar167 : arrElem Tryz.prog 167 = some (2, 3) := by kernel_rfl
@[simp] theorem mo175 : mapOf Tryz.prog 175 = some (190, 183) := by kernel_rfl
@[simp] theorem mo176 : mapOf Tryz.prog 176 = some (190, 190) := by kernel_rfl
@[simp] theorem mo195 : mapOf Tryz.prog 195 = some (197, 3) := by kernel_rfl
@[simp] theorem ni3 : notInt Tryz.prog 3 = false := by kernel_rfl
@[simp] theorem ni28 : notInt Tryz.prog 28 = true := by kernel_rfl
@[simp] theorem ni29 : notInt Tryz.prog 29 = true := by kernel_rfl
@[simp] theorem ni30 : notInt Tryz.prog 30 = true := by kernel_rfl
@[simp] theorem ni50 : notInt Tryz.prog 50 = true := by kernel_rfl
@[simp] theorem ni54 : notInt Tryz.prog 54 = true := by kernel_rfl
@[simp] theorem ni58 : notInt Tryz.prog 58 = true := by kernel_rfl
@[simp] theorem ni61 : notInt Tryz.prog 61 = true := by kernel_rfl
@[simp] theorem ni65 : notInt Tryz.prog 65 = true := by kernel_rfl
@[simp] theorem ni77 : notInt Tryz.prog 77 = true := by kernel_rfl
@[simp] theorem ni80 : notInt Tryz.prog 80 = true := by kernel_rfl
@[simp] theorem ni90 : notInt Tryz.prog 90 = true := by kernel_rfl
@[simp] theorem ni116 : notInt Tryz.prog 116 = true := by kernel_rfl
@[simp] theorem ni160 : notInt Tryz.prog 160 = true := by kernel_rfl
@[simp] theorem ni199 : notInt Tryz.prog 199 = true := by kernel_rfl
theorem pl32 : plcOf Tryz.prog 32 = some [(0, 1), (1, 1), (2, 1), (3, 1), (4, 1), (5, 1)] := by kernel_rfl
@[simp] theorem bd32 (ps : List (Nat × Value)) : aBuild Tryz.prog 32 ps = (fillL (fun i => [(0, 1), (1, 1), (2, 1), (3, 1), (4, 1), (5, 1)][i]?) ((.agg #[(.int .i64 0), (.int .i64 0), (.slice none 0 0), (.int .i64 0), (.slice none 0 0), (.slice none 0 0)]) : Value).cells.toList ps).map fun cs => .agg cs.toArray := aBuild_struct pl32 ze32 ps
theorem pl36 : plcOf Tryz.prog 36 = some [(0, 1), (1, 1), (2, 1), (3, 1), (4, 1), (5, 1)] := by kernel_rfl
@[simp] theorem bd36 (ps : List (Nat × Value)) : aBuild Tryz.prog 36 ps = (fillL (fun i => [(0, 1), (1, 1), (2, 1), (3, 1), (4, 1), (5, 1)][i]?) ((.agg #[(.int .u64 0), (.int .i64 0), (.int .i64 0), (.int .u32 0), (.int .u32 0), (.int .u32 0)]) : Value).cells.toList ps).map fun cs => .agg cs.toArray := aBuild_struct pl36 ze36 ps
theorem pl38 : plcOf Tryz.prog 38 = some [(0, 1), (1, 1), (2, 1), (3, 1)] := by kernel_rfl
@[simp] theorem bd38 (ps : List (Nat × Value)) : aBuild Tryz.prog 38 ps = (fillL (fun i => [(0, 1), (1, 1), (2, 1), (3, 1)][i]?) ((.agg #[(.int .i64 0), (.int .i64 0), (.int .i64 0), (.int .i64 0)]) : Value).cells.toList ps).map fun cs => .agg cs.toArray := aBuild_struct pl38 ze38 ps
theorem pl63 : plcOf Tryz.prog 63 = some [(0, 1), (1, 1), (2, 4), (6, 6), (12, 1)] := by kernel_rfl
@[simp] theorem bd63 (ps : List (Nat × Value)) : aBuild Tryz.prog 63 ps = (fillL (fun i => [(0, 1), (1, 1), (2, 4), (6, 6), (12, 1)][i]?) ((.agg #[(.int .i64 0), (.int .i64 0), (.int .i64 0), (.int .i64 0), (.int .i64 0), (.int .i64 0), (.int .u64 0), (.int .i64 0), (.int .i64 0), (.int .u32 0), (.int .u32 0), (.int .u32 0), (.slice none 0 0)]) : Value).cells.toList ps).map fun cs => .agg cs.toArray := aBuild_struct pl63 ze63 ps
theorem pl67 : plcOf Tryz.prog 67 = some [(0, 6), (6, 1), (7, 1), (8, 1), (9, 1)] := by kernel_rfl
@[simp] theorem bd67 (ps : List (Nat × Value)) : aBuild Tryz.prog 67 ps = (fillL (fun i => [(0, 6), (6, 1), (7, 1), (8, 1), (9, 1)][i]?) ((.agg #[(.int .u64 0), (.int .i64 0), (.int .i64 0), (.int .u32 0), (.int .u32 0), (.int .u32 0), (.slice none 0 0), (.slice none 0 0), (.slice none 0 0), (.int .i64 0)]) : Value).cells.toList ps).map fun cs => .agg cs.toArray := aBuild_struct pl67 ze67 ps
theorem pl69 : plcOf Tryz.prog 69 = some [(0, 4), (4, 6), (10, 1)] := by kernel_rfl
@[simp] theorem bd69 (ps : List (Nat × Value)) : aBuild Tryz.prog 69 ps = (fillL (fun i => [(0, 4), (4, 6), (10, 1)][i]?) ((.agg #[(.int .i64 0), (.int .i64 0), (.int .i64 0), (.int .i64 0), (.int .u64 0), (.int .i64 0), (.int .i64 0), (.int .u32 0), (.int .u32 0), (.int .u32 0), (.slice none 0 0)]) : Value).cells.toList ps).map fun cs => .agg cs.toArray := aBuild_struct pl69 ze69 ps
theorem pl71 : plcOf Tryz.prog 71 = some [(0, 1), (1, 1), (2, 6), (8, 11), (19, 11), (30, 1), (31, 1)] := by kernel_rfl
@[simp] theorem bd71 (ps : List (Nat × Value)) : aBuild Tryz.prog 71 ps = (fillL (fun i => [(0, 1), (1, 1), (2, 6), (8, 11), (19, 11), (30, 1), (31, 1)][i]?) ((.agg #[(.int .i64 0), (.int .i64 0), (.int .u64 0), (.int .i64 0), (.int .i64 0), (.int .u32 0), (.int .u32 0), (.int .u32 0), (.int .i64 0), (.int .i64 0), (.int .i64 0), (.int .i64 0), (.int .u64 0), (.int .i64 0), (.int .i64 0), (.int .u32 0), (.int .u32 0), (.int .u32 0), (.slice none 0 0), (.int .i64 0), (.int .i64 0), (.int .i64 0), (.int .i64 0), (.int .u64 0), (.int .i64 0), (.int .i64 0), (.int .u32 0), (.int .u32 0), (.int .u32 0), (.slice none 0 0), (.int .i64 0), (.int .i64 0)]) : Value).cells.toList ps).map fun cs => .agg cs.toArray := aBuild_struct pl71 ze71 ps
theorem pl73 : plcOf Tryz.prog 73 = some [(0, 1), (1, 1), (2, 1)] := by kernel_rfl
@[simp] theorem bd73 (ps : List (Nat × Value)) : aBuild Tryz.prog 73 ps = (fillL (fun i => [(0, 1), (1, 1), (2, 1)][i]?) ((.agg #[(.int .i64 0), (.int .i64 0), (.int .u64 0)]) : Value).cells.toList ps).map fun cs => .agg cs.toArray := aBuild_struct pl73 ze73 ps
theorem pl79 : plcOf Tryz.prog 79 = some [(0, 1), (1, 1), (2, 1), (3, 1), (4, 1)] := by kernel_rfl
@[simp] theorem bd79 (ps : List (Nat × Value)) : aBuild Tryz.prog 79 ps = (fillL (fun i => [(0, 1), (1, 1), (2, 1), (3, 1), (4, 1)][i]?) ((.agg #[(.int .i64 0), (.int .i64 0), (.int .u64 0), (.int .i64 0), (.int .u32 0)]) : Value).cells.toList ps).map fun cs => .agg cs.toArray := aBuild_struct pl79 ze79 ps
theorem pl83 : plcOf Tryz.prog 83 = some [(0, 5), (5, 1), (6, 1), (7, 8)] := by kernel_rfl
@[simp] theorem bd83 (ps : List (Nat × Value)) : aBuild Tryz.prog 83 ps = (fillL (fun i => [(0, 5), (5, 1), (6, 1), (7, 8)][i]?) ((.agg #[(.int .i64 0), (.int .i64 0), (.int .u64 0), (.int .i64 0), (.int .u32 0), (.int .i64 0), (.bool false), (.int .u64 0), (.int .u64 0), (.int .u64 0), (.int .u64 0), (.int .u64 0), (.int .u64 0), (.int .u64 0), (.int .u64 0)]) : Value).cells.toList ps).map fun cs => .agg cs.toArray := aBuild_struct pl83 ze83 ps
theorem pl87 : plcOf Tryz.prog 87 = some [(0, 1), (1, 4), (5, 1)] := by kernel_rfl
@[simp] theorem bd87 (ps : List (Nat × Value)) : aBuild Tryz.prog 87 ps = (fillL (fun i => [(0, 1), (1, 4), (5, 1)][i]?) ((.agg #[(.int .i64 0), (.int .i64 0), (.int .i64 0), (.int .i64 0), (.int .i64 0), (.int .i64 0)]) : Value).cells.toList ps).map fun cs => .agg cs.toArray := aBuild_struct pl87 ze87 ps
theorem pl89 : plcOf Tryz.prog 89 = some [(0, 1), (1, 1), (2, 1), (3, 1)] := by kernel_rfl
@[simp] theorem bd89 (ps : List (Nat × Value)) : aBuild Tryz.prog 89 ps = (fillL (fun i => [(0, 1), (1, 1), (2, 1), (3, 1)][i]?) ((.agg #[(.int .i64 0), (.int .i64 0), (.int .i64 0), (.int .i64 0)]) : Value).cells.toList ps).map fun cs => .agg cs.toArray := aBuild_struct pl89 ze89 ps
theorem pl92 : plcOf Tryz.prog 92 = some [(0, 1), (1, 1), (2, 1), (3, 1), (4, 1), (5, 1)] := by kernel_rfl
@[simp] theorem bd92 (ps : List (Nat × Value)) : aBuild Tryz.prog 92 ps = (fillL (fun i => [(0, 1), (1, 1), (2, 1), (3, 1), (4, 1), (5, 1)][i]?) ((.agg #[(.int .i64 0), (.int .i64 0), (.slice none 0 0), (.int .i64 0), (.slice none 0 0), (.slice none 0 0)]) : Value).cells.toList ps).map fun cs => .agg cs.toArray := aBuild_struct pl92 ze92 ps
theorem pl102 : plcOf Tryz.prog 102 = some [(0, 1), (1, 1), (2, 4), (6, 6), (12, 1)] := by kernel_rfl
@[simp] theorem bd102 (ps : List (Nat × Value)) : aBuild Tryz.prog 102 ps = (fillL (fun i => [(0, 1), (1, 1), (2, 4), (6, 6), (12, 1)][i]?) ((.agg #[(.int .i64 0), (.int .i64 0), (.int .i64 0), (.int .i64 0), (.int .i64 0), (.int .i64 0), (.int .u64 0), (.int .i64 0), (.int .i64 0), (.int .u32 0), (.int .u32 0), (.int .u32 0), (.slice none 0 0)]) : Value).cells.toList ps).map fun cs => .agg cs.toArray := aBuild_struct pl102 ze102 ps
theorem pl104 : plcOf Tryz.prog 104 = some [(0, 1), (1, 1), (2, 1), (3, 1)] := by kernel_rfl
@[simp] theorem bd104 (ps : List (Nat × Value)) : aBuild Tryz.prog 104 ps = (fillL (fun i => [(0, 1), (1, 1), (2, 1), (3, 1)][i]?) ((.agg #[(.int .i64 0), (.int .i64 0), (.int .i64 0), (.int .i64 0)]) : Value).cells.toList ps).map fun cs => .agg cs.toArray := aBuild_struct pl104 ze104 ps
theorem pl105 : plcOf Tryz.prog 105 = some [(0, 4), (4, 6), (10, 1)] := by kernel_rfl
@[simp] theorem bd105 (ps : List (Nat × Value)) : aBuild Tryz.prog 105 ps = (fillL (fun i => [(0, 4), (4, 6), (10, 1)][i]?) ((.agg #[(.int .i64 0), (.int .i64 0), (.int .i64 0), (.int .i64 0), (.int .u64 0), (.int .i64 0), (.int .i64 0), (.int .u32 0), (.int .u32 0), (.int .u32 0), (.slice none 0 0)]) : Value).cells.toList ps).map fun cs => .agg cs.toArray := aBuild_struct pl105 ze105 ps
theorem pl107 : plcOf Tryz.prog 107 = some [(0, 1), (1, 1), (2, 6), (8, 11), (19, 11), (30, 1), (31, 1)] := by kernel_rfl
@[simp] theorem bd107 (ps : List (Nat × Value)) : aBuild Tryz.prog 107 ps = (fillL (fun i => [(0, 1), (1, 1), (2, 6), (8, 11), (19, 11), (30, 1), (31, 1)][i]?) ((.agg #[(.int .i64 0), (.int .i64 0), (.int .u64 0), (.int .i64 0), (.int .i64 0), (.int .u32 0), (.int .u32 0), (.int .u32 0), (.int .i64 0), (.int .i64 0), (.int .i64 0), (.int .i64 0), (.int .u64 0), (.int .i64 0), (.int .i64 0), (.int .u32 0), (.int .u32 0), (.int .u32 0), (.slice none 0 0), (.int .i64 0), (.int .i64 0), (.int .i64 0), (.int .i64 0), (.int .u64 0), (.int .i64 0), (.int .i64 0), (.int .u32 0), (.int .u32 0), (.int .u32 0), (.slice none 0 0), (.int .i64 0), (.int .i64 0)]) : Value).cells.toList ps).map fun cs => .agg cs.toArray := aBuild_struct pl107 ze107 ps
theorem pl111 : plcOf Tryz.prog 111 = some [(0, 32), (32, 1)] := by kernel_rfl
@[simp] theorem bd111 (ps : List (Nat × Value)) : aBuild Tryz.prog 111 ps = (fillL (fun i => [(0, 32), (32, 1)][i]?) ((.agg #[(.int .i64 0), (.int .i64 0), (.int .u64 0), (.int .i64 0), (.int .i64 0), (.int .u32 0), (.int .u32 0), (.int .u32 0), (.int .i64 0), (.int .i64 0), (.int .i64 0), (.int .i64 0), (.int .u64 0), (.int .i64 0), (.int .i64 0), (.int .u32 0), (.int .u32 0), (.int .u32 0), (.slice none 0 0), (.int .i64 0), (.int .i64 0), (.int .i64 0), (.int .i64 0), (.int .u64 0), (.int .i64 0), (.int .i64 0), (.int .u32 0), (.int .u32 0), (.int .u32 0), (.slice none 0 0), (.int .i64 0), (.int .i64 0), (.pointer none)]) : Value).cells.toList ps).map fun cs => .agg cs.toArray := aBuild_struct pl111 ze111 ps
theorem pl118 : plcOf Tryz.prog 118 = some [(0, 1), (1, 1)] := by kernel_rfl
@[simp] theorem bd118 (ps : List (Nat × Value)) : aBuild Tryz.prog 118 ps = (fillL (fun i => [(0, 1), (1, 1)][i]?) ((.agg #[(.slice none 0 0), (.int .i64 0)]) : Value).cells.toList ps).map fun cs => .agg cs.toArray := aBuild_struct pl118 ze118 ps
theorem pl148 : plcOf Tryz.prog 148 = some [(0, 1), (1, 1), (2, 1), (3, 1), (4, 1), (5, 1), (6, 6)] := by kernel_rfl
@[simp] theorem bd148 (ps : List (Nat × Value)) : aBuild Tryz.prog 148 ps = (fillL (fun i => [(0, 1), (1, 1), (2, 1), (3, 1), (4, 1), (5, 1), (6, 6)][i]?) ((.agg #[(.int .i64 0), (.int .i64 0), (.int .i64 0), (.int .i64 0), (.int .u64 0), (.slice none 0 0), (.int .u64 0), (.int .i64 0), (.int .i64 0), (.int .u32 0), (.int .u32 0), (.int .u32 0)]) : Value).cells.toList ps).map fun cs => .agg cs.toArray := aBuild_struct pl148 ze148 ps
theorem pl162 : plcOf Tryz.prog 162 = some [(0, 6), (6, 1), (7, 1), (8, 1), (9, 1)] := by kernel_rfl
@[simp] theorem bd162 (ps : List (Nat × Value)) : aBuild Tryz.prog 162 ps = (fillL (fun i => [(0, 6), (6, 1), (7, 1), (8, 1), (9, 1)][i]?) ((.agg #[(.int .u64 0), (.int .i64 0), (.int .i64 0), (.int .u32 0), (.int .u32 0), (.int .u32 0), (.slice none 0 0), (.slice none 0 0), (.slice none 0 0), (.int .i64 0)]) : Value).cells.toList ps).map fun cs => .agg cs.toArray := aBuild_struct pl162 ze162 ps
theorem pl180 : plcOf Tryz.prog 180 = some [(0, 1), (1, 1), (2, 1), (3, 1), (4, 1)] := by kernel_rfl
@[simp] theorem bd180 (ps : List (Nat × Value)) : aBuild Tryz.prog 180 ps = (fillL (fun i => [(0, 1), (1, 1), (2, 1), (3, 1), (4, 1)][i]?) ((.agg #[(.slice none 0 0), (.int .i64 0), (.map none), (.map none), (.pointer none)]) : Value).cells.toList ps).map fun cs => .agg cs.toArray := aBuild_struct pl180 ze180 ps
theorem pl183 : plcOf Tryz.prog 183 = some [(0, 1), (1, 1)] := by kernel_rfl
@[simp] theorem bd183 (ps : List (Nat × Value)) : aBuild Tryz.prog 183 ps = (fillL (fun i => [(0, 1), (1, 1)][i]?) ((.agg #[(.slice none 0 0), (.int .i64 0)]) : Value).cells.toList ps).map fun cs => .agg cs.toArray := aBuild_struct pl183 ze183 ps
theorem pl185 : plcOf Tryz.prog 185 = some [(0, 1), (1, 1), (2, 1)] := by kernel_rfl
@[simp] theorem bd185 (ps : List (Nat × Value)) : aBuild Tryz.prog 185 ps = (fillL (fun i => [(0, 1), (1, 1), (2, 1)][i]?) ((.agg #[(.int .i64 0), (.int .i64 0), (.int .i64 0)]) : Value).cells.toList ps).map fun cs => .agg cs.toArray := aBuild_struct pl185 ze185 ps
theorem pl190 : plcOf Tryz.prog 190 = some [(0, 1), (1, 1)] := by kernel_rfl
@[simp] theorem bd190 (ps : List (Nat × Value)) : aBuild Tryz.prog 190 ps = (fillL (fun i => [(0, 1), (1, 1)][i]?) ((.agg #[(.int .i64 0), (.int .i64 0)]) : Value).cells.toList ps).map fun cs => .agg cs.toArray := aBuild_struct pl190 ze190 ps
theorem pl192 : plcOf Tryz.prog 192 = some [(0, 1), (1, 1), (2, 1)] := by kernel_rfl
@[simp] theorem bd192 (ps : List (Nat × Value)) : aBuild Tryz.prog 192 ps = (fillL (fun i => [(0, 1), (1, 1), (2, 1)][i]?) ((.agg #[(.int .i64 0), (.int .i64 0), (.int .u64 0)]) : Value).cells.toList ps).map fun cs => .agg cs.toArray := aBuild_struct pl192 ze192 ps
theorem pl197 : plcOf Tryz.prog 197 = some [(0, 1), (1, 1)] := by kernel_rfl
@[simp] theorem bd197 (ps : List (Nat × Value)) : aBuild Tryz.prog 197 ps = (fillL (fun i => [(0, 1), (1, 1)][i]?) ((.agg #[(.int .i64 0), (.int .i64 0)]) : Value).cells.toList ps).map fun cs => .agg cs.toArray := aBuild_struct pl197 ze197 ps
theorem pl203 : plcOf Tryz.prog 203 = some [(0, 1), (1, 1)] := by kernel_rfl
@[simp] theorem bd203 (ps : List (Nat × Value)) : aBuild Tryz.prog 203 ps = (fillL (fun i => [(0, 1), (1, 1)][i]?) ((.agg #[(.bool false), (.slice none 0 0)]) : Value).cells.toList ps).map fun cs => .agg cs.toArray := aBuild_struct pl203 ze203 ps
@[simp] theorem bs28 (len : Nat) (ps : List (Nat × Value)) (A : AH) : aBuildSlice Tryz.prog 28 len ps A = if len * 32 ≤ 16777216 then (fillL (fun i => some (i * 32, 32)) (zrep len ((.agg #[(.int .i64 0), (.int .i64 0), (.int .u64 0), (.int .i64 0), (.int .i64 0), (.int .u32 0), (.int .u32 0), (.int .u32 0), (.int .i64 0), (.int .i64 0), (.int .i64 0), (.int .i64 0), (.int .u64 0), (.int .i64 0), (.int .i64 0), (.int .u32 0), (.int .u32 0), (.int .u32 0), (.slice none 0 0), (.int .i64 0), (.int .i64 0), (.int .i64 0), (.int .i64 0), (.int .u64 0), (.int .i64 0), (.int .i64 0), (.int .u32 0), (.int .u32 0), (.int .u32 0), (.slice none 0 0), (.int .i64 0), (.int .i64 0)]) : Value).cells.toList) ps).map (fun cs => (.slice (some ⟨A.next, 0, none⟩) len len, A.alloc (.row cs 107 false))) else none := aBuildSlice_eq sl28 sz107 ze107 (by rfl) len ps A
@[simp] theorem bs29 (len : Nat) (ps : List (Nat × Value)) (A : AH) : aBuildSlice Tryz.prog 29 len ps A = if len * 13 ≤ 16777216 then (fillL (fun i => some (i * 13, 13)) (zrep len ((.agg #[(.int .i64 0), (.int .i64 0), (.int .i64 0), (.int .i64 0), (.int .i64 0), (.int .i64 0), (.int .u64 0), (.int .i64 0), (.int .i64 0), (.int .u32 0), (.int .u32 0), (.int .u32 0), (.slice none 0 0)]) : Value).cells.toList) ps).map (fun cs => (.slice (some ⟨A.next, 0, none⟩) len len, A.alloc (.row cs 102 false))) else none := aBuildSlice_eq sl29 sz102 ze102 (by rfl) len ps A
@[simp] theorem bs30 (len : Nat) (ps : List (Nat × Value)) (A : AH) : aBuildSlice Tryz.prog 30 len ps A = if len * 4 ≤ 16777216 then (fillL (fun i => some (i * 4, 4)) (zrep len ((.agg #[(.int .i64 0), (.int .i64 0), (.int .i64 0), (.int .i64 0)]) : Value).cells.toList) ps).map (fun cs => (.slice (some ⟨A.next, 0, none⟩) len len, A.alloc (.row cs 104 false))) else none := aBuildSlice_eq sl30 sz104 ze104 (by rfl) len ps A
@[simp] theorem bs50 (len : Nat) (ps : List (Nat × Value)) (A : AH) : aBuildSlice Tryz.prog 50 len ps A = if len * 13 ≤ 16777216 then (fillL (fun i => some (i * 13, 13)) (zrep len ((.agg #[(.int .i64 0), (.int .i64 0), (.int .i64 0), (.int .i64 0), (.int .i64 0), (.int .i64 0), (.int .u64 0), (.int .i64 0), (.int .i64 0), (.int .u32 0), (.int .u32 0), (.int .u32 0), (.slice none 0 0)]) : Value).cells.toList) ps).map (fun cs => (.slice (some ⟨A.next, 0, none⟩) len len, A.alloc (.row cs 63 false))) else none := aBuildSlice_eq sl50 sz63 ze63 (by rfl) len ps A
@[simp] theorem bs54 (len : Nat) (ps : List (Nat × Value)) (A : AH) : aBuildSlice Tryz.prog 54 len ps A = if len * 4 ≤ 16777216 then (fillL (fun i => some (i * 4, 4)) (zrep len ((.agg #[(.int .i64 0), (.int .i64 0), (.int .i64 0), (.int .i64 0)]) : Value).cells.toList) ps).map (fun cs => (.slice (some ⟨A.next, 0, none⟩) len len, A.alloc (.row cs 89 false))) else none := aBuildSlice_eq sl54 sz89 ze89 (by rfl) len ps A
@[simp] theorem bs58 (len : Nat) (ps : List (Nat × Value)) (A : AH) : aBuildSlice Tryz.prog 58 len ps A = if len * 32 ≤ 16777216 then (fillL (fun i => some (i * 32, 32)) (zrep len ((.agg #[(.int .i64 0), (.int .i64 0), (.int .u64 0), (.int .i64 0), (.int .i64 0), (.int .u32 0), (.int .u32 0), (.int .u32 0), (.int .i64 0), (.int .i64 0), (.int .i64 0), (.int .i64 0), (.int .u64 0), (.int .i64 0), (.int .i64 0), (.int .u32 0), (.int .u32 0), (.int .u32 0), (.slice none 0 0), (.int .i64 0), (.int .i64 0), (.int .i64 0), (.int .i64 0), (.int .u64 0), (.int .i64 0), (.int .i64 0), (.int .u32 0), (.int .u32 0), (.int .u32 0), (.slice none 0 0), (.int .i64 0), (.int .i64 0)]) : Value).cells.toList) ps).map (fun cs => (.slice (some ⟨A.next, 0, none⟩) len len, A.alloc (.row cs 71 false))) else none := aBuildSlice_eq sl58 sz71 ze71 (by rfl) len ps A
@[simp] theorem bs61 (len : Nat) (ps : List (Nat × Value)) (A : AH) : aBuildSlice Tryz.prog 61 len ps A = if len * 1 ≤ 16777216 then (fillL (fun i => some (i * 1, 1)) (zrep len ((.int .i64 0) : Value).cells.toList) ps).map (fun cs => (.slice (some ⟨A.next, 0, none⟩) len len, A.alloc (.row cs 3 false))) else none := aBuildSlice_eq sl61 sz3 ze3 (by rfl) len ps A
@[simp] theorem bs65 (len : Nat) (ps : List (Nat × Value)) (A : AH) : aBuildSlice Tryz.prog 65 len ps A = if len * 3 ≤ 16777216 then (fillL (fun i => some (i * 3, 3)) (zrep len ((.agg #[(.int .i64 0), (.int .i64 0), (.int .u64 0)]) : Value).cells.toList) ps).map (fun cs => (.slice (some ⟨A.next, 0, none⟩) len len, A.alloc (.row cs 73 false))) else none := aBuildSlice_eq sl65 sz73 ze73 (by rfl) len ps A
@[simp] theorem bs77 (len : Nat) (ps : List (Nat × Value)) (A : AH) : aBuildSlice Tryz.prog 77 len ps A = if len * 15 ≤ 16777216 then (fillL (fun i => some (i * 15, 15)) (zrep len ((.agg #[(.int .i64 0), (.int .i64 0), (.int .u64 0), (.int .i64 0), (.int .u32 0), (.int .i64 0), (.bool false), (.int .u64 0), (.int .u64 0), (.int .u64 0), (.int .u64 0), (.int .u64 0), (.int .u64 0), (.int .u64 0), (.int .u64 0)]) : Value).cells.toList) ps).map (fun cs => (.slice (some ⟨A.next, 0, none⟩) len len, A.alloc (.row cs 83 false))) else none := aBuildSlice_eq sl77 sz83 ze83 (by rfl) len ps A
@[simp] theorem bs80 (len : Nat) (ps : List (Nat × Value)) (A : AH) : aBuildSlice Tryz.prog 80 len ps A = if len * 5 ≤ 16777216 then (fillL (fun i => some (i * 5, 5)) (zrep len ((.agg #[(.int .i64 0), (.int .i64 0), (.int .u64 0), (.int .i64 0), (.int .u32 0)]) : Value).cells.toList) ps).map (fun cs => (.slice (some ⟨A.next, 0, none⟩) len len, A.alloc (.row cs 79 false))) else none := aBuildSlice_eq sl80 sz79 ze79 (by rfl) len ps A
@[simp] theorem bs90 (len : Nat) (ps : List (Nat × Value)) (A : AH) : aBuildSlice Tryz.prog 90 len ps A = if len * 1 ≤ 16777216 then (fillL (fun i => some (i * 1, 1)) (zrep len ((.pointer none) : Value).cells.toList) ps).map (fun cs => (.slice (some ⟨A.next, 0, none⟩) len len, A.alloc (.row cs 109 false))) else none := aBuildSlice_eq sl90 sz109 ze109 (by rfl) len ps A
@[simp] theorem bs116 (len : Nat) (ps : List (Nat × Value)) (A : AH) : aBuildSlice Tryz.prog 116 len ps A = if len * 2 ≤ 16777216 then (fillL (fun i => some (i * 2, 2)) (zrep len ((.agg #[(.slice none 0 0), (.int .i64 0)]) : Value).cells.toList) ps).map (fun cs => (.slice (some ⟨A.next, 0, none⟩) len len, A.alloc (.row cs 118 false))) else none := aBuildSlice_eq sl116 sz118 ze118 (by rfl) len ps A
@[simp] theorem bs160 (len : Nat) (ps : List (Nat × Value)) (A : AH) : aBuildSlice Tryz.prog 160 len ps A = if len * 3 ≤ 16777216 then (fillL (fun i => some (i * 3, 3)) (zrep len ((.agg #[(.int .i64 0), (.int .i64 0), (.int .u64 0)]) : Value).cells.toList) ps).map (fun cs => (.slice (some ⟨A.next, 0, none⟩) len len, A.alloc (.row cs 192 false))) else none := aBuildSlice_eq sl160 sz192 ze192 (by rfl) len ps A
@[simp] theorem bs199 (len : Nat) (ps : List (Nat × Value)) (A : AH) : aBuildSlice Tryz.prog 199 len ps A = if len * 3 ≤ 16777216 then (fillL (fun i => some (i * 3, 3)) (zrep len ((.agg #[(.int .i64 0), (.int .i64 0), (.int .i64 0)]) : Value).cells.toList) ps).map (fun cs => (.slice (some ⟨A.next, 0, none⟩) len len, A.alloc (.row cs 185 false))) else none := aBuildSlice_eq sl199 sz185 ze185 (by rfl) len ps A
@[simp] theorem ap28x28 (s x : Value) (A : AH) : aAppend Tryz.prog 28 28 s x A = appW 107 32 264 s x A := aAppend_eq ni28 sl28 sz107 by107 ze107 (by rfl) s x A
@[simp] theorem ap29x29 (s x : Value) (A : AH) : aAppend Tryz.prog 29 29 s x A = appW 102 13 112 s x A := aAppend_eq ni29 sl29 sz102 by102 ze102 (by rfl) s x A
@[simp] theorem ap30x30 (s x : Value) (A : AH) : aAppend Tryz.prog 30 30 s x A = appW 104 4 32 s x A := aAppend_eq ni30 sl30 sz104 by104 ze104 (by rfl) s x A
@[simp] theorem ap50x50 (s x : Value) (A : AH) : aAppend Tryz.prog 50 50 s x A = appW 63 13 112 s x A := aAppend_eq ni50 sl50 sz63 by63 ze63 (by rfl) s x A
@[simp] theorem ap54x54 (s x : Value) (A : AH) : aAppend Tryz.prog 54 54 s x A = appW 89 4 32 s x A := aAppend_eq ni54 sl54 sz89 by89 ze89 (by rfl) s x A
@[simp] theorem ap58x58 (s x : Value) (A : AH) : aAppend Tryz.prog 58 58 s x A = appW 71 32 264 s x A := aAppend_eq ni58 sl58 sz71 by71 ze71 (by rfl) s x A
@[simp] theorem ap61x61 (s x : Value) (A : AH) : aAppend Tryz.prog 61 61 s x A = appW 3 1 8 s x A := aAppend_eq ni61 sl61 sz3 by3 ze3 (by rfl) s x A
@[simp] theorem ap65x65 (s x : Value) (A : AH) : aAppend Tryz.prog 65 65 s x A = appW 73 3 24 s x A := aAppend_eq ni65 sl65 sz73 by73 ze73 (by rfl) s x A
@[simp] theorem ap77x77 (s x : Value) (A : AH) : aAppend Tryz.prog 77 77 s x A = appW 83 15 120 s x A := aAppend_eq ni77 sl77 sz83 by83 ze83 (by rfl) s x A
@[simp] theorem ap80x80 (s x : Value) (A : AH) : aAppend Tryz.prog 80 80 s x A = appW 79 5 40 s x A := aAppend_eq ni80 sl80 sz79 by79 ze79 (by rfl) s x A
@[simp] theorem ap90x3 (s x : Value) (A : AH) : aAppendZ Tryz.prog 90 3 s x A = appZ 109 1 8 ((.pointer none) : Value).cells.toList s x A := aAppendZ_eq (by kernel_rfl) sl90 sz109 by109 ze109 (by rfl) s x A
@[simp] theorem ap90x90 (s x : Value) (A : AH) : aAppend Tryz.prog 90 90 s x A = appW 109 1 8 s x A := aAppend_eq ni90 sl90 sz109 by109 ze109 (by rfl) s x A
@[simp] theorem ap116x116 (s x : Value) (A : AH) : aAppend Tryz.prog 116 116 s x A = appW 118 2 32 s x A := aAppend_eq ni116 sl116 sz118 by118 ze118 (by rfl) s x A
@[simp] theorem ap160x160 (s x : Value) (A : AH) : aAppend Tryz.prog 160 160 s x A = appW 192 3 24 s x A := aAppend_eq ni160 sl160 sz192 by192 ze192 (by rfl) s x A
@[simp] theorem ap199x199 (s x : Value) (A : AH) : aAppend Tryz.prog 199 199 s x A = appW 185 3 24 s x A := aAppend_eq ni199 sl199 sz185 by185 ze185 (by rfl) s x A
@[simp] theorem sc61 (a : Option Addr) (n c : Nat) (lo hi mx : Option Value) (A : AH) : aSlice Tryz.prog 61 (.slice a n c) lo hi mx A = slW Tryz.prog 1 a n c lo hi mx A := aSlice_eq sl61 sz3 a n c lo hi mx A
@[simp] theorem sc90 (a : Option Addr) (n c : Nat) (lo hi mx : Option Value) (A : AH) : aSlice Tryz.prog 90 (.slice a n c) lo hi mx A = slW Tryz.prog 1 a n c lo hi mx A := aSlice_eq sl90 sz109 a n c lo hi mx A
@[simp] theorem sc199 (a : Option Addr) (n c : Nat) (lo hi mx : Option Value) (A : AH) : aSlice Tryz.prog 199 (.slice a n c) lo hi mx A = slW Tryz.prog 3 a n c lo hi mx A := aSlice_eq sl199 sz185 a n c lo hi mx A
@[simp] theorem cp90 (d s : Value) (A : AH) : aCopy Tryz.prog 90 d s A = cpW 1 d s A := aCopy_eq sl90 sz109 d s A
@[simp] theorem cl90 (x : Value) (A : AH) : aClear Tryz.prog 90 x A = clW ((.pointer none) : Value).cells.toList x A := aClear_eq sl90 ze109 x A
@[simp] theorem eq3 (A : AH) (k : Nat) (j : IntKind) (a b : Int) : aEq Tryz.prog A (k + 1) 3 (.int j a) (.int j b) = some (decide (a = b)) := aEq_int (by kernel_rfl) A k j a b
@[simp] theorem eq4 (A : AH) (k : Nat) (a b : Bool) : aEq Tryz.prog A (k + 1) 4 (.bool a) (.bool b) = some (decide (a = b)) := aEq_bool (by kernel_rfl) A k a b
@[simp] theorem eq5 (A : AH) (k : Nat) (j : IntKind) (a b : Int) : aEq Tryz.prog A (k + 1) 5 (.int j a) (.int j b) = some (decide (a = b)) := aEq_int (by kernel_rfl) A k j a b
@[simp] theorem eq26 (A : AH) (k : Nat) (a : Option Addr) : aEq Tryz.prog A (k + 1) 26 (.pointer a) (.pointer none) = some (decide (a = none)) := aEq_ptr (by kernel_rfl) A k a
@[simp] theorem eq33 (A : AH) (k : Nat) (j : IntKind) (a b : Int) : aEq Tryz.prog A (k + 1) 33 (.int j a) (.int j b) = some (decide (a = b)) := aEq_int (by kernel_rfl) A k j a b
@[simp] theorem eq34 (A : AH) (k : Nat) (j : IntKind) (a b : Int) : aEq Tryz.prog A (k + 1) 34 (.int j a) (.int j b) = some (decide (a = b)) := aEq_int (by kernel_rfl) A k j a b
@[simp] theorem eg36 : Tryz.prog.eqGuardType Tryz.prog.depth 36 = false := by kernel_rfl
@[simp] theorem eq36 (A : AH) (k : Nat) (xs ys : List Value) : aEq Tryz.prog A (k + 1) 36 (.agg ⟨xs⟩) (.agg ⟨ys⟩) = eqL Tryz.prog A k xs ys [(33, 0), (3, 1), (3, 2), (34, 3), (34, 4), (34, 5)] := aEq_fs (by kernel_rfl) A k xs ys
@[simp] theorem eg38 : Tryz.prog.eqGuardType Tryz.prog.depth 38 = false := by kernel_rfl
@[simp] theorem eq38 (A : AH) (k : Nat) (xs ys : List Value) : aEq Tryz.prog A (k + 1) 38 (.agg ⟨xs⟩) (.agg ⟨ys⟩) = eqL Tryz.prog A k xs ys [(3, 0), (3, 1), (3, 2), (3, 3)] := aEq_fs (by kernel_rfl) A k xs ys
@[simp] theorem eq44 (A : AH) (k : Nat) (j : IntKind) (a b : Int) : aEq Tryz.prog A (k + 1) 44 (.int j a) (.int j b) = some (decide (a = b)) := aEq_int (by kernel_rfl) A k j a b
@[simp] theorem eq61 (A : AH) (k : Nat) (a : Option Addr) (n c n' c' : Nat) : aEq Tryz.prog A (k + 1) 61 (.slice a n c) (.slice none n' c') = some (decide (a = none)) := aEq_slice (by kernel_rfl) A k a n c n' c'
@[simp] theorem eg89 : Tryz.prog.eqGuardType Tryz.prog.depth 89 = false := by kernel_rfl
@[simp] theorem eq89 (A : AH) (k : Nat) (xs ys : List Value) : aEq Tryz.prog A (k + 1) 89 (.agg ⟨xs⟩) (.agg ⟨ys⟩) = eqL Tryz.prog A k xs ys [(3, 0), (3, 1), (3, 2), (44, 3)] := aEq_fs (by kernel_rfl) A k xs ys
@[simp] theorem eq90 (A : AH) (k : Nat) (a : Option Addr) (n c n' c' : Nat) : aEq Tryz.prog A (k + 1) 90 (.slice a n c) (.slice none n' c') = some (decide (a = none)) := aEq_slice (by kernel_rfl) A k a n c n' c'
@[simp] theorem eg104 : Tryz.prog.eqGuardType Tryz.prog.depth 104 = false := by kernel_rfl
@[simp] theorem eq104 (A : AH) (k : Nat) (xs ys : List Value) : aEq Tryz.prog A (k + 1) 104 (.agg ⟨xs⟩) (.agg ⟨ys⟩) = eqL Tryz.prog A k xs ys [(3, 0), (3, 1), (3, 2), (3, 3)] := aEq_fs (by kernel_rfl) A k xs ys
@[simp] theorem eq109 (A : AH) (k : Nat) (a : Option Addr) : aEq Tryz.prog A (k + 1) 109 (.pointer a) (.pointer none) = some (decide (a = none)) := aEq_ptr (by kernel_rfl) A k a
@[simp] theorem eq177 (A : AH) (k : Nat) (a : Option Addr) : aEq Tryz.prog A (k + 1) 177 (.pointer a) (.pointer none) = some (decide (a = none)) := aEq_ptr (by kernel_rfl) A k a
@[simp] theorem eg190 : Tryz.prog.eqGuardType Tryz.prog.depth 190 = false := by kernel_rfl
@[simp] theorem eq190 (A : AH) (k : Nat) (xs ys : List Value) : aEq Tryz.prog A (k + 1) 190 (.agg ⟨xs⟩) (.agg ⟨ys⟩) = eqL Tryz.prog A k xs ys [(3, 0), (3, 1)] := aEq_fs (by kernel_rfl) A k xs ys
@[simp] theorem eg197 : Tryz.prog.eqGuardType Tryz.prog.depth 197 = false := by kernel_rfl
@[simp] theorem eq197 (A : AH) (k : Nat) (xs ys : List Value) : aEq Tryz.prog A (k + 1) 197 (.agg ⟨xs⟩) (.agg ⟨ys⟩) = eqL Tryz.prog A k xs ys [(3, 0), (3, 1)] := aEq_fs (by kernel_rfl) A k xs ys
@[simp] theorem eq199 (A : AH) (k : Nat) (a : Option Addr) (n c n' c' : Nat) : aEq Tryz.prog A (k + 1) 199 (.slice a n c) (.slice none n' c') = some (decide (a = none)) := aEq_slice (by kernel_rfl) A k a n c n' c'
end Go.Proofs.YtnlopamlmojbgaaGreat.AQ
