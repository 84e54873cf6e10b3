/-
  Facts on the types of the program.
-/
import Derived.Test.YtnlopamlmojbgaaProg
import Derived.Test.YtnlopamlmojbgaaP2
import Derived.KernelRfl
set_option linter.unusedSimpArgs false
set_option linter.unusedVariables false
/- What simp needs to know of the program's types. -/
namespace Go.Proofs.Ytnlopamlmojbgaa.AQ
open Go Go.AI Go.Proofs
@[simp] theorem sz3 : szOf Try.prog 3 = some 1 := by kernel_rfl
@[simp] theorem sz4 : szOf Try.prog 4 = some 1 := by kernel_rfl
@[simp] theorem sz5 : szOf Try.prog 5 = some 1 := by kernel_rfl
@[simp] theorem sz23 : szOf Try.prog 23 = some 1 := by kernel_rfl
@[simp] theorem sz25 : szOf Try.prog 25 = some 1 := by kernel_rfl
@[simp] theorem sz26 : szOf Try.prog 26 = some 1 := by kernel_rfl
@[simp] theorem sz28 : szOf Try.prog 28 = some 5 := by kernel_rfl
@[simp] theorem sz29 : szOf Try.prog 29 = some 8 := by kernel_rfl
@[simp] theorem sz31 : szOf Try.prog 31 = some 15 := by kernel_rfl
@[simp] theorem sz33 : szOf Try.prog 33 = some 1 := by kernel_rfl
@[simp] theorem sz36 : szOf Try.prog 36 = some 6 := by kernel_rfl
@[simp] theorem sz37 : szOf Try.prog 37 = some 1 := by kernel_rfl
@[simp] theorem sz40 : szOf Try.prog 40 = some 4 := by kernel_rfl
@[simp] theorem sz42 : szOf Try.prog 42 = some 1 := by kernel_rfl
@[simp] theorem sz45 : szOf Try.prog 45 = some 1 := by kernel_rfl
@[simp] theorem sz49 : szOf Try.prog 49 = some 4 := by kernel_rfl
@[simp] theorem sz51 : szOf Try.prog 51 = some 6 := by kernel_rfl
@[simp] theorem sz52 : szOf Try.prog 52 = some 1 := by kernel_rfl
@[simp] theorem sz54 : szOf Try.prog 54 = some 17 := by kernel_rfl
@[simp] theorem sz58 : szOf Try.prog 58 = some 1 := by kernel_rfl
@[simp] theorem sz60 : szOf Try.prog 60 = some 13 := by kernel_rfl
@[simp] theorem sz62 : szOf Try.prog 62 = some 11 := by kernel_rfl
@[simp] theorem sz64 : szOf Try.prog 64 = some 32 := by kernel_rfl
@[simp] theorem sz66 : szOf Try.prog 66 = some 1 := by kernel_rfl
@[simp] theorem sz68 : szOf Try.prog 68 = some 6 := by kernel_rfl
@[simp] theorem sz74 : szOf Try.prog 74 = some 1 := by kernel_rfl
@[simp] theorem sz83 : szOf Try.prog 83 = some 1 := by kernel_rfl
@[simp] theorem sz85 : szOf Try.prog 85 = some 33 := by kernel_rfl
@[simp] theorem sz96 : szOf Try.prog 96 = some 11 := by kernel_rfl
@[simp] theorem sz98 : szOf Try.prog 98 = some 32 := by kernel_rfl
@[simp] theorem sz108 : szOf Try.prog 108 = some 1 := by kernel_rfl
@[simp] theorem sz109 : szOf Try.prog 109 = some 1 := by kernel_rfl
@[simp] theorem sz111 : szOf Try.prog 111 = some 10 := by kernel_rfl
@[simp] theorem sz115 : szOf Try.prog 115 = some 15 := by kernel_rfl
@[simp] theorem sz122 : szOf Try.prog 122 = some 1 := by kernel_rfl
@[simp] theorem sz123 : szOf Try.prog 123 = some 1 := by kernel_rfl
@[simp] theorem sz124 : szOf Try.prog 124 = some 1 := by kernel_rfl
@[simp] theorem sz130 : szOf Try.prog 130 = some 2 := by kernel_rfl
@[simp] theorem sz132 : szOf Try.prog 132 = some 3 := by kernel_rfl
@[simp] theorem sz137 : szOf Try.prog 137 = some 2 := by kernel_rfl
@[simp] theorem sz141 : szOf Try.prog 141 = some 3 := by kernel_rfl
@[simp] theorem sz148 : szOf Try.prog 148 = some 2 := by kernel_rfl
@[simp] theorem sz150 : szOf Try.prog 150 = some 1 := by kernel_rfl
@[simp] theorem sz152 : szOf Try.prog 152 = some 1 := by kernel_rfl
@[simp] theorem sz154 : szOf Try.prog 154 = some 2 := by kernel_rfl
@[simp] theorem sz179 : szOf Try.prog 179 = some 2 := by kernel_rfl
@[simp] theorem ag3 : aggOf Try.prog 3 = some false := by kernel_rfl
@[simp] theorem ag4 : aggOf Try.prog 4 = some false := by kernel_rfl
@[simp] theorem ag5 : aggOf Try.prog 5 = some false := by kernel_rfl
@[simp] theorem ag23 : aggOf Try.prog 23 = some false := by kernel_rfl
@[simp] theorem ag25 : aggOf Try.prog 25 = some false := by kernel_rfl
@[simp] theorem ag26 : aggOf Try.prog 26 = some false := by kernel_rfl
@[simp] theorem ag28 : aggOf Try.prog 28 = some true := by kernel_rfl
@[simp] theorem ag29 : aggOf Try.prog 29 = some true := by kernel_rfl
@[simp] theorem ag31 : aggOf Try.prog 31 = some true := by kernel_rfl
@[simp] theorem ag33 : aggOf Try.prog 33 = some false := by kernel_rfl
@[simp] theorem ag36 : aggOf Try.prog 36 = some true := by kernel_rfl
@[simp] theorem ag37 : aggOf Try.prog 37 = some false := by kernel_rfl
@[simp] theorem ag40 : aggOf Try.prog 40 = some true := by kernel_rfl
@[simp] theorem ag42 : aggOf Try.prog 42 = some false := by kernel_rfl
@[simp] theorem ag45 : aggOf Try.prog 45 = some false := by kernel_rfl
@[simp] theorem ag49 : aggOf Try.prog 49 = some true := by kernel_rfl
@[simp] theorem ag51 : aggOf Try.prog 51 = some true := by kernel_rfl
@[simp] theorem ag52 : aggOf Try.prog 52 = some false := by kernel_rfl
@[simp] theorem ag54 : aggOf Try.prog 54 = some true := by kernel_rfl
@[simp] theorem ag58 : aggOf Try.prog 58 = some false := by kernel_rfl
@[simp] theorem ag60 : aggOf Try.prog 60 = some true := by kernel_rfl
@[simp] theorem ag62 : aggOf Try.prog 62 = some true := by kernel_rfl
@[simp] theorem ag64 : aggOf Try.prog 64 = some true := by kernel_rfl
@[simp] theorem ag66 : aggOf Try.prog 66 = some false := by kernel_rfl
@[simp] theorem ag74 : aggOf Try.prog 74 = some false := by kernel_rfl
@[simp] theorem ag83 : aggOf Try.prog 83 = some false := by kernel_rfl
@[simp] theorem ag96 : aggOf Try.prog 96 = some true := by kernel_rfl
@[simp] theorem ag98 : aggOf Try.prog 98 = some true := by kernel_rfl
@[simp] theorem ag108 : aggOf Try.prog 108 = some false := by kernel_rfl
@[simp] theorem ag109 : aggOf Try.prog 109 = some false := by kernel_rfl
@[simp] theorem ag111 : aggOf Try.prog 111 = some true := by kernel_rfl
@[simp] theorem ag115 : aggOf Try.prog 115 = some true := by kernel_rfl
@[simp] theorem ag122 : aggOf Try.prog 122 = some false := by kernel_rfl
@[simp] theorem ag123 : aggOf Try.prog 123 = some false := by kernel_rfl
@[simp] theorem ag124 : aggOf Try.prog 124 = some false := by kernel_rfl
@[simp] theorem ag130 : aggOf Try.prog 130 = some true := by kernel_rfl
@[simp] theorem ag132 : aggOf Try.prog 132 = some true := by kernel_rfl
@[simp] theorem ag137 : aggOf Try.prog 137 = some true := by kernel_rfl
@[simp] theorem ag141 : aggOf Try.prog 141 = some true := by kernel_rfl
@[simp] theorem ag148 : aggOf Try.prog 148 = some true := by kernel_rfl
@[simp] theorem ag150 : aggOf Try.prog 150 = some false := by kernel_rfl
@[simp] theorem ag152 : aggOf Try.prog 152 = some true := by kernel_rfl
@[simp] theorem ag179 : aggOf Try.prog 179 = some true := by kernel_rfl
@[simp] theorem ze3 : zeroOf Try.prog 3 = some (.int .i64 0) := by kernel_rfl
@[simp] theorem ze23 : zeroOf Try.prog 23 = some (.pointer none) := by kernel_rfl
@[simp] theorem ze28 : zeroOf Try.prog 28 = some (.agg #[(.int .i64 0), (.int .i64 0), (.int .u64 0), (.int .i64 0), (.int .u32 0)]) := by kernel_rfl
@[simp] theorem ze29 : zeroOf Try.prog 29 = some (.agg #[(.int .u64 0), (.int .u64 0), (.int .u64 0), (.int .u64 0), (.int .u64 0), (.int .u64 0), (.int .u64 0), (.int .u64 0)]) := by kernel_rfl
@[simp] theorem ze31 : zeroOf Try.prog 31 = some (.agg #[(.int .i64 0), (.int .i64 0), (.int .u64 0), (.int .i64 0), (.int .u32 0), (.int .i64 0), (.bool false), (.int .u64 0), (.int .u64 0), (.int .u64 0), (.int .u64 0), (.int .u64 0), (.int .u64 0), (.int .u64 0), (.int .u64 0)]) := by kernel_rfl
@[simp] theorem ze36 : zeroOf Try.prog 36 = some (.agg #[(.int .u64 0), (.int .i64 0), (.int .i64 0), (.int .u32 0), (.int .u32 0), (.int .u32 0)]) := by kernel_rfl
@[simp] theorem ze40 : zeroOf Try.prog 40 = some (.agg #[(.int .i64 0), (.int .i64 0), (.int .i64 0), (.int .i64 0)]) := by kernel_rfl
@[simp] theorem ze49 : zeroOf Try.prog 49 = some (.agg #[(.int .i64 0), (.int .i64 0), (.int .i64 0), (.int .i64 0)]) := by kernel_rfl
@[simp] theorem ze54 : zeroOf Try.prog 54 = some (.agg #[(.int .u8 0), (.int .i64 0), (.int .i64 0), (.int .i64 0), (.int .u64 0), (.int .i64 0), (.int .i64 0), (.int .u32 0), (.int .u32 0), (.int .u32 0), (.int .i64 0), (.int .i64 0), (.int .i64 0), (.int .i64 0), (.int .i64 0), (.int .i64 0), (.slice none 0 0)]) := by kernel_rfl
@[simp] theorem ze60 : zeroOf Try.prog 60 = some (.agg #[(.int .i64 0), (.int .i64 0), (.int .i64 0), (.int .i64 0), (.int .i64 0), (.int .i64 0), (.int .u64 0), (.int .i64 0), (.int .i64 0), (.int .u32 0), (.int .u32 0), (.int .u32 0), (.slice none 0 0)]) := by kernel_rfl
@[simp] theorem ze62 : zeroOf Try.prog 62 = some (.agg #[(.int .i64 0), (.int .i64 0), (.int .i64 0), (.int .i64 0), (.int .u64 0), (.int .i64 0), (.int .i64 0), (.int .u32 0), (.int .u32 0), (.int .u32 0), (.slice none 0 0)]) := by kernel_rfl
@[simp] theorem ze64 : zeroOf Try.prog 64 = some (.agg #[(.int .i64 0), (.int .i64 0), (.int .u64 0), (.int .i64 0), (.int .i64 0), (.int .u32 0), (.int .u32 0), (.int .u32 0), (.int .i64 0), (.int .i64 0), (.int .i64 0), (.int .i64 0), (.int .u64 0), (.int .i64 0), (.int .i64 0), (.int .u32 0), (.int .u32 0), (.int .u32 0), (.slice none 0 0), (.int .i64 0), (.int .i64 0), (.int .i64 0), (.int .i64 0), (.int .u64 0), (.int .i64 0), (.int .i64 0), (.int .u32 0), (.int .u32 0), (.int .u32 0), (.slice none 0 0), (.int .i64 0), (.int .i64 0)]) := by kernel_rfl
@[simp] theorem ze68 : zeroOf Try.prog 68 = some (.agg #[(.int .i64 0), (.int .i64 0), (.slice none 0 0), (.int .i64 0), (.slice none 0 0), (.slice none 0 0)]) := by kernel_rfl
@[simp] theorem ze78 : zeroOf Try.prog 78 = some (.agg #[(.int .i64 0), (.int .i64 0), (.int .i64 0), (.int .i64 0), (.int .i64 0), (.int .i64 0)]) := by kernel_rfl
@[simp] theorem ze83 : zeroOf Try.prog 83 = some (.pointer none) := by kernel_rfl
@[simp] theorem ze85 : zeroOf Try.prog 85 = some (.agg #[(.int .i64 0), (.int .i64 0), (.int .u64 0), (.int .i64 0), (.int .i64 0), (.int .u32 0), (.int .u32 0), (.int .u32 0), (.int .i64 0), (.int .i64 0), (.int .i64 0), (.int .i64 0), (.int .u64 0), (.int .i64 0), (.int .i64 0), (.int .u32 0), (.int .u32 0), (.int .u32 0), (.slice none 0 0), (.int .i64 0), (.int .i64 0), (.int .i64 0), (.int .i64 0), (.int .u64 0), (.int .i64 0), (.int .i64 0), (.int .u32 0), (.int .u32 0), (.int .u32 0), (.slice none 0 0), (.int .i64 0), (.int .i64 0), (.pointer none)]) := by kernel_rfl
@[simp] theorem ze96 : zeroOf Try.prog 96 = some (.agg #[(.int .i64 0), (.int .i64 0), (.int .i64 0), (.int .i64 0), (.int .u64 0), (.int .i64 0), (.int .i64 0), (.int .u32 0), (.int .u32 0), (.int .u32 0), (.slice none 0 0)]) := by kernel_rfl
@[simp] theorem ze98 : zeroOf Try.prog 98 = some (.agg #[(.int .i64 0), (.int .i64 0), (.int .u64 0), (.int .i64 0), (.int .i64 0), (.int .u32 0), (.int .u32 0), (.int .u32 0), (.int .i64 0), (.int .i64 0), (.int .i64 0), (.int .i64 0), (.int .u64 0), (.int .i64 0), (.int .i64 0), (.int .u32 0), (.int .u32 0), (.int .u32 0), (.slice none 0 0), (.int .i64 0), (.int .i64 0), (.int .i64 0), (.int .i64 0), (.int .u64 0), (.int .i64 0), (.int .i64 0), (.int .u32 0), (.int .u32 0), (.int .u32 0), (.slice none 0 0), (.int .i64 0), (.int .i64 0)]) := by kernel_rfl
@[simp] theorem ze111 : zeroOf Try.prog 111 = some (.agg #[(.int .u64 0), (.int .i64 0), (.int .i64 0), (.int .u32 0), (.int .u32 0), (.int .u32 0), (.slice none 0 0), (.slice none 0 0), (.slice none 0 0), (.int .i64 0)]) := by kernel_rfl
@[simp] theorem ze115 : zeroOf Try.prog 115 = some (.agg #[(.int .i64 0), (.int .i64 0), (.int .u64 0), (.int .i64 0), (.int .u32 0), (.int .i64 0), (.bool false), (.int .u64 0), (.int .u64 0), (.int .u64 0), (.int .u64 0), (.int .u64 0), (.int .u64 0), (.int .u64 0), (.int .u64 0)]) := by kernel_rfl
@[simp] theorem ze127 : zeroOf Try.prog 127 = some (.agg #[(.slice none 0 0), (.int .i64 0), (.map none), (.map none), (.pointer none)]) := by kernel_rfl
@[simp] theorem ze130 : zeroOf Try.prog 130 = some (.agg #[(.slice none 0 0), (.int .i64 0)]) := by kernel_rfl
@[simp] theorem ze132 : zeroOf Try.prog 132 = some (.agg #[(.int .i64 0), (.int .i64 0), (.int .i64 0)]) := by kernel_rfl
@[simp] theorem ze137 : zeroOf Try.prog 137 = some (.agg #[(.int .i64 0), (.int .i64 0)]) := by kernel_rfl
@[simp] theorem ze141 : zeroOf Try.prog 141 = some (.agg #[(.int .i64 0), (.int .i64 0), (.int .u64 0)]) := by kernel_rfl
@[simp] theorem ze144 : zeroOf Try.prog 144 = some (.agg #[(.int .i64 0), (.int .i64 0), (.int .i64 0), (.int .i64 0), (.int .u64 0), (.slice none 0 0), (.int .u64 0), (.int .i64 0), (.int .i64 0), (.int .u32 0), (.int .u32 0), (.int .u32 0)]) := by kernel_rfl
@[simp] theorem ze148 : zeroOf Try.prog 148 = some (.agg #[(.int .i64 0), (.int .i64 0)]) := by kernel_rfl
@[simp] theorem ze154 : zeroOf Try.prog 154 = some (.agg #[(.bool false), (.slice none 0 0)]) := by kernel_rfl
@[simp] theorem ze179 : zeroOf Try.prog 179 = some (.agg #[(.int .i64 0), (.int .i64 0)]) := by kernel_rfl
@[simp] theorem by3 : byOf Try.prog 3 = some 8 := by kernel_rfl
@[simp] theorem by23 : byOf Try.prog 23 = some 8 := by kernel_rfl
@[simp] theorem by28 : byOf Try.prog 28 = some 40 := by kernel_rfl
@[simp] theorem by31 : byOf Try.prog 31 = some 120 := by kernel_rfl
@[simp] theorem by40 : byOf Try.prog 40 = some 32 := by kernel_rfl
@[simp] theorem by60 : byOf Try.prog 60 = some 112 := by kernel_rfl
@[simp] theorem by64 : byOf Try.prog 64 = some 264 := by kernel_rfl
@[simp] theorem by83 : byOf Try.prog 83 = some 8 := by kernel_rfl
@[simp] theorem by98 : byOf Try.prog 98 = some 264 := by kernel_rfl
@[simp] theorem by132 : byOf Try.prog 132 = some 24 := by kernel_rfl
@[simp] theorem by141 : byOf Try.prog 141 = some 24 := by kernel_rfl
@[simp] theorem fd28x0 : fieldOf Try.prog 28 0 = some (0, 3) := by kernel_rfl
@[simp] theorem fd28x1 : fieldOf Try.prog 28 1 = some (1, 3) := by kernel_rfl
@[simp] theorem fd28x3 : fieldOf Try.prog 28 3 = some (3, 3) := by kernel_rfl
@[simp] theorem fd28x4 : fieldOf Try.prog 28 4 = some (4, 26) := by kernel_rfl
@[simp] theorem fd31x0 : fieldOf Try.prog 31 0 = some (0, 28) := by kernel_rfl
@[simp] theorem fd31x2 : fieldOf Try.prog 31 2 = some (6, 4) := by kernel_rfl
@[simp] theorem fd31x3 : fieldOf Try.prog 31 3 = some (7, 29) := by kernel_rfl
@[simp] theorem fd36x0 : fieldOf Try.prog 36 0 = some (0, 25) := by kernel_rfl
@[simp] theorem fd36x1 : fieldOf Try.prog 36 1 = some (1, 3) := by kernel_rfl
@[simp] theorem fd36x2 : fieldOf Try.prog 36 2 = some (2, 3) := by kernel_rfl
@[simp] theorem fd36x3 : fieldOf Try.prog 36 3 = some (3, 26) := by kernel_rfl
@[simp] theorem fd36x4 : fieldOf Try.prog 36 4 = some (4, 26) := by kernel_rfl
@[simp] theorem fd36x5 : fieldOf Try.prog 36 5 = some (5, 26) := by kernel_rfl
@[simp] theorem fd47x0 : fieldOf Try.prog 47 0 = some (0, 3) := by kernel_rfl
@[simp] theorem fd47x1 : fieldOf Try.prog 47 1 = some (1, 3) := by kernel_rfl
@[simp] theorem fd47x2 : fieldOf Try.prog 47 2 = some (2, 45) := by kernel_rfl
@[simp] theorem fd49x3 : fieldOf Try.prog 49 3 = some (3, 3) := by kernel_rfl
@[simp] theorem fd51x0 : fieldOf Try.prog 51 0 = some (0, 3) := by kernel_rfl
@[simp] theorem fd51x1 : fieldOf Try.prog 51 1 = some (1, 49) := by kernel_rfl
@[simp] theorem fd51x2 : fieldOf Try.prog 51 2 = some (5, 3) := by kernel_rfl
@[simp] theorem fd54x0 : fieldOf Try.prog 54 0 = some (0, 5) := by kernel_rfl
@[simp] theorem fd54x1 : fieldOf Try.prog 54 1 = some (1, 3) := by kernel_rfl
@[simp] theorem fd54x2 : fieldOf Try.prog 54 2 = some (2, 3) := by kernel_rfl
@[simp] theorem fd54x3 : fieldOf Try.prog 54 3 = some (3, 3) := by kernel_rfl
@[simp] theorem fd54x4 : fieldOf Try.prog 54 4 = some (4, 36) := by kernel_rfl
@[simp] theorem fd54x5 : fieldOf Try.prog 54 5 = some (10, 51) := by kernel_rfl
@[simp] theorem fd54x6 : fieldOf Try.prog 54 6 = some (16, 52) := by kernel_rfl
@[simp] theorem fd60x0 : fieldOf Try.prog 60 0 = some (0, 3) := by kernel_rfl
@[simp] theorem fd60x1 : fieldOf Try.prog 60 1 = some (1, 3) := by kernel_rfl
@[simp] theorem fd60x2 : fieldOf Try.prog 60 2 = some (2, 49) := by kernel_rfl
@[simp] theorem fd60x4 : fieldOf Try.prog 60 4 = some (12, 58) := by kernel_rfl
@[simp] theorem fd62x0 : fieldOf Try.prog 62 0 = some (0, 49) := by kernel_rfl
@[simp] theorem fd62x1 : fieldOf Try.prog 62 1 = some (4, 36) := by kernel_rfl
@[simp] theorem fd62x2 : fieldOf Try.prog 62 2 = some (10, 58) := by kernel_rfl
@[simp] theorem fd64x0 : fieldOf Try.prog 64 0 = some (0, 3) := by kernel_rfl
@[simp] theorem fd64x1 : fieldOf Try.prog 64 1 = some (1, 3) := by kernel_rfl
@[simp] theorem fd64x2 : fieldOf Try.prog 64 2 = some (2, 36) := by kernel_rfl
@[simp] theorem fd64x3 : fieldOf Try.prog 64 3 = some (8, 62) := by kernel_rfl
@[simp] theorem fd64x4 : fieldOf Try.prog 64 4 = some (19, 62) := by kernel_rfl
@[simp] theorem fd64x5 : fieldOf Try.prog 64 5 = some (30, 3) := by kernel_rfl
@[simp] theorem fd64x6 : fieldOf Try.prog 64 6 = some (31, 3) := by kernel_rfl
@[simp] theorem fd68x0 : fieldOf Try.prog 68 0 = some (0, 3) := by kernel_rfl
@[simp] theorem fd68x1 : fieldOf Try.prog 68 1 = some (1, 3) := by kernel_rfl
@[simp] theorem fd68x2 : fieldOf Try.prog 68 2 = some (2, 66) := by kernel_rfl
@[simp] theorem fd68x3 : fieldOf Try.prog 68 3 = some (3, 3) := by kernel_rfl
@[simp] theorem fd68x4 : fieldOf Try.prog 68 4 = some (4, 42) := by kernel_rfl
@[simp] theorem fd68x5 : fieldOf Try.prog 68 5 = some (5, 37) := by kernel_rfl
@[simp] theorem fd78x0 : fieldOf Try.prog 78 0 = some (0, 3) := by kernel_rfl
@[simp] theorem fd78x1 : fieldOf Try.prog 78 1 = some (1, 49) := by kernel_rfl
@[simp] theorem fd78x2 : fieldOf Try.prog 78 2 = some (5, 33) := by kernel_rfl
@[simp] theorem fd85x0 : fieldOf Try.prog 85 0 = some (0, 64) := by kernel_rfl
@[simp] theorem fd85x1 : fieldOf Try.prog 85 1 = some (32, 23) := by kernel_rfl
@[simp] theorem fd96x0 : fieldOf Try.prog 96 0 = some (0, 49) := by kernel_rfl
@[simp] theorem fd96x1 : fieldOf Try.prog 96 1 = some (4, 36) := by kernel_rfl
@[simp] theorem fd96x2 : fieldOf Try.prog 96 2 = some (10, 58) := by kernel_rfl
@[simp] theorem fd98x0 : fieldOf Try.prog 98 0 = some (0, 3) := by kernel_rfl
@[simp] theorem fd98x1 : fieldOf Try.prog 98 1 = some (1, 3) := by kernel_rfl
@[simp] theorem fd98x2 : fieldOf Try.prog 98 2 = some (2, 36) := by kernel_rfl
@[simp] theorem fd98x3 : fieldOf Try.prog 98 3 = some (8, 96) := by kernel_rfl
@[simp] theorem fd98x4 : fieldOf Try.prog 98 4 = some (19, 96) := by kernel_rfl
@[simp] theorem fd98x5 : fieldOf Try.prog 98 5 = some (30, 3) := by kernel_rfl
@[simp] theorem fd98x6 : fieldOf Try.prog 98 6 = some (31, 3) := by kernel_rfl
@[simp] theorem fd111x0 : fieldOf Try.prog 111 0 = some (0, 36) := by kernel_rfl
@[simp] theorem fd111x1 : fieldOf Try.prog 111 1 = some (6, 58) := by kernel_rfl
@[simp] theorem fd111x2 : fieldOf Try.prog 111 2 = some (7, 108) := by kernel_rfl
@[simp] theorem fd111x3 : fieldOf Try.prog 111 3 = some (8, 109) := by kernel_rfl
@[simp] theorem fd111x4 : fieldOf Try.prog 111 4 = some (9, 3) := by kernel_rfl
@[simp] theorem fd115x0 : fieldOf Try.prog 115 0 = some (0, 28) := by kernel_rfl
@[simp] theorem fd115x1 : fieldOf Try.prog 115 1 = some (5, 3) := by kernel_rfl
@[simp] theorem fd115x2 : fieldOf Try.prog 115 2 = some (6, 4) := by kernel_rfl
@[simp] theorem fd115x3 : fieldOf Try.prog 115 3 = some (7, 29) := by kernel_rfl
@[simp] theorem fd127x0 : fieldOf Try.prog 127 0 = some (0, 74) := by kernel_rfl
@[simp] theorem fd127x1 : fieldOf Try.prog 127 1 = some (1, 3) := by kernel_rfl
@[simp] theorem fd127x2 : fieldOf Try.prog 127 2 = some (2, 122) := by kernel_rfl
@[simp] theorem fd127x3 : fieldOf Try.prog 127 3 = some (3, 123) := by kernel_rfl
@[simp] theorem fd127x4 : fieldOf Try.prog 127 4 = some (4, 124) := by kernel_rfl
@[simp] theorem fd130x0 : fieldOf Try.prog 130 0 = some (0, 58) := by kernel_rfl
@[simp] theorem fd130x1 : fieldOf Try.prog 130 1 = some (1, 3) := by kernel_rfl
@[simp] theorem fd132x0 : fieldOf Try.prog 132 0 = some (0, 3) := by kernel_rfl
@[simp] theorem fd132x1 : fieldOf Try.prog 132 1 = some (1, 3) := by kernel_rfl
@[simp] theorem fd132x2 : fieldOf Try.prog 132 2 = some (2, 3) := by kernel_rfl
@[simp] theorem fd137x0 : fieldOf Try.prog 137 0 = some (0, 3) := by kernel_rfl
@[simp] theorem fd137x1 : fieldOf Try.prog 137 1 = some (1, 3) := by kernel_rfl
@[simp] theorem fd141x0 : fieldOf Try.prog 141 0 = some (0, 3) := by kernel_rfl
@[simp] theorem fd141x1 : fieldOf Try.prog 141 1 = some (1, 3) := by kernel_rfl
@[simp] theorem fd141x2 : fieldOf Try.prog 141 2 = some (2, 25) := by kernel_rfl
@[simp] theorem fd144x0 : fieldOf Try.prog 144 0 = some (0, 3) := by kernel_rfl
@[simp] theorem fd144x1 : fieldOf Try.prog 144 1 = some (1, 3) := by kernel_rfl
@[simp] theorem fd144x2 : fieldOf Try.prog 144 2 = some (2, 3) := by kernel_rfl
@[simp] theorem fd144x3 : fieldOf Try.prog 144 3 = some (3, 3) := by kernel_rfl
@[simp] theorem fd144x4 : fieldOf Try.prog 144 4 = some (4, 25) := by kernel_rfl
@[simp] theorem fd144x5 : fieldOf Try.prog 144 5 = some (5, 58) := by kernel_rfl
@[simp] theorem fd144x6 : fieldOf Try.prog 144 6 = some (6, 36) := by kernel_rfl
@[simp] theorem fd152x0 : fieldOf Try.prog 152 0 = some (0, 150) := by kernel_rfl
@[simp] theorem fd154x0 : fieldOf Try.prog 154 0 = some (0, 4) := by kernel_rfl
@[simp] theorem fd154x1 : fieldOf Try.prog 154 1 = some (1, 152) := by kernel_rfl
@[simp] theorem sl32 : sliceElem Try.prog 32 = some 31 := by kernel_rfl
@[simp] theorem sl37 : sliceElem Try.prog 37 = some 40 := by kernel_rfl
@[simp] theorem sl42 : sliceElem Try.prog 42 = some 60 := by kernel_rfl
@[simp] theorem sl45 : sliceElem Try.prog 45 = some 54 := by kernel_rfl
@[simp] theorem sl52 : sliceElem Try.prog 52 = some 115 := by kernel_rfl
@[simp] theorem sl55 : sliceElem Try.prog 55 = some 64 := by kernel_rfl
@[simp] theorem sl58 : sliceElem Try.prog 58 = some 3 := by kernel_rfl
@[simp] theorem sl66 : sliceElem Try.prog 66 = some 83 := by kernel_rfl
@[simp] theorem sl69 : sliceElem Try.prog 69 = some 23 := by kernel_rfl
@[simp] theorem sl71 : sliceElem Try.prog 71 = some 98 := by kernel_rfl
@[simp] theorem sl74 : sliceElem Try.prog 74 = some 28 := by kernel_rfl
@[simp] theorem sl108 : sliceElem Try.prog 108 = some 179 := by kernel_rfl
@[simp] theorem sl109 : sliceElem Try.prog 109 = some 141 := by kernel_rfl
@[simp] theorem sl150 : sliceElem Try.prog 150 = some 132 := by kernel_rfl
@[simp] theorem ar29 : arrElem Try.prog 29 = some (8, 25) := by kernel_rfl
@[simp] theorem ik3 : intKind Try.prog 3 = some .i64 := by kernel_rfl
@[simp] theorem us5 : (Try.prog.underlying 5).isSome = true := by kernel_rfl
@[simp] theorem mo122 : mapOf Try.prog 122 = some (137, 130) := by kernel_rfl
@[simp] theorem mo123 : mapOf Try.prog 123 = some (137, 137) := by kernel_rfl
@[simp] theorem mo146 : mapOf Try.prog 146 = some (148, 3) := by kernel_rfl
@[simp] theorem ni3 : notInt Try.prog 3 = false := by kernel_rfl
@[simp] theorem ni32 : notInt Try.prog 32 = true := by kernel_rfl
@[simp] theorem ni37 : notInt Try.prog 37 = true := by kernel_rfl
@[simp] theorem ni42 : notInt Try.prog 42 = true := by kernel_rfl
@[simp] theorem ni55 : notInt Try.prog 55 = true := by kernel_rfl
@[simp] theorem ni58 : notInt Try.prog 58 = true := by kernel_rfl
@[simp] theorem ni66 : notInt Try.prog 66 = true := by kernel_rfl
@[simp] theorem ni71 : notInt Try.prog 71 = true := by kernel_rfl
@[simp] theorem ni74 : notInt Try.prog 74 = true := by kernel_rfl
@[simp] theorem ni109 : notInt Try.prog 109 = true := by kernel_rfl
@[simp] theorem ni150 : notInt Try.prog 150 = true := by kernel_rfl
theorem pl28 : plcOf Try.prog 28 = some [(0, 1), (1, 1), (2, 1), (3, 1), (4, 1)] := by kernel_rfl
@[simp] theorem bd28 (ps : List (Nat × Value)) : aBuild Try.prog 28 ps = (fillL (fun i => [(0, 1), (1, 1), (2, 1), (3, 1), (4, 1)][i]?) ((.agg #[(.int .i64 0), (.int .i64 0), (.int .u64 0), (.int .i64 0), (.int .u32 0)]) : Value).cells.toList ps).map fun cs => .agg cs.toArray := aBuild_struct pl28 ze28 ps
theorem pl31 : plcOf Try.prog 31 = some [(0, 5), (5, 1), (6, 1), (7, 8)] := by kernel_rfl
@[simp] theorem bd31 (ps : List (Nat × Value)) : aBuild Try.prog 31 ps = (fillL (fun i => [(0, 5), (5, 1), (6, 1), (7, 8)][i]?) ((.agg #[(.int .i64 0), (.int .i64 0), (.int .u64 0), (.int .i64 0), (.int .u32 0), (.int .i64 0), (.bool false), (.int .u64 0), (.int .u64 0), (.int .u64 0), (.int .u64 0), (.int .u64 0), (.int .u64 0), (.int .u64 0), (.int .u64 0)]) : Value).cells.toList ps).map fun cs => .agg cs.toArray := aBuild_struct pl31 ze31 ps
theorem pl36 : plcOf Try.prog 36 = some [(0, 1), (1, 1), (2, 1), (3, 1), (4, 1), (5, 1)] := by kernel_rfl
@[simp] theorem bd36 (ps : List (Nat × Value)) : aBuild Try.prog 36 ps = (fillL (fun i => [(0, 1), (1, 1), (2, 1), (3, 1), (4, 1), (5, 1)][i]?) ((.agg #[(.int .u64 0), (.int .i64 0), (.int .i64 0), (.int .u32 0), (.int .u32 0), (.int .u32 0)]) : Value).cells.toList ps).map fun cs => .agg cs.toArray := aBuild_struct pl36 ze36 ps
theorem pl40 : plcOf Try.prog 40 = some [(0, 1), (1, 1), (2, 1), (3, 1)] := by kernel_rfl
@[simp] theorem bd40 (ps : List (Nat × Value)) : aBuild Try.prog 40 ps = (fillL (fun i => [(0, 1), (1, 1), (2, 1), (3, 1)][i]?) ((.agg #[(.int .i64 0), (.int .i64 0), (.int .i64 0), (.int .i64 0)]) : Value).cells.toList ps).map fun cs => .agg cs.toArray := aBuild_struct pl40 ze40 ps
theorem pl49 : plcOf Try.prog 49 = some [(0, 1), (1, 1), (2, 1), (3, 1)] := by kernel_rfl
@[simp] theorem bd49 (ps : List (Nat × Value)) : aBuild Try.prog 49 ps = (fillL (fun i => [(0, 1), (1, 1), (2, 1), (3, 1)][i]?) ((.agg #[(.int .i64 0), (.int .i64 0), (.int .i64 0), (.int .i64 0)]) : Value).cells.toList ps).map fun cs => .agg cs.toArray := aBuild_struct pl49 ze49 ps
theorem pl60 : plcOf Try.prog 60 = some [(0, 1), (1, 1), (2, 4), (6, 6), (12, 1)] := by kernel_rfl
@[simp] theorem bd60 (ps : List (Nat × Value)) : aBuild Try.prog 60 ps = (fillL (fun i => [(0, 1), (1, 1), (2, 4), (6, 6), (12, 1)][i]?) ((.agg #[(.int .i64 0), (.int .i64 0), (.int .i64 0), (.int .i64 0), (.int .i64 0), (.int .i64 0), (.int .u64 0), (.int .i64 0), (.int .i64 0), (.int .u32 0), (.int .u32 0), (.int .u32 0), (.slice none 0 0)]) : Value).cells.toList ps).map fun cs => .agg cs.toArray := aBuild_struct pl60 ze60 ps
theorem pl62 : plcOf Try.prog 62 = some [(0, 4), (4, 6), (10, 1)] := by kernel_rfl
@[simp] theorem bd62 (ps : List (Nat × Value)) : aBuild Try.prog 62 ps = (fillL (fun i => [(0, 4), (4, 6), (10, 1)][i]?) ((.agg #[(.int .i64 0), (.int .i64 0), (.int .i64 0), (.int .i64 0), (.int .u64 0), (.int .i64 0), (.int .i64 0), (.int .u32 0), (.int .u32 0), (.int .u32 0), (.slice none 0 0)]) : Value).cells.toList ps).map fun cs => .agg cs.toArray := aBuild_struct pl62 ze62 ps
theorem pl64 : plcOf Try.prog 64 = some [(0, 1), (1, 1), (2, 6), (8, 11), (19, 11), (30, 1), (31, 1)] := by kernel_rfl
@[simp] theorem bd64 (ps : List (Nat × Value)) : aBuild Try.prog 64 ps = (fillL (fun i => [(0, 1), (1, 1), (2, 6), (8, 11), (19, 11), (30, 1), (31, 1)][i]?) ((.agg #[(.int .i64 0), (.int .i64 0), (.int .u64 0), (.int .i64 0), (.int .i64 0), (.int .u32 0), (.int .u32 0), (.int .u32 0), (.int .i64 0), (.int .i64 0), (.int .i64 0), (.int .i64 0), (.int .u64 0), (.int .i64 0), (.int .i64 0), (.int .u32 0), (.int .u32 0), (.int .u32 0), (.slice none 0 0), (.int .i64 0), (.int .i64 0), (.int .i64 0), (.int .i64 0), (.int .u64 0), (.int .i64 0), (.int .i64 0), (.int .u32 0), (.int .u32 0), (.int .u32 0), (.slice none 0 0), (.int .i64 0), (.int .i64 0)]) : Value).cells.toList ps).map fun cs => .agg cs.toArray := aBuild_struct pl64 ze64 ps
theorem pl68 : plcOf Try.prog 68 = some [(0, 1), (1, 1), (2, 1), (3, 1), (4, 1), (5, 1)] := by kernel_rfl
@[simp] theorem bd68 (ps : List (Nat × Value)) : aBuild Try.prog 68 ps = (fillL (fun i => [(0, 1), (1, 1), (2, 1), (3, 1), (4, 1), (5, 1)][i]?) ((.agg #[(.int .i64 0), (.int .i64 0), (.slice none 0 0), (.int .i64 0), (.slice none 0 0), (.slice none 0 0)]) : Value).cells.toList ps).map fun cs => .agg cs.toArray := aBuild_struct pl68 ze68 ps
theorem pl78 : plcOf Try.prog 78 = some [(0, 1), (1, 4), (5, 1)] := by kernel_rfl
@[simp] theorem bd78 (ps : List (Nat × Value)) : aBuild Try.prog 78 ps = (fillL (fun i => [(0, 1), (1, 4), (5, 1)][i]?) ((.agg #[(.int .i64 0), (.int .i64 0), (.int .i64 0), (.int .i64 0), (.int .i64 0), (.int .i64 0)]) : Value).cells.toList ps).map fun cs => .agg cs.toArray := aBuild_struct pl78 ze78 ps
theorem pl85 : plcOf Try.prog 85 = some [(0, 32), (32, 1)] := by kernel_rfl
@[simp] theorem bd85 (ps : List (Nat × Value)) : aBuild Try.prog 85 ps = (fillL (fun i => [(0, 32), (32, 1)][i]?) ((.agg #[(.int .i64 0), (.int .i64 0), (.int .u64 0), (.int .i64 0), (.int .i64 0), (.int .u32 0), (.int .u32 0), (.int .u32 0), (.int .i64 0), (.int .i64 0), (.int .i64 0), (.int .i64 0), (.int .u64 0), (.int .i64 0), (.int .i64 0), (.int .u32 0), (.int .u32 0), (.int .u32 0), (.slice none 0 0), (.int .i64 0), (.int .i64 0), (.int .i64 0), (.int .i64 0), (.int .u64 0), (.int .i64 0), (.int .i64 0), (.int .u32 0), (.int .u32 0), (.int .u32 0), (.slice none 0 0), (.int .i64 0), (.int .i64 0), (.pointer none)]) : Value).cells.toList ps).map fun cs => .agg cs.toArray := aBuild_struct pl85 ze85 ps
theorem pl96 : plcOf Try.prog 96 = some [(0, 4), (4, 6), (10, 1)] := by kernel_rfl
@[simp] theorem bd96 (ps : List (Nat × Value)) : aBuild Try.prog 96 ps = (fillL (fun i => [(0, 4), (4, 6), (10, 1)][i]?) ((.agg #[(.int .i64 0), (.int .i64 0), (.int .i64 0), (.int .i64 0), (.int .u64 0), (.int .i64 0), (.int .i64 0), (.int .u32 0), (.int .u32 0), (.int .u32 0), (.slice none 0 0)]) : Value).cells.toList ps).map fun cs => .agg cs.toArray := aBuild_struct pl96 ze96 ps
theorem pl98 : plcOf Try.prog 98 = some [(0, 1), (1, 1), (2, 6), (8, 11), (19, 11), (30, 1), (31, 1)] := by kernel_rfl
@[simp] theorem bd98 (ps : List (Nat × Value)) : aBuild Try.prog 98 ps = (fillL (fun i => [(0, 1), (1, 1), (2, 6), (8, 11), (19, 11), (30, 1), (31, 1)][i]?) ((.agg #[(.int .i64 0), (.int .i64 0), (.int .u64 0), (.int .i64 0), (.int .i64 0), (.int .u32 0), (.int .u32 0), (.int .u32 0), (.int .i64 0), (.int .i64 0), (.int .i64 0), (.int .i64 0), (.int .u64 0), (.int .i64 0), (.int .i64 0), (.int .u32 0), (.int .u32 0), (.int .u32 0), (.slice none 0 0), (.int .i64 0), (.int .i64 0), (.int .i64 0), (.int .i64 0), (.int .u64 0), (.int .i64 0), (.int .i64 0), (.int .u32 0), (.int .u32 0), (.int .u32 0), (.slice none 0 0), (.int .i64 0), (.int .i64 0)]) : Value).cells.toList ps).map fun cs => .agg cs.toArray := aBuild_struct pl98 ze98 ps
theorem pl111 : plcOf Try.prog 111 = some [(0, 6), (6, 1), (7, 1), (8, 1), (9, 1)] := by kernel_rfl
@[simp] theorem bd111 (ps : List (Nat × Value)) : aBuild Try.prog 111 ps = (fillL (fun i => [(0, 6), (6, 1), (7, 1), (8, 1), (9, 1)][i]?) ((.agg #[(.int .u64 0), (.int .i64 0), (.int .i64 0), (.int .u32 0), (.int .u32 0), (.int .u32 0), (.slice none 0 0), (.slice none 0 0), (.slice none 0 0), (.int .i64 0)]) : Value).cells.toList ps).map fun cs => .agg cs.toArray := aBuild_struct pl111 ze111 ps
theorem pl127 : plcOf Try.prog 127 = some [(0, 1), (1, 1), (2, 1), (3, 1), (4, 1)] := by kernel_rfl
@[simp] theorem bd127 (ps : List (Nat × Value)) : aBuild Try.prog 127 ps = (fillL (fun i => [(0, 1), (1, 1), (2, 1), (3, 1), (4, 1)][i]?) ((.agg #[(.slice none 0 0), (.int .i64 0), (.map none), (.map none), (.pointer none)]) : Value).cells.toList ps).map fun cs => .agg cs.toArray := aBuild_struct pl127 ze127 ps
theorem pl130 : plcOf Try.prog 130 = some [(0, 1), (1, 1)] := by kernel_rfl
@[simp] theorem bd130 (ps : List (Nat × Value)) : aBuild Try.prog 130 ps = (fillL (fun i => [(0, 1), (1, 1)][i]?) ((.agg #[(.slice none 0 0), (.int .i64 0)]) : Value).cells.toList ps).map fun cs => .agg cs.toArray := aBuild_struct pl130 ze130 ps
theorem pl132 : plcOf Try.prog 132 = some [(0, 1), (1, 1), (2, 1)] := by kernel_rfl
@[simp] theorem bd132 (ps : List (Nat × Value)) : aBuild Try.prog 132 ps = (fillL (fun i => [(0, 1), (1, 1), (2, 1)][i]?) ((.agg #[(.int .i64 0), (.int .i64 0), (.int .i64 0)]) : Value).cells.toList ps).map fun cs => .agg cs.toArray := aBuild_struct pl132 ze132 ps
theorem pl137 : plcOf Try.prog 137 = some [(0, 1), (1, 1)] := by kernel_rfl
@[simp] theorem bd137 (ps : List (Nat × Value)) : aBuild Try.prog 137 ps = (fillL (fun i => [(0, 1), (1, 1)][i]?) ((.agg #[(.int .i64 0), (.int .i64 0)]) : Value).cells.toList ps).map fun cs => .agg cs.toArray := aBuild_struct pl137 ze137 ps
theorem pl141 : plcOf Try.prog 141 = some [(0, 1), (1, 1), (2, 1)] := by kernel_rfl
@[simp] theorem bd141 (ps : List (Nat × Value)) : aBuild Try.prog 141 ps = (fillL (fun i => [(0, 1), (1, 1), (2, 1)][i]?) ((.agg #[(.int .i64 0), (.int .i64 0), (.int .u64 0)]) : Value).cells.toList ps).map fun cs => .agg cs.toArray := aBuild_struct pl141 ze141 ps
theorem pl144 : plcOf Try.prog 144 = some [(0, 1), (1, 1), (2, 1), (3, 1), (4, 1), (5, 1), (6, 6)] := by kernel_rfl
@[simp] theorem bd144 (ps : List (Nat × Value)) : aBuild Try.prog 144 ps = (fillL (fun i => [(0, 1), (1, 1), (2, 1), (3, 1), (4, 1), (5, 1), (6, 6)][i]?) ((.agg #[(.int .i64 0), (.int .i64 0), (.int .i64 0), (.int .i64 0), (.int .u64 0), (.slice none 0 0), (.int .u64 0), (.int .i64 0), (.int .i64 0), (.int .u32 0), (.int .u32 0), (.int .u32 0)]) : Value).cells.toList ps).map fun cs => .agg cs.toArray := aBuild_struct pl144 ze144 ps
theorem pl148 : plcOf Try.prog 148 = some [(0, 1), (1, 1)] := by kernel_rfl
@[simp] theorem bd148 (ps : List (Nat × Value)) : aBuild Try.prog 148 ps = (fillL (fun i => [(0, 1), (1, 1)][i]?) ((.agg #[(.int .i64 0), (.int .i64 0)]) : Value).cells.toList ps).map fun cs => .agg cs.toArray := aBuild_struct pl148 ze148 ps
theorem pl154 : plcOf Try.prog 154 = some [(0, 1), (1, 1)] := by kernel_rfl
@[simp] theorem bd154 (ps : List (Nat × Value)) : aBuild Try.prog 154 ps = (fillL (fun i => [(0, 1), (1, 1)][i]?) ((.agg #[(.bool false), (.slice none 0 0)]) : Value).cells.toList ps).map fun cs => .agg cs.toArray := aBuild_struct pl154 ze154 ps
@[simp] theorem bs32 (len : Nat) (ps : List (Nat × Value)) (A : AH) : aBuildSlice Try.prog 32 len ps A = if len * 15 ≤ 16777216 then (fillL (fun i => some (i * 15, 15)) (zrep len ((.agg #[(.int .i64 0), (.int .i64 0), (.int .u64 0), (.int .i64 0), (.int .u32 0), (.int .i64 0), (.bool false), (.int .u64 0), (.int .u64 0), (.int .u64 0), (.int .u64 0), (.int .u64 0), (.int .u64 0), (.int .u64 0), (.int .u64 0)]) : Value).cells.toList) ps).map (fun cs => (.slice (some ⟨A.next, 0, none⟩) len len, A.alloc (.row cs 31 false))) else none := aBuildSlice_eq sl32 sz31 ze31 (by rfl) len ps A
@[simp] theorem bs37 (len : Nat) (ps : List (Nat × Value)) (A : AH) : aBuildSlice Try.prog 37 len ps A = if len * 4 ≤ 16777216 then (fillL (fun i => some (i * 4, 4)) (zrep len ((.agg #[(.int .i64 0), (.int .i64 0), (.int .i64 0), (.int .i64 0)]) : Value).cells.toList) ps).map (fun cs => (.slice (some ⟨A.next, 0, none⟩) len len, A.alloc (.row cs 40 false))) else none := aBuildSlice_eq sl37 sz40 ze40 (by rfl) len ps A
@[simp] theorem bs42 (len : Nat) (ps : List (Nat × Value)) (A : AH) : aBuildSlice Try.prog 42 len ps A = if len * 13 ≤ 16777216 then (fillL (fun i => some (i * 13, 13)) (zrep len ((.agg #[(.int .i64 0), (.int .i64 0), (.int .i64 0), (.int .i64 0), (.int .i64 0), (.int .i64 0), (.int .u64 0), (.int .i64 0), (.int .i64 0), (.int .u32 0), (.int .u32 0), (.int .u32 0), (.slice none 0 0)]) : Value).cells.toList) ps).map (fun cs => (.slice (some ⟨A.next, 0, none⟩) len len, A.alloc (.row cs 60 false))) else none := aBuildSlice_eq sl42 sz60 ze60 (by rfl) len ps A
@[simp] theorem bs55 (len : Nat) (ps : List (Nat × Value)) (A : AH) : aBuildSlice Try.prog 55 len ps A = if len * 32 ≤ 16777216 then (fillL (fun i => some (i * 32, 32)) (zrep len ((.agg #[(.int .i64 0), (.int .i64 0), (.int .u64 0), (.int .i64 0), (.int .i64 0), (.int .u32 0), (.int .u32 0), (.int .u32 0), (.int .i64 0), (.int .i64 0), (.int .i64 0), (.int .i64 0), (.int .u64 0), (.int .i64 0), (.int .i64 0), (.int .u32 0), (.int .u32 0), (.int .u32 0), (.slice none 0 0), (.int .i64 0), (.int .i64 0), (.int .i64 0), (.int .i64 0), (.int .u64 0), (.int .i64 0), (.int .i64 0), (.int .u32 0), (.int .u32 0), (.int .u32 0), (.slice none 0 0), (.int .i64 0), (.int .i64 0)]) : Value).cells.toList) ps).map (fun cs => (.slice (some ⟨A.next, 0, none⟩) len len, A.alloc (.row cs 64 false))) else none := aBuildSlice_eq sl55 sz64 ze64 (by rfl) len ps A
@[simp] theorem bs58 (len : Nat) (ps : List (Nat × Value)) (A : AH) : aBuildSlice Try.prog 58 len ps A = if len * 1 ≤ 16777216 then (fillL (fun i => some (i * 1, 1)) (zrep len ((.int .i64 0) : Value).cells.toList) ps).map (fun cs => (.slice (some ⟨A.next, 0, none⟩) len len, A.alloc (.row cs 3 false))) else none := aBuildSlice_eq sl58 sz3 ze3 (by rfl) len ps A
@[simp] theorem bs66 (len : Nat) (ps : List (Nat × Value)) (A : AH) : aBuildSlice Try.prog 66 len ps A = if len * 1 ≤ 16777216 then (fillL (fun i => some (i * 1, 1)) (zrep len ((.pointer none) : Value).cells.toList) ps).map (fun cs => (.slice (some ⟨A.next, 0, none⟩) len len, A.alloc (.row cs 83 false))) else none := aBuildSlice_eq sl66 sz83 ze83 (by rfl) len ps A
@[simp] theorem bs69 (len : Nat) (ps : List (Nat × Value)) (A : AH) : aBuildSlice Try.prog 69 len ps A = if len * 1 ≤ 16777216 then (fillL (fun i => some (i * 1, 1)) (zrep len ((.pointer none) : Value).cells.toList) ps).map (fun cs => (.slice (some ⟨A.next, 0, none⟩) len len, A.alloc (.row cs 23 false))) else none := aBuildSlice_eq sl69 sz23 ze23 (by rfl) len ps A
@[simp] theorem bs71 (len : Nat) (ps : List (Nat × Value)) (A : AH) : aBuildSlice Try.prog 71 len ps A = if len * 32 ≤ 16777216 then (fillL (fun i => some (i * 32, 32)) (zrep len ((.agg #[(.int .i64 0), (.int .i64 0), (.int .u64 0), (.int .i64 0), (.int .i64 0), (.int .u32 0), (.int .u32 0), (.int .u32 0), (.int .i64 0), (.int .i64 0), (.int .i64 0), (.int .i64 0), (.int .u64 0), (.int .i64 0), (.int .i64 0), (.int .u32 0), (.int .u32 0), (.int .u32 0), (.slice none 0 0), (.int .i64 0), (.int .i64 0), (.int .i64 0), (.int .i64 0), (.int .u64 0), (.int .i64 0), (.int .i64 0), (.int .u32 0), (.int .u32 0), (.int .u32 0), (.slice none 0 0), (.int .i64 0), (.int .i64 0)]) : Value).cells.toList) ps).map (fun cs => (.slice (some ⟨A.next, 0, none⟩) len len, A.alloc (.row cs 98 false))) else none := aBuildSlice_eq sl71 sz98 ze98 (by rfl) len ps A
@[simp] theorem bs74 (len : Nat) (ps : List (Nat × Value)) (A : AH) : aBuildSlice Try.prog 74 len ps A = if len * 5 ≤ 16777216 then (fillL (fun i => some (i * 5, 5)) (zrep len ((.agg #[(.int .i64 0), (.int .i64 0), (.int .u64 0), (.int .i64 0), (.int .u32 0)]) : Value).cells.toList) ps).map (fun cs => (.slice (some ⟨A.next, 0, none⟩) len len, A.alloc (.row cs 28 false))) else none := aBuildSlice_eq sl74 sz28 ze28 (by rfl) len ps A
@[simp] theorem bs109 (len : Nat) (ps : List (Nat × Value)) (A : AH) : aBuildSlice Try.prog 109 len ps A = if len * 3 ≤ 16777216 then (fillL (fun i => some (i * 3, 3)) (zrep len ((.agg #[(.int .i64 0), (.int .i64 0), (.int .u64 0)]) : Value).cells.toList) ps).map (fun cs => (.slice (some ⟨A.next, 0, none⟩) len len, A.alloc (.row cs 141 false))) else none := aBuildSlice_eq sl109 sz141 ze141 (by rfl) len ps A
@[simp] theorem bs150 (len : Nat) (ps : List (Nat × Value)) (A : AH) : aBuildSlice Try.prog 150 len ps A = if len * 3 ≤ 16777216 then (fillL (fun i => some (i * 3, 3)) (zrep len ((.agg #[(.int .i64 0), (.int .i64 0), (.int .i64 0)]) : Value).cells.toList) ps).map (fun cs => (.slice (some ⟨A.next, 0, none⟩) len len, A.alloc (.row cs 132 false))) else none := aBuildSlice_eq sl150 sz132 ze132 (by rfl) len ps A
@[simp] theorem ap32x32 (s x : Value) (A : AH) : aAppend Try.prog 32 32 s x A = appW 31 15 120 s x A := aAppend_eq ni32 sl32 sz31 by31 ze31 (by rfl) s x A
@[simp] theorem ap37x37 (s x : Value) (A : AH) : aAppend Try.prog 37 37 s x A = appW 40 4 32 s x A := aAppend_eq ni37 sl37 sz40 by40 ze40 (by rfl) s x A
@[simp] theorem ap42x42 (s x : Value) (A : AH) : aAppend Try.prog 42 42 s x A = appW 60 13 112 s x A := aAppend_eq ni42 sl42 sz60 by60 ze60 (by rfl) s x A
@[simp] theorem ap55x55 (s x : Value) (A : AH) : aAppend Try.prog 55 55 s x A = appW 64 32 264 s x A := aAppend_eq ni55 sl55 sz64 by64 ze64 (by rfl) s x A
@[simp] theorem ap58x58 (s x : Value) (A : AH) : aAppend Try.prog 58 58 s x A = appW 3 1 8 s x A := aAppend_eq ni58 sl58 sz3 by3 ze3 (by rfl) s x A
@[simp] theorem ap66x3 (s x : Value) (A : AH) : aAppendZ Try.prog 66 3 s x A = appZ 83 1 8 ((.pointer none) : Value).cells.toList s x A := aAppendZ_eq (by kernel_rfl) sl66 sz83 by83 ze83 (by rfl) s x A
@[simp] theorem ap66x66 (s x : Value) (A : AH) : aAppend Try.prog 66 66 s x A = appW 83 1 8 s x A := aAppend_eq ni66 sl66 sz83 by83 ze83 (by rfl) s x A
@[simp] theorem ap71x71 (s x : Value) (A : AH) : aAppend Try.prog 71 71 s x A = appW 98 32 264 s x A := aAppend_eq ni71 sl71 sz98 by98 ze98 (by rfl) s x A
@[simp] theorem ap74x74 (s x : Value) (A : AH) : aAppend Try.prog 74 74 s x A = appW 28 5 40 s x A := aAppend_eq ni74 sl74 sz28 by28 ze28 (by rfl) s x A
@[simp] theorem ap109x109 (s x : Value) (A : AH) : aAppend Try.prog 109 109 s x A = appW 141 3 24 s x A := aAppend_eq ni109 sl109 sz141 by141 ze141 (by rfl) s x A
@[simp] theorem ap150x150 (s x : Value) (A : AH) : aAppend Try.prog 150 150 s x A = appW 132 3 24 s x A := aAppend_eq ni150 sl150 sz132 by132 ze132 (by rfl) s x A
@[simp] theorem sc58 (a : Option Addr) (n c : Nat) (lo hi mx : Option Value) (A : AH) : aSlice Try.prog 58 (.slice a n c) lo hi mx A = slW Try.prog 1 a n c lo hi mx A := aSlice_eq sl58 sz3 a n c lo hi mx A
@[simp] theorem sc66 (a : Option Addr) (n c : Nat) (lo hi mx : Option Value) (A : AH) : aSlice Try.prog 66 (.slice a n c) lo hi mx A = slW Try.prog 1 a n c lo hi mx A := aSlice_eq sl66 sz83 a n c lo hi mx A
@[simp] theorem sc150 (a : Option Addr) (n c : Nat) (lo hi mx : Option Value) (A : AH) : aSlice Try.prog 150 (.slice a n c) lo hi mx A = slW Try.prog 3 a n c lo hi mx A := aSlice_eq sl150 sz132 a n c lo hi mx A
@[simp] theorem cp66 (d s : Value) (A : AH) : aCopy Try.prog 66 d s A = cpW 1 d s A := aCopy_eq sl66 sz83 d s A
@[simp] theorem cl66 (x : Value) (A : AH) : aClear Try.prog 66 x A = clW ((.pointer none) : Value).cells.toList x A := aClear_eq sl66 ze83 x A
@[simp] theorem eq3 (A : AH) (k : Nat) (j : IntKind) (a b : Int) : aEq Try.prog A (k + 1) 3 (.int j a) (.int j b) = some (decide (a = b)) := aEq_int (by kernel_rfl) A k j a b
@[simp] theorem eq4 (A : AH) (k : Nat) (a b : Bool) : aEq Try.prog A (k + 1) 4 (.bool a) (.bool b) = some (decide (a = b)) := aEq_bool (by kernel_rfl) A k a b
@[simp] theorem eq5 (A : AH) (k : Nat) (j : IntKind) (a b : Int) : aEq Try.prog A (k + 1) 5 (.int j a) (.int j b) = some (decide (a = b)) := aEq_int (by kernel_rfl) A k j a b
@[simp] theorem eq23 (A : AH) (k : Nat) (a : Option Addr) : aEq Try.prog A (k + 1) 23 (.pointer a) (.pointer none) = some (decide (a = none)) := aEq_ptr (by kernel_rfl) A k a
@[simp] theorem eq25 (A : AH) (k : Nat) (j : IntKind) (a b : Int) : aEq Try.prog A (k + 1) 25 (.int j a) (.int j b) = some (decide (a = b)) := aEq_int (by kernel_rfl) A k j a b
@[simp] theorem eq26 (A : AH) (k : Nat) (j : IntKind) (a b : Int) : aEq Try.prog A (k + 1) 26 (.int j a) (.int j b) = some (decide (a = b)) := aEq_int (by kernel_rfl) A k j a b
@[simp] theorem eq33 (A : AH) (k : Nat) (j : IntKind) (a b : Int) : aEq Try.prog A (k + 1) 33 (.int j a) (.int j b) = some (decide (a = b)) := aEq_int (by kernel_rfl) A k j a b
@[simp] theorem eg36 : Try.prog.eqGuardType Try.prog.depth 36 = false := by kernel_rfl
@[simp] theorem eq36 (A : AH) (k : Nat) (xs ys : List Value) : aEq Try.prog A (k + 1) 36 (.agg ⟨xs⟩) (.agg ⟨ys⟩) = eqL Try.prog A k xs ys [(25, 0), (3, 1), (3, 2), (26, 3), (26, 4), (26, 5)] := aEq_fs (by kernel_rfl) A k xs ys
@[simp] theorem eg40 : Try.prog.eqGuardType Try.prog.depth 40 = false := by kernel_rfl
@[simp] theorem eq40 (A : AH) (k : Nat) (xs ys : List Value) : aEq Try.prog A (k + 1) 40 (.agg ⟨xs⟩) (.agg ⟨ys⟩) = eqL Try.prog A k xs ys [(3, 0), (3, 1), (3, 2), (33, 3)] := aEq_fs (by kernel_rfl) A k xs ys
@[simp] theorem eg49 : Try.prog.eqGuardType Try.prog.depth 49 = false := by kernel_rfl
@[simp] theorem eq49 (A : AH) (k : Nat) (xs ys : List Value) : aEq Try.prog A (k + 1) 49 (.agg ⟨xs⟩) (.agg ⟨ys⟩) = eqL Try.prog A k xs ys [(3, 0), (3, 1), (3, 2), (3, 3)] := aEq_fs (by kernel_rfl) A k xs ys
@[simp] theorem eq58 (A : AH) (k : Nat) (a : Option Addr) (n c n' c' : Nat) : aEq Try.prog A (k + 1) 58 (.slice a n c) (.slice none n' c') = some (decide (a = none)) := aEq_slice (by kernel_rfl) A k a n c n' c'
@[simp] theorem eq66 (A : AH) (k : Nat) (a : Option Addr) (n c n' c' : Nat) : aEq Try.prog A (k + 1) 66 (.slice a n c) (.slice none n' c') = some (decide (a = none)) := aEq_slice (by kernel_rfl) A k a n c n' c'
@[simp] theorem eq83 (A : AH) (k : Nat) (a : Option Addr) : aEq Try.prog A (k + 1) 83 (.pointer a) (.pointer none) = some (decide (a = none)) := aEq_ptr (by kernel_rfl) A k a
@[simp] theorem eq124 (A : AH) (k : Nat) (a : Option Addr) : aEq Try.prog A (k + 1) 124 (.pointer a) (.pointer none) = some (decide (a = none)) := aEq_ptr (by kernel_rfl) A k a
@[simp] theorem eg137 : Try.prog.eqGuardType Try.prog.depth 137 = false := by kernel_rfl
@[simp] theorem eq137 (A : AH) (k : Nat) (xs ys : List Value) : aEq Try.prog A (k + 1) 137 (.agg ⟨xs⟩) (.agg ⟨ys⟩) = eqL Try.prog A k xs ys [(3, 0), (3, 1)] := aEq_fs (by kernel_rfl) A k xs ys
@[simp] theorem eg148 : Try.prog.eqGuardType Try.prog.depth 148 = false := by kernel_rfl
@[simp] theorem eq148 (A : AH) (k : Nat) (xs ys : List Value) : aEq Try.prog A (k + 1) 148 (.agg ⟨xs⟩) (.agg ⟨ys⟩) = eqL Try.prog A k xs ys [(3, 0), (3, 1)] := aEq_fs (by kernel_rfl) A k xs ys
@[simp] theorem eq150 (A : AH) (k : Nat) (a : Option Addr) (n c n' c' : Nat) : aEq Try.prog A (k + 1) 150 (.slice a n c) (.slice none n' c') = some (decide (a = none)) := aEq_slice (by kernel_rfl) A k a n c n' c'
end Go.Proofs.Ytnlopamlmojbgaa.AQ
