/-
  The codes of the law, as the rules take them.
-/
import Derived.Test.YtnlopamlmojbgaaProg
import Derived.Test.YtnlopamlmojbgaaP2
import Derived.KernelRfl
import Derived.Test.YtnlopamlmojbgaaCAC
set_option linter.unusedSimpArgs false
set_option linter.unusedVariables false
/- The functions' codes. -/
namespace Go.Proofs.Ytnlopamlmojbgaa.AC
open Go Go.AI Go.Proofs
/- viaduct/viaductlaw20.TunnelNobody -/
def c5 : SC := (.seq (.reg [.p 1 (.box 54 (.tmp 0)), .p 2 (.assign (.const (.bool false)))]) (.seq (.seq (.reg [.p 5 (.call ⟨.value (.func 7), #[], #[]⟩), .p 6 (.unOp .not 4 (.tmp 5))]) (.cond (.tmp 6) (.seq (.reg [.p 2 (.assign (.const (.bool false)))]) .ret) .skip)) (.seq (.seq (.reg [.p 7 (.fieldAddr 54 (.tmp 1) 6), .p 8 (.load 52 (.tmp 7)), .p 9 (.call ⟨.builtin .len, #[(.tmp 8)], #[52]⟩), .p 10 (.binOp .gtr 3 (.tmp 9) (.const (.int .i64 100)) 3)]) (.cond (.tmp 10) (.seq (.reg [.p 2 (.assign (.const (.bool true)))]) .ret) .skip)) (.seq (.seq (.reg [.p 11 (.build 68 #[]), .p 12 (.box 68 (.tmp 11)), .p 13 (.buildSlice 69 2 #[(0, (.const (.pointer none))), (1, (.tmp 12))]), .p 14 (.call ⟨.builtin .len, #[(.tmp 13)], #[69]⟩), .p 15 (.move (.const (.int .i64 0)))]) (.block 0 (.loop (.seq (.reg [.p 16 (.binOp .lss 3 (.tmp 15) (.tmp 14) 3)]) (.seq (.cond (.tmp 16) .skip (.exit 0)) (.seq (.block 1 (.seq (.reg [.p 17 (.indexAddr 69 (.tmp 13) (.tmp 15)), .p 18 (.load 23 (.tmp 17)), .p 4 (.assign (.tmp 18))]) (.seq (.reg [.p 19 (.move (.tmp 4)), .p 20 (.load 54 (.tmp 1)), .p 21 (.call ⟨.value (.func 14), #[(.tmp 19), (.tmp 20)], #[23, 54]⟩), .p 22 (.binOp .neq 33 (.tmp 21) (.const (.int .i64 1)) 33), .p 23 (.move (.tmp 22)), .g 23 false 24 (.move (.tmp 4)), .g 23 false 25 (.call ⟨.value (.func 12), #[(.tmp 24)], #[23]⟩), .g 23 false 26 (.call ⟨.builtin .len, #[(.tmp 25)], #[42]⟩), .g 23 false 27 (.binOp .neq 3 (.tmp 26) (.const (.int .i64 0)) 3), .p 28 (.pick (.tmp 23) (.const (.bool true)) (.tmp 27)), .p 29 (.move (.tmp 28)), .g 29 false 30 (.move (.tmp 4)), .g 29 false 31 (.call ⟨.value (.func 10), #[(.tmp 30)], #[23]⟩), .g 29 false 32 (.call ⟨.builtin .len, #[(.tmp 31)], #[37]⟩), .g 29 false 33 (.binOp .neq 3 (.tmp 32) (.const (.int .i64 0)) 3), .p 34 (.pick (.tmp 29) (.const (.bool true)) (.tmp 33)), .p 35 (.move (.tmp 34)), .g 35 false 36 (.move (.tmp 4)), .g 35 false 37 (.call ⟨.value (.func 13), #[(.tmp 36)], #[23]⟩), .g 35 false 38 (.call ⟨.builtin .len, #[(.tmp 37)], #[55]⟩), .g 35 false 39 (.binOp .neq 3 (.tmp 38) (.const (.int .i64 0)) 3), .p 40 (.pick (.tmp 35) (.const (.bool true)) (.tmp 39))]) (.cond (.tmp 40) (.seq (.reg [.p 2 (.assign (.const (.bool false)))]) .ret) .skip)))) (.reg [.p 41 (.binOp .add 3 (.tmp 15) (.const (.int .i64 1)) 3), .p 15 (.move (.tmp 41))]))))))) (.seq (.reg [.p 2 (.assign (.const (.bool true)))]) .ret)))))
theorem code5 : CodeIs Try.prog 5 42 c5 [.tmp 2] := ⟨fun a w => Try.call5 a w, ⟨_, _, Try.func5, rfl, by kernel_rfl, by kernel_rfl, rfl, rfl⟩, mixed⟩
end Go.Proofs.Ytnlopamlmojbgaa.AC
