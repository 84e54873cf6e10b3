/-
  The codes of the law, as the rules take them.
-/
import Derived.Test.YtnlopamlmojbgaaGreatProg
import Derived.Test.YtnlopamlmojbgaaGreatP2
import Derived.KernelRfl
import Derived.Test.YtnlopamlmojbgaaGreatCAC
set_option linter.unusedSimpArgs false
set_option linter.unusedVariables false
/- The functions' codes. -/
namespace Go.Proofs.YtnlopamlmojbgaaGreat.AC
open Go Go.AI Go.Proofs
set_option maxRecDepth 100000
/- viaduct/viaductlaw20.TunnelActs -/
def c3 : SC := (⟨_, by conv => lhs; reduce; try simp only [mkA, Int.reduceOfNat, Int.reduceNegSucc]⟩ : CO Tryz.f3).1
theorem code3 : CodeIs Tryz.prog 3 111 c3 [.tmp 2] := ⟨fun a w => Tryz.call3 a w, ⟨_, _, Tryz.func3, rfl, by kernel_rfl, by kernel_rfl, rfl, rfl⟩, mixed⟩
/- viaduct/viaductlaw20.Model -/
def c8 : SC := (⟨_, by conv => lhs; reduce; try simp only [mkA, Int.reduceOfNat, Int.reduceNegSucc]⟩ : CO Tryz.f8).1
theorem code8 : CodeIs Tryz.prog 8 73 c8 [.cell 4 32, .tmp 5] := ⟨fun a w => Tryz.call8 a w, ⟨_, _, Tryz.func8, rfl, by kernel_rfl, by kernel_rfl, rfl, rfl⟩, mixed⟩
/- viaduct/viaductref20.Acts -/
def c9 : SC := (⟨_, by conv => lhs; reduce; try simp only [mkA, Int.reduceOfNat, Int.reduceNegSucc]⟩ : CO Tryz.f9).1
theorem code9 : CodeIs Tryz.prog 9 61 c9 [.tmp 4] := ⟨fun a w => Tryz.call9 a w, ⟨_, _, Tryz.func9, rfl, by kernel_rfl, by kernel_rfl, rfl, rfl⟩, mixed⟩
/- viaduct/viaductlaw20.Actions -/
def c10 : SC := (⟨_, by conv => lhs; reduce; try simp only [mkA, Int.reduceOfNat, Int.reduceNegSucc]⟩ : CO Tryz.f10).1
theorem code10 : CodeIs Tryz.prog 10 28 c10 [.tmp 2] := ⟨fun a w => Tryz.call10 a w, ⟨_, _, Tryz.func10, rfl, by kernel_rfl, by kernel_rfl, rfl, rfl⟩, mixed⟩
/- viaduct/viaductlaw20.SameLines -/
def c12 : SC := (⟨_, by conv => lhs; reduce; try simp only [mkA, Int.reduceOfNat, Int.reduceNegSucc]⟩ : CO Tryz.f12).1
theorem code12 : CodeIs Tryz.prog 12 26 c12 [.tmp 4] := ⟨fun a w => Tryz.call12 a w, ⟨_, _, Tryz.func12, rfl, by kernel_rfl, by kernel_rfl, rfl, rfl⟩, mixed⟩
/- viaduct/viaductlaw20.Lines -/
def c13 : SC := (⟨_, by conv => lhs; reduce; try simp only [mkA, Int.reduceOfNat, Int.reduceNegSucc]⟩ : CO Tryz.f13).1
theorem code13 : CodeIs Tryz.prog 13 26 c13 [.tmp 2] := ⟨fun a w => Tryz.call13 a w, ⟨_, _, Tryz.func13, rfl, by kernel_rfl, by kernel_rfl, rfl, rfl⟩, mixed⟩
/- viaduct/viaductref20.Event -/
def c27 : SC := (⟨_, by conv => lhs; reduce; try simp only [mkA, Int.reduceOfNat, Int.reduceNegSucc]⟩ : CO Tryz.f27).1
theorem code27 : CodeIs Tryz.prog 27 89 c27 [.cell 6 32, .tmp 7] := ⟨fun a w => Tryz.call27 a w, ⟨_, _, Tryz.func27, rfl, by kernel_rfl, by kernel_rfl, rfl, rfl⟩, mixed⟩
/- viaduct/viaductref20.Create -/
def c28 : SC := (⟨_, by conv => lhs; reduce; try simp only [mkA, Int.reduceOfNat, Int.reduceNegSucc]⟩ : CO Tryz.f28).1
theorem code28 : CodeIs Tryz.prog 28 81 c28 [.cell 12 32, .tmp 13] := ⟨fun a w => Tryz.call28 a w, ⟨_, _, Tryz.func28, rfl, by kernel_rfl, by kernel_rfl, rfl, rfl⟩, mixed⟩
/- viaduct/viaductref20.Modify -/
def c29 : SC := (⟨_, by conv => lhs; reduce; try simp only [mkA, Int.reduceOfNat, Int.reduceNegSucc]⟩ : CO Tryz.f29).1
theorem code29 : CodeIs Tryz.prog 29 65 c29 [.cell 10 32, .tmp 11] := ⟨fun a w => Tryz.call29 a w, ⟨_, _, Tryz.func29, rfl, by kernel_rfl, by kernel_rfl, rfl, rfl⟩, mixed⟩
/- viaduct/viaductref20.Delete -/
def c30 : SC := (⟨_, by conv => lhs; reduce; try simp only [mkA, Int.reduceOfNat, Int.reduceNegSucc]⟩ : CO Tryz.f30).1
theorem code30 : CodeIs Tryz.prog 30 67 c30 [.cell 4 32, .tmp 5] := ⟨fun a w => Tryz.call30 a w, ⟨_, _, Tryz.func30, rfl, by kernel_rfl, by kernel_rfl, rfl, rfl⟩, mixed⟩
/- viaduct/viaductref20.Tick -/
def c31 : SC := (⟨_, by conv => lhs; reduce; try simp only [mkA, Int.reduceOfNat, Int.reduceNegSucc]⟩ : CO Tryz.f31).1
theorem code31 : CodeIs Tryz.prog 31 82 c31 [.cell 6 32, .tmp 7] := ⟨fun a w => Tryz.call31 a w, ⟨_, _, Tryz.func31, rfl, by kernel_rfl, by kernel_rfl, rfl, rfl⟩, mixed⟩
/- viaduct/viaductref20.Restart -/
def c32 : SC := (⟨_, by conv => lhs; reduce; try simp only [mkA, Int.reduceOfNat, Int.reduceNegSucc]⟩ : CO Tryz.f32).1
theorem code32 : CodeIs Tryz.prog 32 48 c32 [.cell 4 32, .tmp 5] := ⟨fun a w => Tryz.call32 a w, ⟨_, _, Tryz.func32, rfl, by kernel_rfl, by kernel_rfl, rfl, rfl⟩, mixed⟩
/- viaduct/viaductref19.Tickable -/
def c59 : SC := (⟨_, by conv => lhs; reduce; try simp only [mkA, Int.reduceOfNat, Int.reduceNegSucc]⟩ : CO Tryz.f59).1
theorem code59 : CodeIs Tryz.prog 59 9 c59 [.tmp 2] := ⟨fun a w => Tryz.call59 a w, ⟨_, _, Tryz.func59, rfl, by kernel_rfl, by kernel_rfl, rfl, rfl⟩, mixed⟩
/- viaduct/viaductref20.owner -/
def c60 : SC := (⟨_, by conv => lhs; reduce; try simp only [mkA, Int.reduceOfNat, Int.reduceNegSucc]⟩ : CO Tryz.f60).1
theorem code60 : CodeIs Tryz.prog 60 39 c60 [.cell 4 107, .tmp 5] := ⟨fun a w => Tryz.call60 a w, ⟨_, _, Tryz.func60, rfl, by kernel_rfl, by kernel_rfl, rfl, rfl⟩, mixed⟩
/- viaduct/viaductref20.ups -/
def c61 : SC := (⟨_, by conv => lhs; reduce; try simp only [mkA, Int.reduceOfNat, Int.reduceNegSucc]⟩ : CO Tryz.f61).1
theorem code61 : CodeIs Tryz.prog 61 40 c61 [.cell 6 32] := ⟨fun a w => Tryz.call61 a w, ⟨_, _, Tryz.func61, rfl, by kernel_rfl, by kernel_rfl, rfl, rfl⟩, mixed⟩
/- viaduct/viaductref20.stop -/
def c62 : SC := (⟨_, by conv => lhs; reduce; try simp only [mkA, Int.reduceOfNat, Int.reduceNegSucc]⟩ : CO Tryz.f62).1
theorem code62 : CodeIs Tryz.prog 62 14 c62 [.cell 6 32] := ⟨fun a w => Tryz.call62 a w, ⟨_, _, Tryz.func62, rfl, by kernel_rfl, by kernel_rfl, rfl, rfl⟩, mixed⟩
/- viaduct/viaductref20.fails -/
def c63 : SC := (⟨_, by conv => lhs; reduce; try simp only [mkA, Int.reduceOfNat, Int.reduceNegSucc]⟩ : CO Tryz.f63).1
theorem code63 : CodeIs Tryz.prog 63 30 c63 [.cell 8 32] := ⟨fun a w => Tryz.call63 a w, ⟨_, _, Tryz.func63, rfl, by kernel_rfl, by kernel_rfl, rfl, rfl⟩, mixed⟩
/- viaduct/viaductref20.unmap -/
def c64 : SC := (⟨_, by conv => lhs; reduce; try simp only [mkA, Int.reduceOfNat, Int.reduceNegSucc]⟩ : CO Tryz.f64).1
theorem code64 : CodeIs Tryz.prog 64 10 c64 [.cell 4 32] := ⟨fun a w => Tryz.call64 a w, ⟨_, _, Tryz.func64, rfl, by kernel_rfl, by kernel_rfl, rfl, rfl⟩, mixed⟩
/- viaduct/viaductref20.line -/
def c65 : SC := (⟨_, by conv => lhs; reduce; try simp only [mkA, Int.reduceOfNat, Int.reduceNegSucc]⟩ : CO Tryz.f65).1
theorem code65 : CodeIs Tryz.prog 65 39 c65 [.cell 10 32] := ⟨fun a w => Tryz.call65 a w, ⟨_, _, Tryz.func65, rfl, by kernel_rfl, by kernel_rfl, rfl, rfl⟩, mixed⟩
/- viaduct/viaductref20.put -/
def c66 : SC := (⟨_, by conv => lhs; reduce; try simp only [mkA, Int.reduceOfNat, Int.reduceNegSucc]⟩ : CO Tryz.f66).1
theorem code66 : CodeIs Tryz.prog 66 58 c66 [.cell 4 32] := ⟨fun a w => Tryz.call66 a w, ⟨_, _, Tryz.func66, rfl, by kernel_rfl, by kernel_rfl, rfl, rfl⟩, mixed⟩
/- viaduct/viaductref20.find -/
def c67 : SC := (⟨_, by conv => lhs; reduce; try simp only [mkA, Int.reduceOfNat, Int.reduceNegSucc]⟩ : CO Tryz.f67).1
theorem code67 : CodeIs Tryz.prog 67 28 c67 [.cell 4 107, .tmp 5] := ⟨fun a w => Tryz.call67 a w, ⟨_, _, Tryz.func67, rfl, by kernel_rfl, by kernel_rfl, rfl, rfl⟩, mixed⟩
/- viaduct/viaductref20.busy -/
def c68 : SC := (⟨_, by conv => lhs; reduce; try simp only [mkA, Int.reduceOfNat, Int.reduceNegSucc]⟩ : CO Tryz.f68).1
theorem code68 : CodeIs Tryz.prog 68 20 c68 [.tmp 2] := ⟨fun a w => Tryz.call68 a w, ⟨_, _, Tryz.func68, rfl, by kernel_rfl, by kernel_rfl, rfl, rfl⟩, mixed⟩
/- viaduct/viaductref20.tries -/
def c69 : SC := (.seq (.reg [.p 4 (.box 32 (.tmp 0)), .p 6 (.box 107 (.tmp 2)), .p 8 (.alloc 32)]) (.seq (.reg [.p 14 (.fieldAddr 107 (.tmp 6) 2), .p 15 (.load 36 (.tmp 14)), .p 16 (.build 67 #[(0, (.tmp 15))]), .p 9 (.alloc 67), .n (.store 67 (.tmp 9) (.tmp 16))]) (.seq (.seq (.reg [.p 10 (.assign (.const (.int .i64 1)))]) (.block 0 (.loop (.seq (.seq (.reg [.p 17 (.move (.tmp 10)), .p 18 (.fieldAddr 107 (.tmp 6) 3), .p 19 (.fieldAddr 105 (.tmp 18) 2), .p 20 (.load 61 (.tmp 19)), .p 21 (.call ⟨.builtin .len, #[(.tmp 20)], #[61]⟩), .p 22 (.binOp .lss 3 (.tmp 17) (.tmp 21) 3), .p 23 (.move (.tmp 22)), .g 23 true 24 (.fieldAddr 107 (.tmp 6) 3), .g 23 true 25 (.fieldAddr 105 (.tmp 24) 1), .g 23 true 26 (.fieldAddr 36 (.tmp 25) 2), .g 23 true 27 (.load 3 (.tmp 26)), .g 23 true 28 (.fieldAddr 107 (.tmp 6) 2), .g 23 true 29 (.fieldAddr 36 (.tmp 28) 1), .g 23 true 30 (.load 3 (.tmp 29)), .g 23 true 31 (.binOp .leq 3 (.tmp 27) (.tmp 30) 3), .p 32 (.pick (.tmp 23) (.tmp 31) (.const (.bool false)))]) (.cond (.tmp 32) .skip (.exit 0))) (.seq (.block 1 (.reg [.p 35 (.fieldAddr 67 (.tmp 9) 3), .p 36 (.load 65 (.tmp 35)), .p 37 (.fieldAddr 107 (.tmp 6) 3), .p 38 (.fieldAddr 105 (.tmp 37) 2), .p 39 (.load 61 (.tmp 38)), .p 40 (.move (.tmp 10)), .p 41 (.binOp .sub 3 (.tmp 40) (.const (.int .i64 1)) 3), .p 42 (.indexAddr 61 (.tmp 39) (.tmp 41)), .p 43 (.load 3 (.tmp 42)), .p 44 (.fieldAddr 107 (.tmp 6) 3), .p 45 (.fieldAddr 105 (.tmp 44) 2), .p 46 (.load 61 (.tmp 45)), .p 47 (.move (.tmp 10)), .p 48 (.indexAddr 61 (.tmp 46) (.tmp 47)), .p 49 (.load 3 (.tmp 48)), .p 50 (.fieldAddr 107 (.tmp 6) 3), .p 51 (.fieldAddr 105 (.tmp 50) 1), .p 52 (.fieldAddr 36 (.tmp 51) 0), .p 53 (.load 33 (.tmp 52)), .p 54 (.build 73 #[(0, (.tmp 43)), (1, (.tmp 49)), (2, (.tmp 53))]), .p 55 (.buildSlice 65 1 #[(0, (.tmp 54))]), .p 56 (.call ⟨.builtin .append, #[(.tmp 36), (.tmp 55)], #[65, 65]⟩), .p 57 (.fieldAddr 67 (.tmp 9) 3), .n (.store 65 (.tmp 57) (.tmp 56))])) (.reg [.p 33 (.move (.tmp 10)), .p 34 (.binOp .add 3 (.tmp 33) (.const (.int .i64 1)) 3), .p 10 (.assign (.tmp 34))])))))) (.seq (.reg [.p 59 (.fieldAddr 32 (.tmp 4) 1), .p 60 (.load 3 (.tmp 59)), .p 61 (.move (.tmp 3)), .p 62 (.load 67 (.tmp 9)), .p 63 (.fieldAddr 32 (.tmp 4) 0), .p 64 (.load 3 (.tmp 63)), .p 65 (.fieldAddr 107 (.tmp 6) 1), .p 66 (.load 3 (.tmp 65)), .p 67 (.call ⟨.value (.func 18), #[(.tmp 60), (.tmp 61), (.tmp 62), (.tmp 64), (.tmp 66)], #[3, 41, 67, 3, 3]⟩), .p 58 (.move (.tmp 67)), .p 68 (.extract (.tmp 58) 0), .p 69 (.extract (.tmp 58) 1), .p 70 (.extract (.tmp 58) 2), .p 11 (.assign (.tmp 68)), .p 12 (.assign (.tmp 69)), .p 13 (.assign (.tmp 70))]) (.seq (.seq (.reg [.p 71 (.move (.tmp 13)), .p 72 (.binOp .neq 3 (.tmp 71) (.const (.int .i64 0)) 3)]) (.cond (.tmp 72) (.seq (.reg [.p 73 (.load 32 (.tmp 4)), .p 74 (.move (.tmp 1)), .p 75 (.load 107 (.tmp 6)), .p 76 (.move (.tmp 13)), .p 77 (.call ⟨.value (.func 63), #[(.tmp 73), (.tmp 74), (.tmp 75), (.tmp 76)], #[32, 3, 107, 3]⟩), .n (.store 32 (.tmp 8) (.tmp 77))]) .ret) .skip)) (.seq (.seq (.reg [.p 78 (.fieldAddr 32 (.tmp 4) 3), .p 79 (.load 3 (.tmp 78)), .p 80 (.binOp .geq 3 (.tmp 79) (.const (.int .i64 65535)) 3)]) (.cond (.tmp 80) (.seq (.reg [.p 81 (.load 32 (.tmp 4)), .p 82 (.move (.tmp 1)), .p 83 (.load 107 (.tmp 6)), .p 84 (.call ⟨.value (.func 63), #[(.tmp 81), (.tmp 82), (.tmp 83), (.const (.int .i64 7))], #[32, 3, 107, 3]⟩), .n (.store 32 (.tmp 8) (.tmp 84))]) .ret) .skip)) (.seq (.reg [.p 85 (.fieldAddr 32 (.tmp 4) 3), .p 86 (.load 3 (.tmp 85)), .p 87 (.binOp .add 3 (.tmp 86) (.const (.int .i64 1)) 3), .p 88 (.fieldAddr 32 (.tmp 4) 3), .n (.store 3 (.tmp 88) (.tmp 87))]) (.seq (.reg [.p 89 (.fieldAddr 107 (.tmp 6) 1), .p 90 (.load 3 (.tmp 89)), .p 91 (.fieldAddr 107 (.tmp 6) 0), .p 92 (.load 3 (.tmp 91)), .p 93 (.fieldAddr 32 (.tmp 4) 0), .p 94 (.load 3 (.tmp 93)), .p 95 (.fieldAddr 32 (.tmp 4) 3), .p 96 (.load 3 (.tmp 95)), .p 97 (.build 38 #[(0, (.tmp 90)), (1, (.tmp 92)), (2, (.tmp 94)), (3, (.tmp 96))]), .p 98 (.fieldAddr 107 (.tmp 6) 2), .p 99 (.load 36 (.tmp 98)), .p 100 (.move (.tmp 11)), .p 101 (.build 105 #[(0, (.tmp 97)), (1, (.tmp 99)), (2, (.tmp 100))]), .p 102 (.fieldAddr 107 (.tmp 6) 4), .n (.store 105 (.tmp 102) (.tmp 101))]) (.seq (.reg [.p 103 (.move (.tmp 1)), .p 104 (.binOp .add 3 (.tmp 103) (.const (.int .i64 10)) 3), .p 105 (.fieldAddr 107 (.tmp 6) 5), .n (.store 3 (.tmp 105) (.tmp 104))]) (.seq (.draw [⟨0, .p 106 (.load 32 (.tmp 4)), [], [], false⟩, ⟨1, .p 107 (.load 107 (.tmp 6)), [], [], false⟩, ⟨3, .p 109 (.fieldAddr 107 (.tmp 6) 0), [], [], false⟩, ⟨4, .p 110 (.load 3 (.tmp 109)), [], [], true⟩, ⟨5, .p 111 (.fieldAddr 107 (.tmp 6) 4), [], [], false⟩, ⟨6, .p 112 (.fieldAddr 105 (.tmp 111) 0), [], [], false⟩, ⟨7, .p 113 (.load 38 (.tmp 112)), [], [], true⟩, ⟨8, .p 114 (.fieldAddr 107 (.tmp 6) 2), [], [], false⟩, ⟨9, .p 115 (.load 36 (.tmp 114)), [], [], true⟩, ⟨10, .p 116 (.move (.tmp 11)), [], [], false⟩, ⟨11, .p 117 (.build 102 #[(0, (.const (.int .i64 1))), (1, (.tmp 110)), (2, (.tmp 113)), (3, (.tmp 115)), (4, (.tmp 116))]), [], [], false⟩, ⟨2, .p 108 (.call ⟨.value (.func 66), #[(.tmp 106), (.tmp 107)], #[32, 107]⟩), [4, 7, 9], [], false⟩, ⟨12, .p 118 (.call ⟨.value (.func 84), #[(.tmp 108), (.tmp 117)], #[32, 102]⟩), [], [], false⟩, ⟨13, .n (.store 32 (.tmp 8) (.tmp 118)), [], [], false⟩]) .ret))))))))))
theorem code69 : CodeIs Tryz.prog 69 119 c69 [.cell 8 32] := ⟨fun a w => Tryz.call69 a w, ⟨_, _, Tryz.func69, rfl, by kernel_rfl, by kernel_rfl, rfl, rfl⟩, mixed⟩
/- viaduct/viaductref20.lacks -/
def c70 : SC := (⟨_, by conv => lhs; reduce; try simp only [mkA, Int.reduceOfNat, Int.reduceNegSucc]⟩ : CO Tryz.f70).1
theorem code70 : CodeIs Tryz.prog 70 16 c70 [.tmp 2] := ⟨fun a w => Tryz.call70 a w, ⟨_, _, Tryz.func70, rfl, by kernel_rfl, by kernel_rfl, rfl, rfl⟩, mixed⟩
/- viaduct/viaductref20.does -/
def c84 : SC := (⟨_, by conv => lhs; reduce; try simp only [mkA, Int.reduceOfNat, Int.reduceNegSucc]⟩ : CO Tryz.f84).1
theorem code84 : CodeIs Tryz.prog 84 29 c84 [.cell 4 32] := ⟨fun a w => Tryz.call84 a w, ⟨_, _, Tryz.func84, rfl, by kernel_rfl, by kernel_rfl, rfl, rfl⟩, mixed⟩
end Go.Proofs.YtnlopamlmojbgaaGreat.AC
