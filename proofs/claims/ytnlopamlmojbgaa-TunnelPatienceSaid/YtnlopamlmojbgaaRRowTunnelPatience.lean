/-
  Proved here: the law TunnelPatience of layer 20 answers true at every input, and its arguments read behind the call as they read before it, without any condition on the input beyond the row's own.
-/
import Derived.Test.YtnlopamlmojbgaaRows
import Derived.Test.YtnlopamlmojbgaaS3
import Derived.Test.YtnlopamlmojbgaaSX
import Derived.WalkKit
import Derived.ProofKit
import Derived.OpenShut
import Derived.ShutString
import Derived.ChangeOld
import Derived.Below
import Derived.SizedLaws
namespace Go.Proofs.Ytnlopamlmojbgaa.tunnelPatience
open Go.ChangeShapes Go.WideShapes Go.ChangeAt Go.RowKit Go.AI Go.Proofs.Ytnlopamlmojbgaa.AC Go.Proofs.Ytnlopamlmojbgaa.AQ
set_option linter.unusedVariables false
theorem own : ownKnob Try.prog.godebug = none := by kernel_rfl
theorem laidOut : laidOutB Try.prog = true := by kernel_rfl

set_option maxRecDepth 100000 in
theorem lifted (os : Os) (started : os.Started) (H : Type) (enc : TypeId × Value → H) :
    ReturnsInHanded {} Try.checked os 3 .any (Rows.tunnelPatienceSpec.pre6 enc Try.prog Try.f3 Rows.tunnelPatienceRow.domain false) (Rows.tunnelPatienceSpec.post enc Try.prog Try.f3 false true false false) := by
  refine returnsInHanded_of_change_sized (C := Try.checked) own started (by kernel_rfl) Try.func3
    (ChangeSpec.witness6 (enc := enc) (C := Try.checked) false ⟨#[], #[.int .u8 0, .bool false], []⟩ 12 (by kernel_rfl) (by kernel_rfl) (by kernel_rfl) (by kernel_rfl)) ?_
  intro W base args ds gs before hval0 hW hcnd hsz0 _
  have hsz : (DataW.weightsEach Try.prog (Try.f3.params.toList ++ Rows.tunnelPatienceSpec.plain.varTypes Try.prog) (ds ++ gs)).all (· ≤ reachBytes) = true := hsz0
  have hval : ∀ (j : Nat) t v, Try.f3.params[j]? = some t → args[j]? = some v → Value.okWide Try.prog W .any base t v := hval0
  have hW' := hW
  obtain ⟨p, q, hA0, hV, rfl, hfz, hnd⟩ := hW
  have hA : DataW.TrodAll enc Try.prog W 0 (fun _ => true) true Try.f3.params.toList args.toList ds p := hA0
  rw [Try.params3] at hA hval hsz
  have hobt := trodAll_cons hA
  obtain ⟨v0, vs0, d0, ds0, p0, q0, hargs, rfl, rfl, h0, r0⟩ := hobt
  have hobt := trodAll_cons r0
  obtain ⟨v1, vs1, d1, ds1, p1, q1, rfl, rfl, rfl, h1, r1⟩ := hobt
  have hobt := trodAll_nil r1
  obtain ⟨rfl, rfl, rfl⟩ := hobt
  obtain rfl : args = #[v0, v1] := by cases args; simp_all
  have hobt := trodVars_none hV
  obtain ⟨rfl, rfl⟩ := hobt
  have lt0 : ∀ x ∈ p0, x.block < W.heap.size := by obtain ⟨m, hm⟩ := h0; exact DataW.trod_lt m _ _ _ hm
  have lt1 : ∀ x ∈ p1, x.block < W.heap.size := by obtain ⟨m, hm⟩ := h1; exact DataW.trod_lt m _ _ _ hm
  obtain ⟨w0, n0, g0⟩ := arg_one (by kernel_rfl) (hval 0 5 v0 rfl rfl) h0 (fun n hn => by
    have := List.all_eq_true.1 hsz n (DataW.weights_mem_each (j := 0) rfl rfl n hn)
    simpa using this)
  obtain ⟨w1, n1, g1⟩ := arg_one (by kernel_rfl) (hval 1 4 v1 rfl rfl) h1 (fun n hn => by
    have := List.all_eq_true.1 hsz n (DataW.weights_mem_each (j := 1) rfl rfl n hn)
    simpa using this)
  have hobt := u8_rd g0
  obtain ⟨k0, e0, hk0⟩ := hobt
  simp only [List.cons.injEq, and_true] at e0
  rw [e0] at w0
  have hobt := Rd_bool Try.underlying4 g1
  obtain ⟨b1, e1⟩ := hobt
  simp only [List.cons.injEq, and_true] at e1
  rw [e1] at w1
  clear hA0 hval0 hsz0 hsz
  refine ACall.calls code3.enters (patience_walk hk0 b1) (heapW_rel W) (LRel.cons w0 (LRel.cons w1 (LRel.nil _))) heapW_ro fun v v' A' m' W' hv hvv bel => ?_
  subst hv
  cases hvv
  exact ⟨_, rfl, _, _, _, [], _, [], hW', trodAll_mk1 (shut_bool Try.underlying4 _),
    (trodAll_cons_mk (Below.trod laidOut (by kernel_rfl) (of_decide_eq_true (by kernel_rfl)) h0 bel lt0) (trodAll_cons_mk (Below.trod laidOut (by kernel_rfl) (of_decide_eq_true (by kernel_rfl)) h1 bel lt1) trodAll_mk0)), rfl, bel.frame _, fun h => by cases h⟩

theorem over : Rows.tunnelPatienceRow.holds Try.pinned (OpenSpec.ofChange Rows.tunnelPatienceSpec) :=
  OpenClaim.holds_of_wide 3 Try.f3 rfl rfl rfl rfl rfl rfl rfl ⟨rfl, rfl, rfl, rfl, rfl⟩ rfl rfl rfl rfl rfl (by kernel_rfl) Try.func3 (by kernel_rfl)
    (of_decide_eq_true (by kernel_rfl)) (by unfold Func.isWrapper; first | (rw [if_pos (by decide +kernel)]; kernel_rfl) | (rw [if_neg (by decide +kernel)]; exact ⟨rfl, rfl⟩))
    (fun os started H enc _ => lifted os started H enc)
end Go.Proofs.Ytnlopamlmojbgaa.tunnelPatience
namespace Go.Proofs.Ytnlopamlmojbgaa
/-- The row. -/
theorem tunnelPatience_holds : Rows.TunnelPatienceSaid := tunnelPatience.over
end Go.Proofs.Ytnlopamlmojbgaa
