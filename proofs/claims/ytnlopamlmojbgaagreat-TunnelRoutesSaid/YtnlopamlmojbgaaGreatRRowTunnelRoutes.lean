/-
  Proved here: the law TunnelRoutes of layer 20 answers true at every input, and its arguments read behind the call as they read before it, without any condition on the input beyond the row's own.
-/
import Derived.Test.YtnlopamlmojbgaaGreatRows
import Derived.Test.YtnlopamlmojbgaaGreatS3
import Derived.Test.YtnlopamlmojbgaaGreatSX
import Derived.WalkKit
import Derived.ProofKit
import Derived.OpenShut
import Derived.ShutString
import Derived.ChangeOld
import Derived.Below
import Derived.SizedLaws
namespace Go.Proofs.YtnlopamlmojbgaaGreat.tunnelRoutes
open Go.ChangeShapes Go.WideShapes Go.ChangeAt Go.RowKit Go.AI Go.Proofs.YtnlopamlmojbgaaGreat.AC Go.Proofs.YtnlopamlmojbgaaGreat.AQ
set_option linter.unusedVariables false
theorem own : ownKnob Tryz.prog.godebug = none := by kernel_rfl
theorem laidOut : laidOutB Tryz.prog = true := by kernel_rfl

set_option maxRecDepth 100000 in
theorem lifted (os : Os) (started : os.Started) (H : Type) (enc : TypeId × Value → H) :
    ReturnsInHanded {} Tryz.checked os 4 .any (Rows.tunnelRoutesSpec.pre6 enc Tryz.prog Tryz.f4 Rows.tunnelRoutesRow.domain false) (Rows.tunnelRoutesSpec.post enc Tryz.prog Tryz.f4 false true false false) := by
  refine returnsInHanded_of_change_sized (C := Tryz.checked) own started (by kernel_rfl) Tryz.func4
    (ChangeSpec.witness6 (enc := enc) (C := Tryz.checked) false ⟨#[], #[.agg #[.int .i64 0, .int .i64 0, .slice none 0 0]], []⟩ 12 (by kernel_rfl) (by kernel_rfl) (by kernel_rfl) (by kernel_rfl)) ?_
  intro W base args ds gs before hval0 hW hcnd hsz0 _
  have hsz : (DataW.weightsEach Tryz.prog (Tryz.f4.params.toList ++ Rows.tunnelRoutesSpec.plain.varTypes Tryz.prog) (ds ++ gs)).all (· ≤ reachBytes) = true := hsz0
  have hval : ∀ (j : Nat) t v, Tryz.f4.params[j]? = some t → args[j]? = some v → Value.okWide Tryz.prog W .any base t v := hval0
  have hW' := hW
  obtain ⟨p, q, hA0, hV, rfl, hfz, hnd⟩ := hW
  have hA : DataW.TrodAll enc Tryz.prog W 0 (fun _ => true) true Tryz.f4.params.toList args.toList ds p := hA0
  rw [Tryz.params4] at hA hval hsz
  have hobt := trodAll_cons hA
  obtain ⟨v0, vs0, d0, ds0, p0, q0, hargs, rfl, rfl, h0, r0⟩ := hobt
  have hobt := trodAll_nil r0
  obtain ⟨rfl, rfl, rfl⟩ := hobt
  obtain rfl : args = #[v0] := by cases args; simp_all
  have hobt := trodVars_none hV
  obtain ⟨rfl, rfl⟩ := hobt
  have lt0 : ∀ x ∈ p0, x.block < W.heap.size := by obtain ⟨m, hm⟩ := h0; exact DataW.trod_lt m _ _ _ hm
  obtain ⟨w0, n0, cs0, e0, g0⟩ := arg_agg (by kernel_rfl) (hval 0 24 v0 rfl rfl) h0 (fun n hn => by
    have := List.all_eq_true.1 hsz n (DataW.weights_mem_each (j := 0) rfl rfl n hn)
    simpa using this)
  have hobt := play_rd g0
  obtain ⟨d0, m0, a0, c0, l0, er0, hl0, ho0⟩ := hobt
  rw [show cs0 = (PlR d0 m0 a0 l0.length c0).toArray from Array.toList_inj.1 er0] at e0
  rw [e0] at w0
  clear hA0 hval0 hsz0 hsz
  refine ACall.calls code4.enters (routes_walk d0 m0 hl0 ho0) (heapW_rel W) (LRel.cons w0 (LRel.nil _)) heapW_ro fun v v' A' m' W' hv hvv bel => ?_
  subst hv
  cases hvv
  exact ⟨_, rfl, _, _, _, [], _, [], hW', trodAll_mk1 (shut_bool Tryz.underlying4 _),
    (trodAll_cons_mk (Below.trod laidOut (by kernel_rfl) (of_decide_eq_true (by kernel_rfl)) h0 bel lt0) trodAll_mk0), rfl, bel.frame _, fun h => by cases h⟩

theorem over : Rows.tunnelRoutesRow.holds Tryz.pinned (OpenSpec.ofChange Rows.tunnelRoutesSpec) :=
  OpenClaim.holds_of_wide 4 Tryz.f4 rfl rfl rfl rfl rfl rfl rfl ⟨rfl, rfl, rfl, rfl, rfl⟩ rfl rfl rfl rfl rfl (by kernel_rfl) Tryz.func4 (by kernel_rfl)
    (of_decide_eq_true (by kernel_rfl)) (by unfold Func.isWrapper; first | (rw [if_pos (by decide +kernel)]; kernel_rfl) | (rw [if_neg (by decide +kernel)]; exact ⟨rfl, rfl⟩))
    (fun os started H enc _ => lifted os started H enc)
end Go.Proofs.YtnlopamlmojbgaaGreat.tunnelRoutes
namespace Go.Proofs.YtnlopamlmojbgaaGreat
/-- The row. -/
theorem tunnelRoutes_holds : Rows.TunnelRoutesSaid := tunnelRoutes.over
end Go.Proofs.YtnlopamlmojbgaaGreat
