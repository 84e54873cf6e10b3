import Derived.Test.YtmnpmjphhkiedaaT21
import Derived.Test.YtmnpmjphhkiedaaT29
namespace Go.Proofs.Ytmnpmjphhkiedaa.LF
open Go.RowKit Go.ChangeShapes Go.WideShapes Go.Deep Go.Proofs.YtmnpmjphhkiedaaW.PrintWords Go.Proofs.YtmnpmjphhkiedaaW.PrintLast Go.Proofs.YtmnpmjphhkiedaaW.PrintMore Go.Proofs.Ytmnpmjphhkiedaa.PLfibActs Go.Proofs.Ytmnpmjphhkiedaa.Lib
section
variable {H : Type} {enc : TypeId × Value → H} {W : World} {base : Nat} {spare : Nat → Bool} {held : Bool} {fuel : Nat} {cs : List Value} {x : DataW H × List MemPlace}

theorem weights_all {P : Program} {e : TypeId} : ∀ {l : List (DataW H)} {d : DataW H}, d ∈ l → ∀ n ∈ d.weights P e, n ∈ DataW.weightsAll P e l
  | y :: l, d, h, n, hn => by
    simp only [DataW.weightsAll, List.mem_append]
    rcases List.mem_cons.1 h with rfl | h
    · exact .inl hn
    · exact .inr (weights_all h n hn)

set_option maxRecDepth 100000 in
/-- The acts, as they are read, whole. -/
theorem acts_full (h : DataW.trod enc Try.prog W base spare held fuel 22 cs = some x) (hz : ∀ n ∈ x.1.weights Try.prog 22, n ≤ reachBytes) :
    ∃ A n c, cs = [.slice A n c] ∧ ActsFull W A n ∧ n ≤ 9223372036854775807 := by
  rcases open_slice Try.underlying22 h with ⟨rfl, rfl⟩ | ⟨a, len, cap, m, n, D, Pl, rfl, _, hlc, hcm, hm, rfl, hel⟩
  · exact ⟨none, 0, 0, rfl, fun i hi => absurd hi (Nat.not_lt_zero _), by omega⟩
  · have hlm : len ≤ m := by rw [hm]; split <;> omega
    refine ⟨some a, len, cap, rfl, fun i hi => ?_, by simp only [maxLen] at hcm; omega⟩
    obtain ⟨cs', hc, ht⟩ := hel i (by omega)
    obtain ⟨kd, lb, nx, ll, A, c, q, e, hq, hk, hl⟩ := act_cells ht (fun n hn => hz n (by
      simp only [DataW.weights, Try.underlying22]
      refine List.mem_cons_of_mem _ (List.mem_append_left _ (weights_all (d := D i) ?_ n hn))
      exact List.mem_map.2 ⟨i, List.mem_range.2 hi, rfl⟩))
    subst e
    rw [cT34] at hc
    obtain ⟨_, _, hcell⟩ := World.cells?_some hc
    refine ⟨a, rfl, kd, lb, nx, ll, A, c, q, hq, hk, hl, ?_, fun j u hj hu => ?_⟩
    · have := hcell 0 (by omega)
      simpa [Addr.add_zero'] using this
    · have h8 : j < 8 := (List.getElem?_eq_some_iff.1 hu).1
      have := hcell j h8
      rw [Go.Deep.add_add] at this
      have e : a.add (i * 8 + j) = ⟨a.block, a.off + (i * 8 + j), none⟩ := by unfold Addr.add; rw [if_neg (by omega)]
      rw [← e, this]
      exact hu
end
end Go.Proofs.Ytmnpmjphhkiedaa.LF
