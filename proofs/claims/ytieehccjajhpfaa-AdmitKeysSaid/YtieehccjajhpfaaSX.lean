/-
  What the law does.
-/
import Derived.Test.YtieehccjajhpfaaCAL
import Derived.Test.YtieehccjajhpfaaS4
set_option linter.unusedSimpArgs false
set_option linter.unusedVariables false
/- The law AdmitKeys. -/
namespace Go.Proofs.Ytieehccjajhpfaa.AC
open Go Go.AI Go.Proofs Go.Proofs.Ytieehccjajhpfaa.AQ
set_option linter.unusedVariables false
set_option linter.unusedSimpArgs false
theorem admitKeys_walk (a b : Key) {A : AH} : ACall Try.prog 3 [.agg a.enc.toArray, .agg b.enc.toArray] A fun v A' => v = .bool true := by
  have hc : (a.bef b = true ∧ b.bef a = false ∧ ¬ a = b) ∨ (a.bef b = false ∧ b.bef a = true ∧ ¬ a = b) ∨ (a.bef b = false ∧ b.bef a = false ∧ a = b) := by
    by_cases e : a = b
    · subst e; simp [bef_irr]
    · rcases bef_total e with h | h
      · have : b.bef a = false := by rw [← Bool.not_eq_true]; intro h2; have := bef_irr a; rw [bef_trans h h2] at this; cases this
        exact Or.inl ⟨h, this, e⟩
      · have : a.bef b = false := by rw [← Bool.not_eq_true]; intro h2; have := bef_irr a; rw [bef_trans h2 h] at this; cases this
        exact Or.inr (Or.inl ⟨this, h, e⟩)
  refine ACall.wf fun hwf => ?_
  have hobx : ∃ A1, A1 = (A.alloc (.row a.enc 23 false)).alloc (.row b.enc 23 false) := ⟨_, rfl⟩
  obtain ⟨A1, hA1⟩ := hobx
  have n1 : A1.next = A.next + 2 := by rw [hA1]; rfl
  have w1 : A1.wf := by rw [hA1]; exact AH.wf_alloc (AH.wf_alloc hwf _) _
  have a1 : A1.get A.next = some (.row a.enc 23 false) := by rw [hA1, AH.get_alloc, if_neg (by simp), AH.get_new]
  have b1 : A1.get (A.next + 1) = some (.row b.enc 23 false) := by rw [hA1, AH.get_alloc, if_pos (by simp)]
  refine code3.call (by simp) fun hwf => ?_
  unfold c3
  simp [← hA1]
  refine CN.use (alive_ok A1) ?_
  rintro _ A2 hw2 hn2 ⟨rfl, x2⟩
  have a2 := x2.get w1 a1
  have b2 := x2.get w1 b1
  simp [a2, b2]
  refine CN.use (before_ok a b A2) ?_
  rintro _ A3 hw3 hn3 ⟨x3, rfl⟩
  have a3 := x3.get hw2 a2
  have b3 := x3.get hw2 b2
  simp [a3, b3]
  refine CN.use (before_ok b a A3) ?_
  rintro _ A4 hw4 hn4 ⟨x4, rfl⟩
  have a4 := x4.get hw3 a3
  have b4 := x4.get hw3 b3
  simp [a4, b4]
  refine CN.use (rbefore_ok a b A4) ?_
  rintro _ A5 hw5 hn5 ⟨rfl, x5⟩
  have a5 := x5.get hw4 a4
  have b5 := x5.get hw4 b4
  simp [a5, b5]
  refine CN.use (kin_ok a b A5) ?_
  rintro _ A6 hw6 hn6 ⟨rfl, x6⟩
  have a6 := x6.get hw5 a5
  have b6 := x6.get hw5 b5
  simp [a6, b6]
  refine CN.use (rkin_ok a b A6) ?_
  rintro _ A7 hw7 hn7 ⟨rfl, x7⟩
  have a7 := x7.get hw6 a6
  have b7 := x7.get hw6 b6
  rcases hc with ⟨c1, c2, c3⟩ | ⟨c1, c2, c3⟩ | ⟨c1, c2, c3⟩
  · simp [a7, b7, c1, c2, c3]
    exact DN.of rfl
  · simp [a7, b7, c1, c2, c3]
    exact DN.of rfl
  · have c4 : decide (a = b) = true := decide_eq_true c3
    simp [a7, b7, c1, c2, c4]
    exact DN.of rfl
end Go.Proofs.Ytieehccjajhpfaa.AC
