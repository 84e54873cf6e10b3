/-
  What the functions of the program, and those of the law, do.
-/
import Derived.Test.YtanpbdbicicepaaS1
import Derived.Test.YtanpbdbicicepaaP2
/- What is read of the arguments. -/
namespace Go.Proofs.Ytanpbdbicicepaa.AC
open Go Go.AI Go.Proofs Go.Proofs.Ytanpbdbicicepaa.AQ
set_option linter.unusedVariables false
section
variable {A : AH} {n : Nat} {cs : List Value}
theorem int_rd (h : Rd Try.prog A n 3 cs) : ∃ i, cs = [.int .i64 i] ∧ (Lit.int .i64 i).wf = true := Rd_int Try.underlying3 h
theorem route_rd (h : Rd Try.prog A n 32 cs) : ∃ (a : Option Addr) (c : Nat) (l : List Int), cs = [.slice a l.length c] ∧ Sl A 3 1 a (ints l) ∧ CapOk A 3 a l.length c := by
  have hobt := Rd_slice (z := 1) (f := fun i : Int => [.int .i64 i]) (Q := fun _ => True) Try.underlying32 (by kernel_rfl) (by decide) (fun _ => ⟨rfl, rfl⟩) (fun n cs h => by obtain ⟨i, h, -⟩ := int_rd h; exact ⟨i, h, trivial⟩) h
  obtain ⟨a, c, L, h1, h2, h3, -, -⟩ := hobt
  exact ⟨a, c, L, h1, h2, h3⟩
theorem key_rd (h : Rd Try.prog A n 27 cs) : ∃ k : Key, cs = k.enc := by
  have hobt := Rd_struct Try.underlying27 (by kernel_rfl) h
  obtain ⟨n', h⟩ := hobt
  simp only [RdS] at h
  obtain ⟨p0, _, rfl, h0, p1, _, rfl, h1, p2, _, rfl, h2, p3, _, rfl, h3, rfl⟩ := h
  have hobt := int_rd h0
  obtain ⟨i0, rfl, -⟩ := hobt
  have hobt := int_rd h1
  obtain ⟨i1, rfl, -⟩ := hobt
  have hobt := int_rd h2
  obtain ⟨i2, rfl, -⟩ := hobt
  have hobt := int_rd h3
  obtain ⟨i3, rfl, -⟩ := hobt
  exact ⟨⟨i0, i1, i2, i3⟩, rfl⟩
theorem state_rd (h : Rd Try.prog A n 34 cs) : ∃ r : RS, cs = r.enc ∧ r.arg A := by
  have hobt := Rd_struct Try.underlying34 (by kernel_rfl) h
  obtain ⟨n', h⟩ := hobt
  simp only [RdS] at h
  obtain ⟨p0, _, rfl, h0, p1, _, rfl, h1, p2, _, rfl, h2, p3, _, rfl, h3, p4, _, rfl, h4, p5, _, rfl, h5, p6, _, rfl, h6, p7, _, rfl, h7, p8, _, rfl, h8, rfl⟩ := h
  have hobt := key_rd h0
  obtain ⟨k, rfl⟩ := hobt
  have hobt := Rd_struct Try.underlying31 (by kernel_rfl) h1
  obtain ⟨n2, h1⟩ := hobt
  simp only [RdS] at h1
  obtain ⟨q0, _, rfl, g0, q1, _, rfl, g1, q2, _, rfl, g2, q3, _, rfl, g3, q4, _, rfl, g4, q5, _, rfl, g5, rfl⟩ := h1
  have hobt := Rd_int Try.underlying28 g0
  obtain ⟨j0, rfl, -⟩ := hobt
  have hobt := int_rd g1
  obtain ⟨j1, rfl, -⟩ := hobt
  have hobt := int_rd g2
  obtain ⟨j2, rfl, -⟩ := hobt
  have hobt := Rd_int Try.underlying29 g3
  obtain ⟨j3, rfl, -⟩ := hobt
  have hobt := Rd_int Try.underlying29 g4
  obtain ⟨j4, rfl, -⟩ := hobt
  have hobt := Rd_int Try.underlying29 g5
  obtain ⟨j5, rfl, -⟩ := hobt
  have hobt := route_rd h2
  obtain ⟨a, c, l, rfl, hl, hc⟩ := hobt
  have hobt := int_rd h3
  obtain ⟨i3, rfl, -⟩ := hobt
  have hobt := int_rd h4
  obtain ⟨i4, rfl, -⟩ := hobt
  have hobt := int_rd h5
  obtain ⟨i5, rfl, -⟩ := hobt
  have hobt := int_rd h6
  obtain ⟨i6, rfl, -⟩ := hobt
  have hobt := int_rd h7
  obtain ⟨i7, rfl, -⟩ := hobt
  have hobt := int_rd h8
  obtain ⟨i8, rfl, -⟩ := hobt
  exact ⟨⟨⟨k, ⟨j0, j1, j2, j3, j4, j5⟩, l, i3, i4, i5, i6, i7, i8⟩, a, c⟩, rfl, hl, hc⟩
theorem act_rd (h : Rd Try.prog A n 36 cs) : ∃ x : Act, cs = x.enc ∧ x.r.arg A := by
  have hobt := Rd_struct Try.underlying36 (by kernel_rfl) h
  obtain ⟨n', h⟩ := hobt
  simp only [RdS] at h
  obtain ⟨p0, _, rfl, h0, p1, _, rfl, h1, p2, _, rfl, h2, rfl⟩ := h
  have hobt := Rd_bool Try.underlying4 h0
  obtain ⟨d, rfl⟩ := hobt
  have hobt := state_rd h1
  obtain ⟨r, rfl, hr⟩ := hobt
  have hobt := int_rd h2
  obtain ⟨i, rfl, -⟩ := hobt
  exact ⟨⟨d, r, i⟩, rfl, hr⟩
theorem acts_rd (h : Rd Try.prog A n 22 cs) : ∃ (a : Option Addr) (c : Nat) (l : List Act), cs = [.slice a l.length c] ∧ Sl A 36 19 a (l.map Act.enc) ∧ ∀ x ∈ l, x.r.arg A := by
  have hobt := Rd_slice (z := 19) (f := Act.enc) (Q := fun x => x.r.arg A) Try.underlying22 (by kernel_rfl) (by decide) (fun x => ⟨by simp [Act.enc], by simp [Act.enc]⟩) (fun n cs h => act_rd h) h
  obtain ⟨a, c, L, h1, h2, -, -, h3⟩ := hobt
  exact ⟨a, c, L, h1, h2, h3⟩
end
end Go.Proofs.Ytanpbdbicicepaa.AC
