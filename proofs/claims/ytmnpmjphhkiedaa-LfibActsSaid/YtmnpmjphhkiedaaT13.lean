import Derived.Test.YtmnpmjphhkiedaaT12
import Derived.Deep.Slices
import Derived.Deep.Strs
import Derived.Lib.SmallJoins
import Derived.OpenShut
namespace Go.Proofs.Ytmnpmjphhkiedaa.LF
open Go.RowKit Go.ChangeShapes Go.WideShapes Go.Deep Go.Proofs.YtmnpmjphhkiedaaW.PrintWords Go.Proofs.YtmnpmjphhkiedaaW.PrintLast Go.Proofs.YtmnpmjphhkiedaaW.PrintMore Go.Proofs.Ytmnpmjphhkiedaa.PLfibActs Go.Proofs.Ytmnpmjphhkiedaa.Lib
section
variable {H : Type} {enc : TypeId × Value → H} {W : World} {base : Nat} {spare : Nat → Bool} {held : Bool} {fuel : Nat} {cs : List Value} {x : DataW H × List MemPlace}

theorem c3 : Try.prog.cellsOf 3 = 1 := by kernel_rfl
theorem cT118 : Try.prog.cellsOf 118 = 3 := by kernel_rfl
theorem cT34 : Try.prog.cellsOf 34 = 8 := by kernel_rfl
theorem cT32 : Try.prog.cellsOf 32 = 2 := by kernel_rfl
theorem cT25 : Try.prog.cellsOf 25 = 4 := by kernel_rfl

theorem list3 {cs : List Value} (h : cs.length = 3) : ∃ a b c, cs = [a, b, c] := by
  match cs, h with
  | [a, b, c], _ => exact ⟨a, b, c, rfl⟩
theorem list8 {cs : List Value} (h : cs.length = 8) : ∃ a b c d e f g i, cs = [a, b, c, d, e, f, g, i] := by
  match cs, h with
  | [a, b, c, d, e, f, g, i], _ => exact ⟨a, b, c, d, e, f, g, i, rfl⟩

/-- One entry of a stack, as it is read. -/
theorem entry_open (h : DataW.trod enc Try.prog W base spare held fuel 118 cs = some x) : ∃ s : S118, cs = [.int .i64 s.f0, .int .i64 s.f1, .int .i64 s.f2] := by
  obtain ⟨y0, y1, y2, n, _, hl, h0, h1, h2⟩ := trod_struct3 Try.underlying118 h
  rw [cT118] at hl
  obtain ⟨a, b, c, rfl⟩ := list3 hl
  simp only [c3, List.drop, List.take] at h0 h1 h2
  obtain ⟨i0, e0, _⟩ := DataW.trod_int Try.underlying3 h0
  obtain ⟨i1, e1, _⟩ := DataW.trod_int Try.underlying3 h1
  obtain ⟨i2, e2, _⟩ := DataW.trod_int Try.underlying3 h2
  simp only [List.cons.injEq, and_true] at e0 e1 e2
  exact ⟨⟨i0, i1, i2⟩, by rw [e0, e1, e2]⟩

instance : Inhabited S118 := ⟨⟨0, 0, 0⟩⟩

/-- A stack, as it is read. -/
theorem stack_open (h : DataW.trod enc Try.prog W base spare held fuel 23 cs = some x) :
    ∃ A c, ∃ xs : List S118, cs = [.slice A xs.length c] ∧ Kd.C k118 W A xs.length xs ∧ xs.length ≤ c ∧ (xs.length = 0 ∨ ∃ el sp, x.1 = .slice el sp ∧ el.length = xs.length) := by
  rcases open_slice Try.underlying23 h with ⟨rfl, rfl⟩ | ⟨a, len, cap, m, n, D, Pl, rfl, _, hlc, hcm, hm, rfl, hel⟩
  · exact ⟨none, 0, [], rfl, Kd.C_nil k118 W, Nat.le_refl _, .inl rfl⟩
  · have hlm : len ≤ m := by rw [hm]; split <;> omega
    have hent : ∀ i, i < len → ∃ s : S118, ∀ j u, [Value.int .i64 s.f0, .int .i64 s.f1, .int .i64 s.f2][j]? = some u → W.cell? (a.add (i * 3 + j)) = some u := by
      intro i hi
      obtain ⟨cs', hc, ht⟩ := hel i (by omega)
      obtain ⟨s, rfl⟩ := entry_open ht
      rw [cT118] at hc
      obtain ⟨_, _, hcell⟩ := World.cells?_some hc
      refine ⟨s, fun j u hu => ?_⟩
      have hj : j < 3 := (List.getElem?_eq_some_iff.1 hu).1
      rw [← Go.Deep.add_add, hcell j hj]
      exact hu
    obtain ⟨f, hf⟩ := choose_lt hent
    have hlen : ((List.range len).map f).length = len := by simp
    refine ⟨some a, cap, (List.range len).map f, by rw [hlen], ?_, by rw [hlen]; exact hlc, .inr ⟨_, _, rfl, by simp⟩⟩
    rw [hlen]
    refine ⟨hlen, by simp only [maxLen] at hcm; omega, fun _ => ⟨a, rfl, fun j p hj => ?_⟩⟩
    have hj1 : j < len := by have := (List.getElem?_eq_some_iff.1 hj).1; simpa using this
    have hp : p = f j := by simpa [hj1] using hj.symm
    subst hp
    exact ⟨_, rfl, k118_mk W (f j), fun i u hu => hf j hj1 i u hu⟩

/-- The acts, as they are read. -/
theorem acts_open (h : DataW.trod enc Try.prog W base spare held fuel 22 cs = some x) : ∃ A n c f, cs = [.slice A n c] ∧ ActsAt W A n f ∧ n ≤ 9223372036854775807 := by
  rcases open_slice Try.underlying22 h with ⟨rfl, rfl⟩ | ⟨a, len, cap, m, n, D, Pl, rfl, _, hlc, hcm, hm, rfl, hel⟩
  · exact ⟨none, 0, 0, fun _ => (0, 0, 0), rfl, fun i hi => absurd hi (Nat.not_lt_zero _), by omega⟩
  · have hlm : len ≤ m := by rw [hm]; split <;> omega
    have hent : ∀ i, i < len → ∃ s : Int × Int × Int, W.cell? (a.add (i * 8 + 1)) = some (.int .i64 s.1) ∧ W.cell? (a.add (i * 8 + 2)) = some (.int .i64 s.2.1) ∧ W.cell? (a.add (i * 8 + 3)) = some (.int .i64 s.2.2) := by
      intro i hi
      obtain ⟨cs', hc, ht⟩ := hel i (by omega)
      rw [cT34] at hc
      obtain ⟨_, hl8, hcell⟩ := World.cells?_some hc
      obtain ⟨y0, y1, y2, y3, n', _, _, _, h1, h2, _⟩ := Go.Joins.trod_struct4 Try.underlying34 ht
      obtain ⟨q0, q1, q2, q3, q4, q5, q6, q7, rfl⟩ := list8 hl8
      simp only [c3, cT32, List.drop, List.take] at h1 h2
      obtain ⟨i1, e1, _⟩ := DataW.trod_int Try.underlying3 h1
      obtain ⟨z0, z1, n2, _, _, g0, g1⟩ := trod_struct2 Try.underlying32 h2
      simp only [c3, List.drop, List.take] at g0 g1
      obtain ⟨i2, e2, _⟩ := DataW.trod_int Try.underlying3 g0
      obtain ⟨i3, e3, _⟩ := DataW.trod_int Try.underlying3 g1
      simp only [List.cons.injEq, and_true] at e1 e2 e3
      refine ⟨(i1, i2, i3), ?_, ?_, ?_⟩
      · rw [← Go.Deep.add_add, hcell 1 (by omega), e1]; rfl
      · rw [← Go.Deep.add_add, hcell 2 (by omega), e2]; rfl
      · rw [← Go.Deep.add_add, hcell 3 (by omega), e3]; rfl
    obtain ⟨f, hf⟩ := choose_lt hent
    refine ⟨some a, len, cap, f, rfl, fun i hi => ⟨a, rfl, ?_⟩, by simp only [maxLen] at hcm; omega⟩
    obtain ⟨f1, f2, f3⟩ := hf i hi
    refine ⟨?_, ?_, ?_⟩
    · rw [← f1]; simp [Addr.add]
    · rw [← f2]; simp [Addr.add]
    · rw [← f3]; simp [Addr.add]

set_option maxRecDepth 100000 in
/-- A packet, as it is read. -/
theorem pkt_open {r : Reach} {b0 : Nat} {v : Value} {d : DataW H} {p : List MemPlace} (hv : Value.okWide Try.prog W r b0 25 v) (h : DataW.Trod enc Try.prog W base spare held 25 v d p) (hz : ∀ n ∈ d.weights Try.prog 25, n ≤ reachBytes) :
    ∃ A c, ∃ q : Pkt, v = .agg #[.slice A q.st.length c, .int .i64 q.tun, .int .i64 q.ttl, .string q.pay] ∧ PktAt W A c q := by
  obtain ⟨v0, v1, v2, v3, y0, y1, y2, y3, n, rfl, rfl, _, h0, h1, h2, h3⟩ := Go.Joins.open_agg4 Try.underlying25 (by kernel_rfl) cT25 hv h
  obtain ⟨A, c, xs, e0, hC, hc, hsz⟩ := stack_open h0
  obtain ⟨tun, e1, _, w1⟩ := DataW.trod_int Try.underlying3 h1
  obtain ⟨ttl, e2, _, _⟩ := DataW.trod_int Try.underlying3 h2
  obtain ⟨pay, e3, x3, _⟩ := DataW.trod_string Try.underlying9 h3
  simp only [List.cons.injEq, and_true] at e0 e1 e2 e3
  subst e0 e1 e2 e3
  have hb : Try.prog.bytesOf 118 = 24 := by kernel_rfl
  have hp : pay.size ≤ reachBytes := by
    have := hz pay.data.toList.length (by simp [DataW.weights, DataW.weightsEach, Try.underlying25, x3])
    simpa using this
  have hl : xs.length ≤ reachBytes := by
    rcases hsz with h | ⟨el, sp, e, hl⟩
    · omega
    · have := hz ((el.length + sp.length) * Try.prog.bytesOf 118) (by simp [DataW.weights, DataW.weightsEach, Try.underlying25, Try.underlying23, e])
      rw [hb] at this
      omega
  have hr : reachBytes = 140737488351232 := rfl
  refine ⟨A, c, ⟨xs, tun, ttl, pay⟩, rfl, hC, hc, by simp only; omega, by simp only; omega, (bounds_i64 w1).1, (bounds_i64 w1).2⟩
end
end Go.Proofs.Ytmnpmjphhkiedaa.LF
