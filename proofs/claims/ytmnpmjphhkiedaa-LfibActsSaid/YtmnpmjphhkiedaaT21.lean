import Derived.Test.YtmnpmjphhkiedaaT13
namespace Go.Proofs.Ytmnpmjphhkiedaa.LF
open Go.RowKit Go.ChangeShapes Go.WideShapes Go.Deep Go.Proofs.YtmnpmjphhkiedaaW.PrintWords Go.Proofs.YtmnpmjphhkiedaaW.PrintLast Go.Proofs.YtmnpmjphhkiedaaW.PrintMore Go.Proofs.Ytmnpmjphhkiedaa.PLfibActs Go.Proofs.Ytmnpmjphhkiedaa.Lib
section
variable {H : Type} {enc : TypeId × Value → H} {W : World} {base : Nat} {spare : Nat → Bool} {held : Bool} {fuel : Nat} {cs : List Value} {x : DataW H × List MemPlace}

theorem c9 : Try.prog.cellsOf 9 = 1 := by kernel_rfl
theorem c5 : Try.prog.cellsOf 5 = 1 := by kernel_rfl
theorem c23 : Try.prog.cellsOf 23 = 1 := by kernel_rfl
theorem list4 {cs : List Value} (h : cs.length = 4) : ∃ a b c d, cs = [a, b, c, d] := by
  match cs, h with
  | [a, b, c, d], _ => exact ⟨a, b, c, d, rfl⟩

set_option maxRecDepth 100000 in
/-- A packet's cells, as they are read. -/
theorem pkt_cells (h : DataW.trod enc Try.prog W base spare held fuel 25 cs = some x) (hz : ∀ n ∈ x.1.weights Try.prog 25, n ≤ reachBytes) :
    ∃ A c, ∃ q : Pkt, cs = [.slice A q.st.length c, .int .i64 q.tun, .int .i64 q.ttl, .string q.pay] ∧ PktAt W A c q := by
  obtain ⟨y0, y1, y2, y3, n, rfl, hl, h0, h1, h2, h3⟩ := Go.Joins.trod_struct4 Try.underlying25 h
  rw [cT25] at hl
  obtain ⟨v0, v1, v2, v3, rfl⟩ := list4 hl
  simp only [c3, c9, c23, List.drop, List.take] at h0 h1 h2 h3
  obtain ⟨A, c, xs, e0, hC, hc, hsz⟩ := stack_open h0
  obtain ⟨tun, e1, _, w1⟩ := DataW.trod_int Try.underlying3 h1
  obtain ⟨ttl, e2, _, _⟩ := DataW.trod_int Try.underlying3 h2
  obtain ⟨pay, e3, x3, _⟩ := DataW.trod_string Try.underlying9 h3
  simp only [List.cons.injEq, and_true] at e0 e1 e2 e3
  subst e0 e1 e2 e3
  have hb : Try.prog.bytesOf 118 = 24 := by kernel_rfl
  have hp : pay.size ≤ reachBytes := by
    have := hz pay.data.toList.length (by simp [DataW.weights, DataW.weightsEach, Try.underlying25, x3])
    simpa using this
  have hl : xs.length ≤ reachBytes := by
    rcases hsz with h | ⟨el, sp, e, hl⟩
    · omega
    · have := hz ((el.length + sp.length) * Try.prog.bytesOf 118) (by simp [DataW.weights, DataW.weightsEach, Try.underlying25, Try.underlying23, e])
      rw [hb] at this
      omega
  have hr : reachBytes = 140737488351232 := rfl
  exact ⟨A, c, ⟨xs, tun, ttl, pay⟩, rfl, hC, hc, by simp only; omega, by simp only; omega, (bounds_i64 w1).1, (bounds_i64 w1).2⟩

set_option maxRecDepth 100000 in
/-- An act's cells, as they are read. -/
theorem act_cells (h : DataW.trod enc Try.prog W base spare held fuel 34 cs = some x) (hz : ∀ n ∈ x.1.weights Try.prog 34, n ≤ reachBytes) :
    ∃ kd lb nx ll A c, ∃ q : Pkt, cs = [.int .u8 kd, .int .i64 lb, .int .i64 nx, .int .i64 ll, .slice A q.st.length c, .int .i64 q.tun, .int .i64 q.ttl, .string q.pay] ∧ PktAt W A c q ∧
      (0 ≤ kd ∧ kd ≤ 255) ∧ (-9223372036854775808 ≤ lb ∧ lb ≤ 9223372036854775807) := by
  obtain ⟨y0, y1, y2, y3, n, rfl, hl, h0, h1, h2, h3⟩ := Go.Joins.trod_struct4 Try.underlying34 h
  rw [cT34] at hl
  obtain ⟨v0, v1, v2, v3, v4, v5, v6, v7, rfl⟩ := list8 hl
  simp only [c3, c5, cT32, cT25, List.drop, List.take] at h0 h1 h2 h3
  obtain ⟨kd, e0, _, wk⟩ := DataW.trod_int Try.underlying5 h0
  obtain ⟨lb, e1, _, w1⟩ := DataW.trod_int Try.underlying3 h1
  obtain ⟨z0, z1, n2, _, _, g0, g1⟩ := trod_struct2 Try.underlying32 h2
  simp only [c3, List.drop, List.take] at g0 g1
  obtain ⟨nx, e2, _⟩ := DataW.trod_int Try.underlying3 g0
  obtain ⟨ll, e3, _⟩ := DataW.trod_int Try.underlying3 g1
  obtain ⟨A, c, q, e4, hq⟩ := pkt_cells h3 (fun n hn => hz n (by simp only [DataW.weights, Try.underlying34, List.map]; simp [DataW.weightsEach, hn]))
  simp only [List.cons.injEq, and_true] at e0 e1 e2 e3 e4
  obtain ⟨e4, e5, e6, e7⟩ := e4
  subst e0 e1 e2 e3 e4 e5 e6 e7
  exact ⟨kd, lb, nx, ll, A, c, q, rfl, hq, bounds_u8 wk, bounds_i64 w1⟩

set_option maxRecDepth 100000 in
theorem act_open {r : Reach} {b0 : Nat} {v : Value} {d : DataW H} {p : List MemPlace} (hv : Value.okWide Try.prog W r b0 34 v) (h : DataW.Trod enc Try.prog W base spare held 34 v d p) (hz : ∀ n ∈ d.weights Try.prog 34, n ≤ reachBytes) :
    ∃ kd lb nx ll A c, ∃ q : Pkt, v = .agg #[.int .u8 kd, .int .i64 lb, .int .i64 nx, .int .i64 ll, .slice A q.st.length c, .int .i64 q.tun, .int .i64 q.ttl, .string q.pay] ∧ PktAt W A c q ∧
      (0 ≤ kd ∧ kd ≤ 255) ∧ (-9223372036854775808 ≤ lb ∧ lb ≤ 9223372036854775807) := by
  obtain ⟨cs, rfl, hsz⟩ := okWide_struct Try.underlying34 hv
  obtain ⟨fuel, hf⟩ := h
  have hf' : DataW.trod enc Try.prog W base spare held fuel 34 cs.toList = some (d, p) := by simpa [Value.cells] using hf
  obtain ⟨kd, lb, nx, ll, A, c, q, e, hr⟩ := act_cells hf' hz
  refine ⟨kd, lb, nx, ll, A, c, q, ?_, hr⟩
  congr 1
  exact Array.toList_inj.1 e
end
end Go.Proofs.Ytmnpmjphhkiedaa.LF
