import Derived.Test.YtmnpmjphhkiedaaT18
namespace Go.Proofs.Ytmnpmjphhkiedaa.LF
open Go.RowKit Go.Proofs.YtmnpmjphhkiedaaW.PrintWords Go.Proofs.YtmnpmjphhkiedaaW.PrintLast Go.Proofs.YtmnpmjphhkiedaaW.PrintMore Go.Proofs.Ytmnpmjphhkiedaa.PLfibActs Go.Proofs.Ytmnpmjphhkiedaa.Lib

/-- How many rows have a number. -/
def cnt (L : List S95) (t : Int) : Nat := (L.filter (fun r => decide (r.f0 = t))).length
theorem cnt_take (L : List S95) (t : Int) (k : Nat) (hk : k < L.length) : cnt (L.take (k + 1)) t = cnt (L.take k) t + if (r95 L k).f0 = t then 1 else 0 := by
  have e : r95 L k = L[k] := by simp [r95, hk]
  rw [List.take_add_one, List.getElem?_eq_getElem hk, e]
  unfold cnt
  rw [List.filter_append, List.length_append]
  by_cases h : L[k].f0 = t <;> simp [h]
theorem delR_take (L : List S95) (t : Int) (k : Nat) (hk : k < L.length) : (delR (L.take (k + 1)) t).length = (delR (L.take k) t).length + if (r95 L k).f0 = t then 0 else 1 := by
  have e : r95 L k = L[k] := by simp [r95, hk]
  rw [List.take_add_one, List.getElem?_eq_getElem hk, e]
  unfold delR
  rw [List.filter_append, List.length_append]
  by_cases h : L[k].f0 = t <;> simp [h]

theorem ins_mem {L : List S95} (h : L.Pairwise (fun a b => a.f0 < b.f0)) (x r : S95) : r ∈ insR L x → r = x ∨ (r ∈ L ∧ r.f0 ≠ x.f0) := by
  induction L with
  | nil => simp [insR]
  | cons y ys ih =>
    obtain ⟨h1, h2⟩ := List.pairwise_cons.1 h
    intro hr
    unfold insR at hr
    split at hr
    · rcases List.mem_cons.1 hr with rfl | hr
      · exact .inr ⟨by simp, by omega⟩
      · rcases ih h2 hr with h' | ⟨h', h''⟩
        · exact .inl h'
        · exact .inr ⟨by simp [h'], h''⟩
    · split at hr
      · rcases List.mem_cons.1 hr with rfl | hr
        · exact .inl rfl
        · exact .inr ⟨by simp [hr], by have := h1 r hr; omega⟩
      · rcases List.mem_cons.1 hr with rfl | hr
        · exact .inl rfl
        · refine .inr ⟨hr, ?_⟩
          rcases List.mem_cons.1 hr with rfl | hr
          · omega
          · have := h1 r hr; omega
theorem ins_del {L : List S95} (h : L.Pairwise (fun a b => a.f0 < b.f0)) (x : S95) : delR (insR L x) x.f0 = delR L x.f0 := by
  induction L with
  | nil => simp [insR, delR]
  | cons y ys ih =>
    obtain ⟨h1, h2⟩ := List.pairwise_cons.1 h
    have ih := ih h2
    unfold delR at ih
    unfold insR
    split
    · have hy : ¬ y.f0 = x.f0 := by omega
      simp [delR, hy]
      simpa using ih
    · split
      · rename_i hy
        simp [delR, hy]
      · simp [delR]
theorem cnt_none {L : List S95} {t : Int} (h : ∀ r ∈ L, r.f0 ≠ t) : cnt L t = 0 := by
  unfold cnt
  rw [List.length_eq_zero_iff, List.filter_eq_nil_iff]
  intro r hr
  simpa using h r hr
theorem ins_cnt {L : List S95} (h : L.Pairwise (fun a b => a.f0 < b.f0)) (x : S95) : cnt (insR L x) x.f0 = 1 := by
  induction L with
  | nil => simp [insR, cnt]
  | cons y ys ih =>
    obtain ⟨h1, h2⟩ := List.pairwise_cons.1 h
    have ih := ih h2
    unfold cnt at ih
    unfold insR
    split
    · have hy : ¬ y.f0 = x.f0 := by omega
      simp [cnt, hy, ih]
    · split
      · rename_i hy
        have := cnt_none (L := ys) (t := x.f0) (fun r hr => by have := h1 r hr; omega)
        unfold cnt at this
        simp [cnt]
        simpa using this
      · have := cnt_none (L := y :: ys) (t := x.f0) (fun r hr => by
          rcases List.mem_cons.1 hr with rfl | hr
          · omega
          · have := h1 r hr; omega)
        unfold cnt at this
        rw [show (x :: y :: ys) = [x] ++ (y :: ys) from rfl]
        unfold cnt
        rw [List.filter_append, List.length_append, this]
        simp

/-- What a Bind comes to. -/
theorem bind_cases (L : List S95) (most label n l : Int) : (∃ c, c ≠ 0 ∧ bindL L most label n l = (L, c)) ∨ (bindL L most label n l = (insR L ⟨label, ⟨n, l⟩⟩, 0) ∧ 16 ≤ label ∧ label ≤ 1048575) := by
  unfold bindL
  split
  · rename_i hb
    have hb1 : 16 ≤ label ∧ label ≤ 1048575 := by simp [bindable] at hb; omega
    unfold putL
    split
    · exact .inr ⟨rfl, hb1⟩
    · split
      · exact .inl ⟨7, by omega, rfl⟩
      · exact .inr ⟨rfl, hb1⟩
  · exact .inl ⟨2, by omega, rfl⟩
end Go.Proofs.Ytmnpmjphhkiedaa.LF
