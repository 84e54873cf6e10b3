import Derived.Test.YtmnpmjphhkiedaaT3
namespace Go.Proofs.Ytmnpmjphhkiedaa.LF
open Go.RowKit Go.Proofs.YtmnpmjphhkiedaaW.PrintWords Go.Proofs.YtmnpmjphhkiedaaW.PrintLast Go.Proofs.YtmnpmjphhkiedaaW.PrintMore Go.Proofs.Ytmnpmjphhkiedaa.PLfibActs Go.Proofs.Ytmnpmjphhkiedaa.Lib

/-- A row's cells; rows' cells. -/
def c95 (r : S95) : List Value := [.int .i64 r.f0, .int .i64 r.f1.f0, .int .i64 r.f1.f1]
def cells95 (L : List S95) : List Value := L.flatMap c95
theorem cells95_length (L : List S95) : (cells95 L).length = L.length * 3 := by
  induction L with
  | nil => rfl
  | cons r L ih => simp only [cells95, List.flatMap_cons, List.length_append] at ih ⊢; rw [ih]; simp [c95]; omega
theorem cells95_take (L : List S95) (i : Nat) : (cells95 L).take (i * 3) = cells95 (L.take i) := by
  induction L generalizing i with
  | nil => simp [cells95]
  | cons r L ih =>
    cases i with
    | zero => simp [cells95]
    | succ i =>
      have := ih i
      simp only [cells95, List.flatMap_cons, List.take_succ_cons] at this ⊢
      rw [show (i + 1) * 3 = (c95 r).length + i * 3 by simp [c95]; omega, List.take_length_add_append, this]
theorem cells95_drop (L : List S95) (i : Nat) : (cells95 L).drop (i * 3) = cells95 (L.drop i) := by
  induction L generalizing i with
  | nil => simp [cells95]
  | cons r L ih =>
    cases i with
    | zero => simp
    | succ i =>
      have := ih i
      simp only [cells95, List.flatMap_cons, List.drop_succ_cons] at this ⊢
      rw [show (i + 1) * 3 = (c95 r).length + i * 3 by simp [c95]; omega, List.drop_length_add_append, this]
theorem cells95_one (L : List S95) : ∀ u ∈ cells95 L, u.oneCell' = true := by
  intro u hu
  simp only [cells95, List.mem_flatMap, c95] at hu
  obtain ⟨r, _, hu⟩ := hu
  simp at hu
  rcases hu with rfl | rfl | rfl <;> rfl
theorem cells95_get (L : List S95) (i j : Nat) (hi : i < L.length) (hj : j < 3) : (cells95 L)[i * 3 + j]? = (c95 L[i])[j]? := by
  have h1 : (cells95 L).drop (i * 3) = cells95 (L.drop i) := cells95_drop L i
  have h2 : (cells95 L)[i * 3 + j]? = ((cells95 L).drop (i * 3))[j]? := by rw [List.getElem?_drop]
  rw [h2, h1, List.drop_eq_getElem_cons hi]
  simp only [cells95, List.flatMap_cons]
  rw [List.getElem?_append_left (by simp [c95]; omega)]

theorem row_get {cur : Array Value} {L : List S95} (htk : cur.toList.take (L.length * 3) = cells95 L) {q : Nat} (hq : q < L.length) (j : Nat) (hj : j < 3) : cur[q * 3 + j]? = (c95 (r95 L q))[j]? := by
  have h := cells95_get L q j hq hj
  rw [← htk, List.getElem?_take, if_pos (by omega), Array.getElem?_toList] at h
  rw [h]; simp [r95, hq]

/-- The rows of a table, owned. -/
def Own (w : World) (v : Value) (L : List S95) : Prop := w.ownsRow 0 95 3 v L.length (cells95 L)
theorem Own.read {w : World} {v : Value} {L : List S95} (h : Own w v L) : ∃ A c, v = .slice A L.length c ∧ L.length ≤ c ∧ c ≤ maxLen ∧ Kd.C k95 w A L.length L := by
  have hl := h.1
  rcases h.2 with ⟨rfl, h0⟩ | ⟨g, cap, cur, rfl, _, hg, hnc, hcm, hcs, htk⟩
  · have : L = [] := List.eq_nil_of_length_eq_zero h0
    subst this
    exact ⟨none, 0, rfl, Nat.le_refl _, by simp [maxLen], Kd.C_nil k95 w⟩
  · refine ⟨_, cap, rfl, hnc, hcm, ⟨rfl, by simp only [maxLen] at hcm; omega, fun _ => ⟨_, rfl, fun j p hj => ?_⟩⟩⟩
    obtain ⟨hj1, hj2⟩ := List.getElem?_eq_some_iff.1 hj
    refine ⟨c95 p, rfl, k95_mk w p, fun i u hu => ?_⟩
    have hi : i < 3 := by have := (List.getElem?_eq_some_iff.1 hu).1; simpa [c95] using this
    rw [Addr.add_lit, Nat.zero_add, blk_cell hg]
    have := cells95_get L j i hj1 hi
    rw [hj2, hu, ← htk, List.getElem?_take] at this
    have hsz : k95.sz = 3 := rfl
    rw [hsz]
    split at this
    · simpa using this
    · cases this
theorem Own.kept {S : Nat → Prop} {a b : World} (h : Chg S a b) {v : Value} {L : List S95} (ho : Own a v L) (hn : ∀ k, v.ownBlock = some k → ¬ S k) : Own b v L := own_kept h ho hn
theorem Own.lt {w : World} {v : Value} {L : List S95} (h : Own w v L) {k : Nat} (hk : v.ownBlock = some k) : k < w.heap.size := (World.ownsRow.lt h k hk).2
theorem Own.ne {w : World} {v : Value} {L : List S95} (h : Own w v L) {g t : Nat} {cs : Array Value} (hb : w.heap[g]? = some (.cells cs t (0, 0))) (ht : t ≠ 95) : v.ownBlock ≠ some g := by
  intro hk
  obtain ⟨cells, hc⟩ := own_typed h g hk
  rw [hb] at hc
  injection hc with hc
  injection hc with _ hc
  exact ht hc

theorem cells95_set (L : List S95) (q : Nat) (hq : q < L.length) (x : S95) (hx : x.f0 = (r95 L q).f0) : ((cells95 L).set (q * 3 + 1) (.int .i64 x.f1.f0)).set (q * 3 + 2) (.int .i64 x.f1.f1) = cells95 (L.set q x) := by
  induction L generalizing q with
  | nil => simp at hq
  | cons y ys ih =>
    cases q with
    | zero =>
      simp only [r95, List.getD_cons_zero] at hx
      simp [cells95, c95, hx]
    | succ q =>
      have := ih q (by simpa using hq) (by simpa [r95] using hx)
      simp only [cells95, List.flatMap_cons, List.set_cons_succ] at this ⊢
      rw [← this]
      have e1 : (q + 1) * 3 + 1 = (c95 y).length + (q * 3 + 1) := by simp [c95]; omega
      have e2 : (q + 1) * 3 + 2 = (c95 y).length + (q * 3 + 2) := by simp [c95]; omega
      rw [e1, e2, List.set_append_right _ _ (by omega), Nat.add_sub_cancel_left, List.set_append_right _ _ (by omega), Nat.add_sub_cancel_left]

/-- Rows with one more, or in the place of that of its number. -/
def insR : List S95 → S95 → List S95
  | [], x => [x]
  | y :: ys, x => if y.f0 < x.f0 then y :: insR ys x else if y.f0 = x.f0 then x :: ys else x :: y :: ys
theorem insR_at (L : List S95) (x : S95) (p : Nat) (hp : p ≤ L.length) (h1 : ∀ j, j < p → (r95 L j).f0 < x.f0) (h2 : p < L.length → x.f0 < (r95 L p).f0) : insR L x = L.take p ++ x :: L.drop p := by
  induction L generalizing p with
  | nil => simp [insR]
  | cons y ys ih =>
    cases p with
    | zero =>
      have := h2 (by simp)
      simp only [r95, List.getD_cons_zero] at this
      simp only [insR, List.take_zero, List.drop_zero, List.nil_append]
      rw [if_neg (by omega), if_neg (by omega)]
    | succ p =>
      have h0 := h1 0 (by omega)
      simp only [r95, List.getD_cons_zero] at h0
      simp only [insR, if_pos h0, List.take_succ_cons, List.drop_succ_cons, List.cons_append]
      rw [ih p (by simpa using hp) (fun j hj => by simpa [r95] using h1 (j + 1) (by omega)) (fun h => by simpa [r95] using h2 (by simpa using h))]
theorem insR_set (L : List S95) (x : S95) (p : Nat) (hp : p < L.length) (h1 : ∀ j, j < p → (r95 L j).f0 < x.f0) (h2 : (r95 L p).f0 = x.f0) : insR L x = L.set p x := by
  induction L generalizing p with
  | nil => simp at hp
  | cons y ys ih =>
    cases p with
    | zero =>
      simp only [r95, List.getD_cons_zero] at h2
      simp only [insR, List.set_cons_zero]
      rw [if_neg (by omega), if_pos h2]
    | succ p =>
      have h0 := h1 0 (by omega)
      simp only [r95, List.getD_cons_zero] at h0
      simp only [insR, if_pos h0, List.set_cons_succ]
      rw [ih p (by simpa using hp) (fun j hj => by simpa [r95] using h1 (j + 1) (by omega)) (by simpa [r95] using h2)]

/-- What put makes of rows, and answers. -/
def putL (L : List S95) (most : Int) (x : S95) : List S95 × Int :=
  if (lk L x.f0).isSome then (insR L x, 0) else if most ≤ L.length then (L, 7) else (insR L x, 0)

theorem putL_yes {L : List S95} {x : S95} {q : Nat} {most : Int} (hg : Good L) (h : Srch L x.f0 q true) : putL L most x = (L.set q x, 0) := by
  obtain ⟨hq, hl⟩ := lk_yes hg h
  unfold putL
  rw [hl]
  obtain ⟨hp, ht⟩ := h.2.1.1 rfl
  have hb := hg.2.1 q hp
  simp only [Option.isSome_some, if_true]
  rw [insR_set L x q hq (fun j hj => (h.2.2 (by omega) (by omega)).1 j hj) ht]
theorem putL_no {L : List S95} {x : S95} {q : Nat} {most : Int} (hg : Good L) (h : Srch L x.f0 q false) (k1 : 0 ≤ x.f0) (k2 : x.f0 ≤ 2000000) : putL L most x = if most ≤ L.length then (L, 7) else (L.take q ++ x :: L.drop q, 0) := by
  unfold putL
  rw [lk_no hg h]
  obtain ⟨a, b⟩ := h.2.2 k1 k2
  have hns := h.2.1
  simp only [Option.isSome_none]
  rw [insR_at L x q h.1 a (fun hp => by
    have := b q (Nat.le_refl _) hp
    rcases Int.lt_or_eq_of_le this with h' | h'
    · exact h'
    · exact absurd (hns.2 ⟨hp, h'.symm⟩) (by simp))]
  rfl
theorem set_same {cs : Array Value} {o : Nat} {v : Value} (h : cs[o]? = some v) : cs.setIfInBounds o v = cs := by
  obtain ⟨h1, h2⟩ := Array.getElem?_eq_some_iff.1 h
  apply Array.ext
  · simp
  · intro i a b
    rw [Array.getElem_setIfInBounds]
    split
    · subst h2; simp_all
    · rfl

theorem insert_at {w : World} {v : Value} {L : List S95} (ho : Own w v L) (q : Nat) (x : S95) (hq : q ≤ L.length) (h64 : L.length ≤ 64) {w' : World} (hw : Below w.heap.size w w') (vb vc : Nat) (hvb : w'.heap[vb]? = some (.cells #[.int .i64 x.f0, .int .i64 x.f1.f0, .int .i64 x.f1.f1] 95 (0, 0))) (hvw : w.heap.size ≤ vb) :
    Calls Try.prog 95 #[v, .int .i64 q, .slice (some ⟨vb, 0, none⟩) 1 vc] w' (InsPost v (cells95 (L.take q ++ x :: L.drop q)) L.length w') := by
  have e : cells95 (L.take q ++ x :: L.drop q) = (cells95 L).take (q * 3) ++ c95 x ++ (cells95 L).drop (q * 3) := by
    rw [cells95_take, cells95_drop]; simp [cells95]
  rw [e]
  exact insert_any v L.length q vb vc (cells95 L) (c95 x) w' (own_kept (S := fun _ => False) (.of_below hw) ho (fun _ _ h => h)) (cells95_one L) hq h64 rfl hvb (fun h => by have := ho.lt h; omega) (fun u hu => cells95_one [x] u (by simpa [cells95] using hu))

theorem own_slice {w : World} {b e k n : Nat} {v : Value} {xs : List Value} (h : w.ownsRow b e k v n xs) : ∃ A c, v = .slice A n c := by
  rcases h.2 with ⟨h1, h0⟩ | ⟨g, cap, cur, h1, _⟩
  · exact ⟨none, 0, by rw [h1, h0]⟩
  · exact ⟨_, _, h1⟩

/-- What put leaves: the struct's block is T with cells cs, the slice at o. -/
def PutPost (tb o T : Nat) (cs : Array Value) (v : Value) (L : List S95) (most : Int) (x : S95) (w : World) (e : Ending) (w' : World) : Prop :=
  ∃ v', e = .returned (.int .i64 (putL L most x).2) ∧ w'.heap[tb]? = some (.cells (cs.setIfInBounds o v') T (0, 0)) ∧ Own w' v' (putL L most x).1 ∧
    Chg (fun b => b = tb ∨ v.ownBlock = some b) w w' ∧ (v'.ownBlock = v.ownBlock ∨ ∃ g, v'.ownBlock = some g ∧ w.heap.size ≤ g)

set_option maxRecDepth 100000 in
set_option maxHeartbeats 1000000 in
theorem put_any (tb o T : Nat) (cs : Array Value) (v : Value) (L : List S95) (most : Int) (x : S95) (w : World) (hb : w.heap[tb]? = some (.cells cs T (0, 0))) (hT : T ≠ 95) (hv : cs[o]? = some v) (hm : cs[o + 1]? = some (.int .i64 most)) (ho : Own w v L) (hg : Good L) (h64 : most ≤ 64) (k1 : 0 ≤ x.f0) (k2 : x.f0 ≤ 2000000) :
    Calls Try.prog 59 #[.pointer (some ⟨tb, o, none⟩), .int .i64 x.f0, .agg #[.int .i64 x.f1.f0, .int .i64 x.f1.f1]] w (PutPost tb o T cs v L most x w) := by
  obtain ⟨A, c, rfl, hlc, hcm, hr⟩ := ho.read
  obtain ⟨w0, hw0⟩ : ∃ w0, w0 = w.alloc (.cells #[.int .i64 x.f1.f0, .int .i64 x.f1.f1] 32) := ⟨_, rfl⟩
  have hb0 : Below w.heap.size w w0 := by rw [hw0]; exact (Below.refl _ _).alloc (Nat.le_refl _) _
  have HR := Aside0.mk (Kd.C_below hr hb0)
  have HB := Aside0.mk (blk_below hb hb0)
  have hp : w0.cell? ⟨tb, o, none⟩ = some (.slice A L.length c) := (blk_cell HB.out o).trans hv
  have HBX : Aside0 (w0.heap[w.heap.size]? = some (.cells #[.int .i64 x.f1.f0, .int .i64 x.f1.f1] 32 (0, 0))) := ⟨by rw [hw0]; exact blk_new w _⟩
  have HG := Aside0.mk hg; have HO := Aside0.mk ho; have HW0 := Aside0.mk hw0; have HV := Aside0.mk hv; have HM := Aside0.mk hm; have HB0 := Aside0.mk hb0; have HP := Aside0.mk hp
  clear hr hb hg ho hv hm hb0 hp
  go_enter Try.func59, Try.ntmps59
  go_wp2_with fail
  rw [← hw0]
  refine (find_any _ _ _ _ _ _ HP.out HR.out HG.out (by omega) (by omega)).mono ?_
  rintro e w1 ⟨q, y, rfl, hs, hb⟩
  have HS := Aside0.mk hs
  have HBe := Aside0.mk hb
  have HT := Aside0.mk (blk_below HB.out hb)
  have c0 := (blk_cell HT.out o).trans HV.out
  have c1 := (blk_cell HT.out (o + 1)).trans HM.out
  have HX := Aside0.mk (blk_below HBX.out hb)
  have x0 : w1.cell? ⟨w.heap.size, 0, none⟩ = some (.int .i64 x.f1.f0) := (blk_cell HX.out 0).trans rfl
  have x1 : w1.cell? ⟨w.heap.size, 1, none⟩ = some (.int .i64 x.f1.f1) := (blk_cell HX.out 1).trans rfl
  clear hs hb hw0
  cases y with
  | true =>
    obtain ⟨hq, hl⟩ := lk_yes HG.out HS.out
    have HL := Aside0.mk hl
    clear hl
    obtain ⟨g, cap, cur, hA, hgb, hnc, hcs, htk⟩ : ∃ g cap cur, Value.slice A L.length c = .slice (some ⟨g, 0, none⟩) L.length cap ∧ w.heap[g]? = some (.cells cur 95 (0, 0)) ∧ L.length ≤ cap ∧ cur.size = cap * 3 ∧ cur.toList.take (L.length * 3) = cells95 L := by
      rcases HO.out.2 with ⟨_, h0⟩ | ⟨g, cap, cur, h, _, h2, h3, _, h4, h5⟩
      · omega
      · exact ⟨g, cap, cur, h, h2, h3, h4, h5⟩
    injection hA with hA1 _ hA2
    subst hA1 hA2
    have HG1 := Aside0.mk (blk_below (blk_below hgb HB0.out) HBe.out)
    have hgx : g ≠ w.heap.size := by have := blk_lt hgb; omega
    have hgT : g ≠ tb := blk_ne (blk_below hgb HB0.out) HB.out (fun e => hT e.symm)
    clear hgb
    have r0 : w1.cell? ⟨g, q * 3 + 1, none⟩ = some (.int .i64 (r95 L q).f1.f0) := by rw [blk_cell HG1.out]; exact row_get htk hq 1 (by omega)
    have r1 : w1.cell? ⟨g, q * 3 + 2, none⟩ = some (.int .i64 (r95 L q).f1.f1) := by rw [blk_cell HG1.out]; exact row_get htk hq 2 (by omega)
    have z0 := blk_frozen HG1.out (q * 3 + 1)
    have z1 := blk_frozen HG1.out (q * 3 + 2)
    go_wp2_with fail
    go_region
    all_goals go_wp2
    go_ret
    have HPL := putL_yes (most := most) HG.out HS.out
    have hts := HS.out.2.1.1 rfl
    refine ⟨.slice (some ⟨g, 0, none⟩) L.length c, by rw [HPL]; rfl, ?_, ?_, ?_, .inl rfl⟩
    · rw [set_same HV.out]
      exact (Below.heap_setCell _ _ _ _ (fun e => hgT e.symm)).trans ((Below.heap_setCell _ _ _ _ (fun e => hgT e.symm)).trans HT.out)
    · rw [HPL]
      have hb2 := blk_set (blk_set HG1.out (q * 3 + 1) (.int .i64 x.f1.f0)) (q * 3 + 1 + 1) (.int .i64 x.f1.f1)
      have hll : (L.set q x).length = L.length := List.length_set
      show World.ownsRow _ 0 95 3 _ (L.set q x).length (cells95 (L.set q x))
      rw [hll]
      refine ⟨by rw [cells95_length, hll], .inr ⟨g, c, _, rfl, Nat.zero_le _, hb2, hnc, hcm, by simpa using hcs, ?_⟩⟩
      rw [← cells95_set L q hq x hts.2.symm, ← htk]
      simp only [Array.toList_setIfInBounds, List.take_set]
    · refine Chg.drew (Chg.setCell (Chg.setCell (.of_below (below_step HB0.out HBe.out)) (.inl (.inr ?_)) _) (.inl (.inr ?_)) _) <;> rfl
  | false =>
    have hlq := HS.out.1
    have HPL := Aside0.mk (putL_no (most := most) HG.out HS.out k1 k2)
    go_wp2_with fail
    go_quiet (fail)
    obtain ⟨w2, hw2⟩ : ∃ w2, w2 = w1.drewN nq := ⟨_, rfl⟩
    rw [← hw2]
    have d0 : w2.cell? ⟨tb, o, none⟩ = some (.slice A L.length c) := by rw [hw2]; exact c0
    have HT2 : Aside0 (w2.heap[tb]? = some (.cells cs T (0, 0))) := ⟨by rw [hw2]; exact HT.out⟩
    have HX2 : Aside0 (w2.heap[w.heap.size]? = some (.cells #[.int .i64 x.f1.f0, .int .i64 x.f1.f1] 32 (0, 0))) := ⟨by rw [hw2]; exact HX.out⟩
    have y0 : w2.cell? ⟨w.heap.size, 0, none⟩ = some (.int .i64 x.f1.f0) := by rw [hw2]; exact x0
    have y1 : w2.cell? ⟨w.heap.size, 1, none⟩ = some (.int .i64 x.f1.f1) := by rw [hw2]; exact x1
    have HB2 : Aside0 (Below w.heap.size w w2) := ⟨by rw [hw2]; exact pw_below_drewN (below_step HB0.out HBe.out) nq⟩
    have HO2 : Aside0 (Own w2 (.slice A L.length c) L) := ⟨HO.out.kept (S := fun _ => False) (.of_below HB2.out) (fun _ _ h => h)⟩
    have fz := blk_frozen HT2.out o
    have hne : (Value.slice A L.length c).ownBlock ≠ some tb := HO2.out.ne HT2.out hT
    have HNE := Aside0.mk hne
    have HNX := Aside0.mk (HO2.out.ne HX2.out (by omega))
    have htl := blk_lt HT2.out
    have hwl := World.block_lt_of_cell? w2 _ y0
    clear hw2 c0 c1 x0 x1 hne
    by_cases hf : most ≤ (L.length : Int)
    · have HP2 := HPL.out
      rw [if_pos hf] at HP2
      have HP3 := Aside0.mk HP2
      clear HP2
      go_wp2
      go_ret
      exact ⟨.slice A L.length c, by rw [HP3.out]; rfl, by rw [set_same HV.out]; exact HT2.out, by rw [HP3.out]; exact HO2.out, .of_below HB2.out, .inl rfl⟩
    · have HP2 := HPL.out
      rw [if_neg hf] at HP2
      have HP3 := Aside0.mk HP2
      clear HP2
      have h64' : L.length ≤ 64 := by omega
      have HWB : Aside0 (Below w2.heap.size w2 (w2.alloc (.cells #[.int .i64 x.f0, .int .i64 x.f1.f0, .int .i64 x.f1.f1] 95)).drew) := ⟨((Below.refl _ _).alloc (Nat.le_refl _) _).drew⟩
      have HVB : Aside0 ((w2.alloc (.cells #[.int .i64 x.f0, .int .i64 x.f1.f0, .int .i64 x.f1.f1] 95)).drew.heap[w2.heap.size]? = some (.cells #[.int .i64 x.f0, .int .i64 x.f1.f0, .int .i64 x.f1.f1] 95 (0, 0))) := ⟨blk_new w2 _⟩
      go_wp2_with fail
      go_region_law (go_simp; go_at_call 95; refine (insert_at HO2.out q x hlq h64' HWB.out w2.heap.size _ HVB.out (Nat.le_refl _)).mono ?_; rintro e w3 ⟨v', rfl, hown, hgr, hat⟩; obtain ⟨A', c', rfl⟩ := own_slice hown; have HNW := Aside0.mk hown; have HGR := Aside0.mk hgr; have HAT := Aside0.mk hat; have HB3 := Aside0.mk (blk_grown (blk_below HT2.out HWB.out) hgr (Ne.symm HNE.out)); have k0 := (blk_cell HB3.out o).trans HV.out; have fz3 := blk_frozen HB3.out o; have HX3 := Aside0.mk (blk_grown (blk_below HX2.out HWB.out) HGR.out (Ne.symm HNX.out)); have k1 := (blk_cell HX3.out 0).trans rfl; have k2 := (blk_cell HX3.out 1).trans rfl; clear hown hgr hat)
      all_goals
        go_wp2
        go_ret
        have hst := blk_set HB3.out o (.slice A' (L.length + 1) c')
        have hown' : Own w3 (.slice A' (L.length + 1) c') (L.take q ++ x :: L.drop q) := by
          have := HNW.out
          have hl : (L.take q ++ x :: L.drop q).length = L.length + 1 := by simp; omega
          unfold Own
          rw [hl]
          exact this
        have hch : Chg (fun b => b = tb ∨ (Value.slice A L.length c).ownBlock = some b) w w3 := .then (.of_below HB2.out) (.then (.of_below HWB.out) (.of_grown HGR.out (fun k hk => .inr hk)) (fun k hk => .inl hk)) (fun k hk => .inl hk)
        refine ⟨.slice A' (L.length + 1) c', by rw [HP3.out]; rfl, hst, ?_, hch.setCell (.inl (.inl rfl)) _, HAT.out.imp_right fun ⟨g, h1, h2⟩ => ⟨g, h1, Nat.le_trans (Nat.le_trans HB2.out.size HWB.out.size) h2⟩⟩
        rw [HP3.out]
        refine hown'.kept (S := fun b => b = tb) (Chg.setCell (S := fun b => b = tb) (p := ⟨tb, o, none⟩) (.refl _ _) (.inl rfl) _) (fun k hk e => ?_)
        subst e
        exact hown'.ne HB3.out hT hk
end Go.Proofs.Ytmnpmjphhkiedaa.LF
