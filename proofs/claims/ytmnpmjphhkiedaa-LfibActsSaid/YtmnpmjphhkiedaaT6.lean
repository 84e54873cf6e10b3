import Derived.Test.YtmnpmjphhkiedaaT5
namespace Go.Proofs.Ytmnpmjphhkiedaa.LF
open Go.RowKit Go.Proofs.YtmnpmjphhkiedaaW.PrintWords Go.Proofs.YtmnpmjphhkiedaaW.PrintLast Go.Proofs.YtmnpmjphhkiedaaW.PrintMore Go.Proofs.Ytmnpmjphhkiedaa.PLfibActs Go.Proofs.Ytmnpmjphhkiedaa.Lib

/-- What a call that turns the table leaves. -/
def TabPost (tb : Nat) (F : Nat → Prop) (most : Int) (L T : List S95) (c : Int) (w : World) (e : Ending) (w' : World) : Prop :=
  ∃ F', e = .returned (.int .i64 c) ∧ Tab w' tb F' most L T ∧ Chg F w w' ∧ ∀ k, F' k → F k ∨ w.heap.size ≤ k

theorem tab_same {tb : Nat} {F : Nat → Prop} {most : Int} {L T : List S95} {w w' : World} (t : Tab w tb F most L T) (h : Below w.heap.size w w') (c : Int) : TabPost tb F most L T c w (.returned (.int .i64 c)) w' :=
  ⟨F, rfl, t.below h, .of_below h, fun _ hk => .inl hk⟩

theorem put_labels {tb : Nat} {F : Nat → Prop} {most : Int} {L T : List S95} {w0 w : World} (h0 : Below w0.heap.size w0 w) (t : Tab w0 tb F most L T) (x : S95) (k1 : 0 ≤ x.f0) (k2 : x.f0 ≤ 2000000) :
    Calls Try.prog 59 #[.pointer (some ⟨tb, 0, none⟩), .int .i64 x.f0, .agg #[.int .i64 x.f1.f0, .int .i64 x.f1.f1]] w (TabPost tb F most (putL L most x).1 T (putL L most x).2 w0) := by
  have t' := t.below h0
  obtain ⟨⟨vl, vt, h1, h2, h3, h4, h5⟩, f, a1, a2, a3, a4, a5, a6⟩ := t'
  refine (put_any tb 0 115 _ vl L most x w h1 (by omega) rfl rfl h2 a3 a2 k1 k2).mono ?_
  rintro e w' ⟨v', rfl, p1, p2, p3, p4⟩
  have hg := putL_good a3 a2 a5 k1 k2
  have hlt : ∀ k, vt.ownBlock = some k → k < w.heap.size := fun k hk => h3.lt hk
  have hnt : ∀ k, vt.ownBlock = some k → ¬ (k = tb ∨ vl.ownBlock = some k) := fun k hk hh => by
    rcases hh with rfl | hh
    · exact h3.ne h1 (by omega) hk
    · exact (h4 k hh).2 hk
  refine ⟨fun k => F k ∨ v'.ownBlock = some k, rfl, ⟨⟨v', vt, p1, p2, h3.kept p3 hnt, fun k hk => ⟨.inr hk, fun hh => ?_⟩, fun k hk => .inl (h5 k hk)⟩, .inl f, a1, a2, hg.1, a4, hg.2, a6⟩, ?_, ?_⟩
  · rcases p4 with p4 | ⟨g, p4, p5⟩
    · rw [p4] at hk; exact (h4 k hk).2 hh
    · rw [p4] at hk; injection hk with hk; have := hlt k hh; omega
  · exact (Chg.of_below h0).then p3 (fun k hk => .inl (by rcases hk with rfl | hk; exact f; exact (h4 k hk).1))
  · intro k hk
    rcases hk with hk | hk
    · exact .inl hk
    · rcases p4 with p4 | ⟨g, p4, p5⟩
      · rw [p4] at hk; exact .inl (h4 k hk).1
      · rw [p4] at hk; injection hk with hk; have := h0.size; exact .inr (by omega)
theorem put_tunnels {tb : Nat} {F : Nat → Prop} {most : Int} {L T : List S95} {w0 w : World} (h0 : Below w0.heap.size w0 w) (t : Tab w0 tb F most L T) (x : S95) (k1 : 0 ≤ x.f0) (k2 : x.f0 ≤ 2000000) :
    Calls Try.prog 59 #[.pointer (some ⟨tb, 2, none⟩), .int .i64 x.f0, .agg #[.int .i64 x.f1.f0, .int .i64 x.f1.f1]] w (TabPost tb F most L (putL T most x).1 (putL T most x).2 w0) := by
  have t' := t.below h0
  obtain ⟨⟨vl, vt, h1, h2, h3, h4, h5⟩, f, a1, a2, a3, a4, a5, a6⟩ := t'
  refine (put_any tb 2 115 _ vt T most x w h1 (by omega) rfl rfl h3 a4 a2 k1 k2).mono ?_
  rintro e w' ⟨v', rfl, p1, p2, p3, p4⟩
  have hg := putL_good a4 a2 a6 k1 k2
  have hlt : ∀ k, vl.ownBlock = some k → k < w.heap.size := fun k hk => h2.lt hk
  have hnt : ∀ k, vl.ownBlock = some k → ¬ (k = tb ∨ vt.ownBlock = some k) := fun k hk hh => by
    rcases hh with rfl | hh
    · exact h2.ne h1 (by omega) hk
    · exact (h4 k hk).2 hh
  refine ⟨fun k => F k ∨ v'.ownBlock = some k, rfl, ⟨⟨vl, v', p1, h2.kept p3 hnt, p2, fun k hk => ⟨.inl (h4 k hk).1, fun hh => ?_⟩, fun k hk => .inr hk⟩, .inl f, a1, a2, a3, hg.1, a5, hg.2⟩, ?_, ?_⟩
  · rcases p4 with p4 | ⟨g, p4, p5⟩
    · rw [p4] at hh; exact (h4 k hk).2 hh
    · rw [p4] at hh; injection hh with hh; have := hlt k hk; omega
  · exact (Chg.of_below h0).then p3 (fun k hk => .inl (by rcases hk with rfl | hk; exact f; exact h5 k hk))
  · intro k hk
    rcases hk with hk | hk
    · exact .inl hk
    · rcases p4 with p4 | ⟨g, p4, p5⟩
      · rw [p4] at hk; exact .inl (h5 k hk)
      · rw [p4] at hk; injection hk with hk; have := h0.size; exact .inr (by omega)

theorem Tab.made {w : World} {tb : Nat} {F : Nat → Prop} {most : Int} {L T : List S95} (t : Tab w tb F most L T) : w.cell? ⟨tb, 4, none⟩ = some (.bool true) := by
  obtain ⟨vl, vt, h1, _⟩ := t.at_
  exact (blk_cell h1 4).trans rfl

set_option maxRecDepth 100000 in
set_option maxHeartbeats 1000000 in
theorem bind_any (tb : Nat) (F : Nat → Prop) (most : Int) (L T : List S95) (label n l : Int) (w : World) (t : Tab w tb F most L T) :
    Calls Try.prog 13 #[.pointer (some ⟨tb, 0, none⟩), .int .i64 label, .agg #[.int .i64 n, .int .i64 l]] w (TabPost tb F most (bindL L most label n l).1 T (bindL L most label n l).2 w) := by
  have HT := Aside0.mk t
  clear t
  obtain ⟨w0, hw0⟩ : ∃ w0, w0 = w.alloc (.cells #[.int .i64 n, .int .i64 l] 32) := ⟨_, rfl⟩
  have HB0 : Aside0 (Below w.heap.size w w0) := ⟨by rw [hw0]; exact (Below.refl _ _).alloc (Nat.le_refl _) _⟩
  have HX : Aside0 (w0.heap[w.heap.size]? = some (.cells #[.int .i64 n, .int .i64 l] 32 (0, 0))) := ⟨by rw [hw0]; exact blk_new w _⟩
  have hm := (HT.out.below HB0.out).made
  have x0 : w0.cell? ⟨w.heap.size, 0, none⟩ = some (.int .i64 n) := (blk_cell HX.out 0).trans rfl
  have x1 : w0.cell? ⟨w.heap.size, 1, none⟩ = some (.int .i64 l) := (blk_cell HX.out 1).trans rfl
  go_enter Try.func13, Try.ntmps13
  go_wp2_with fail
  rw [← hw0]
  clear hw0
  refine (good_true _ _ hm).mono ?_
  rintro e w1 ⟨rfl, rfl⟩
  go_wp2_with fail
  refine (bindable_any _ _).mono ?_
  cases hb : bindable label with
  | false =>
    have HL : Aside0 (bindL L most label n l = (L, 2)) := ⟨by simp [bindL, hb]⟩
    clear hb
    rintro e w1 ⟨rfl, rfl⟩
    go_wp2
    go_ret
    rw [HL.out]
    exact tab_same HT.out HB0.out 2
  | true =>
    have hb' : 16 ≤ label ∧ label ≤ 1048575 := by simpa [bindable] using hb
    rintro e w1 ⟨rfl, rfl⟩
    go_wp2_with fail
    refine (may_any _ _ _).mono ?_
    cases hb2 : mayOut n l with
    | false =>
      have HL : Aside0 (bindL L most label n l = (L, 2)) := ⟨by simp [bindL, hb2]⟩
      clear hb hb2
      rintro e w1 ⟨rfl, hb1⟩
      go_wp2
      go_ret
      rw [HL.out]
      exact tab_same HT.out (below_step HB0.out hb1) 2
    | true =>
      have HL : Aside0 (bindL L most label n l = putL L most ⟨label, ⟨n, l⟩⟩) := ⟨by simp [bindL, hb, hb2]⟩
      clear hb hb2
      rintro e w1 ⟨rfl, hb1⟩
      have HB1 := Aside0.mk (below_step HB0.out hb1)
      have y0 : w1.cell? ⟨w.heap.size, 0, none⟩ = some (.int .i64 n) := (blk_cell (blk_below HX.out hb1) 0).trans rfl
      have y1 : w1.cell? ⟨w.heap.size, 1, none⟩ = some (.int .i64 l) := (blk_cell (blk_below HX.out hb1) 1).trans rfl
      clear hb1 x0 x1
      have HB2 := Aside0.mk (HB1.out.drew)
      have l1 : (0 : Int) ≤ label := by omega
      have l2 : label ≤ (2000000 : Int) := by omega
      go_wp2_with fail
      go_region_law (go_simp; go_at_call 59; refine (put_labels HB2.out HT.out ⟨label, ⟨n, l⟩⟩ l1 l2).mono ?_; rintro e w3 ⟨F', rfl, q1, q2, q3⟩; have HQ1 := Aside0.mk q1; have HQ2 := Aside0.mk q2; have HQ3 := Aside0.mk q3; clear q1 q2 q3)
      all_goals
        go_wp2
        go_ret
        rw [HL.out]
        exact ⟨F', rfl, HQ1.out, HQ2.out, HQ3.out⟩

set_option maxRecDepth 100000 in
set_option maxHeartbeats 1000000 in
theorem map_any (tb : Nat) (F : Nat → Prop) (most : Int) (L T : List S95) (tun n l : Int) (w : World) (t : Tab w tb F most L T) :
    Calls Try.prog 14 #[.pointer (some ⟨tb, 0, none⟩), .int .i64 tun, .agg #[.int .i64 n, .int .i64 l]] w (TabPost tb F most L (mapL T most tun n l).1 (mapL T most tun n l).2 w) := by
  have HT := Aside0.mk t
  clear t
  obtain ⟨w0, hw0⟩ : ∃ w0, w0 = w.alloc (.cells #[.int .i64 n, .int .i64 l] 32) := ⟨_, rfl⟩
  have HB0 : Aside0 (Below w.heap.size w w0) := ⟨by rw [hw0]; exact (Below.refl _ _).alloc (Nat.le_refl _) _⟩
  have HX : Aside0 (w0.heap[w.heap.size]? = some (.cells #[.int .i64 n, .int .i64 l] 32 (0, 0))) := ⟨by rw [hw0]; exact blk_new w _⟩
  have hm := (HT.out.below HB0.out).made
  have x0 : w0.cell? ⟨w.heap.size, 0, none⟩ = some (.int .i64 n) := (blk_cell HX.out 0).trans rfl
  have x1 : w0.cell? ⟨w.heap.size, 1, none⟩ = some (.int .i64 l) := (blk_cell HX.out 1).trans rfl
  go_enter Try.func14, Try.ntmps14
  go_wp2_with fail
  rw [← hw0]
  clear hw0
  refine (good_true _ _ hm).mono ?_
  rintro e w1 ⟨rfl, rfl⟩
  by_cases h1 : tun < 1
  · have HL : Aside0 (mapL T most tun n l = (T, 2)) := ⟨by simp only [mapL]; rw [decide_eq_false (show ¬ 1 ≤ tun by omega)]; rfl⟩
    go_wp2
    go_ret
    rw [HL.out]
    exact tab_same HT.out HB0.out 2
  · by_cases h2 : 65535 < tun
    · have HL : Aside0 (mapL T most tun n l = (T, 2)) := ⟨by simp only [mapL]; rw [decide_eq_false (show ¬ tun ≤ 65535 by omega), Bool.and_false]; rfl⟩
      go_wp2
      go_ret
      rw [HL.out]
      exact tab_same HT.out HB0.out 2
    · go_wp2_with fail
      refine (may_any _ _ _).mono ?_
      cases hb2 : mayOut n l with
      | false =>
        have HL : Aside0 (mapL T most tun n l = (T, 2)) := ⟨by simp [mapL, hb2]⟩
        clear hb2
        rintro e w1 ⟨rfl, hb1⟩
        go_wp2
        go_ret
        rw [HL.out]
        exact tab_same HT.out (below_step HB0.out hb1) 2
      | true =>
        have HL : Aside0 (mapL T most tun n l = putL T most ⟨tun, ⟨n, l⟩⟩) := ⟨by simp only [mapL]; rw [decide_eq_true (show 1 ≤ tun by omega), decide_eq_true (show tun ≤ 65535 by omega), hb2]; rfl⟩
        clear hb2
        rintro e w1 ⟨rfl, hb1⟩
        have HB1 := Aside0.mk (below_step HB0.out hb1)
        have y0 : w1.cell? ⟨w.heap.size, 0, none⟩ = some (.int .i64 n) := (blk_cell (blk_below HX.out hb1) 0).trans rfl
        have y1 : w1.cell? ⟨w.heap.size, 1, none⟩ = some (.int .i64 l) := (blk_cell (blk_below HX.out hb1) 1).trans rfl
        clear hb1 x0 x1
        have HB2 := Aside0.mk (HB1.out.drew)
        have l1 : (0 : Int) ≤ tun := by omega
        have l2 : tun ≤ (2000000 : Int) := by omega
        go_wp2_with fail
        go_region_law (go_simp; go_at_call 59; refine (put_tunnels HB2.out HT.out ⟨tun, ⟨n, l⟩⟩ l1 l2).mono ?_; rintro e w3 ⟨F', rfl, q1, q2, q3⟩; have HQ1 := Aside0.mk q1; have HQ2 := Aside0.mk q2; have HQ3 := Aside0.mk q3; clear q1 q2 q3)
        all_goals
          go_wp2
          go_ret
          rw [HL.out]
          exact ⟨F', rfl, HQ1.out, HQ2.out, HQ3.out⟩
end Go.Proofs.Ytmnpmjphhkiedaa.LF
