import Derived.Test.YtmnpmjphhkiedaaT9
namespace Go.Proofs.Ytmnpmjphhkiedaa.LF
open Go.RowKit Go.Proofs.YtmnpmjphhkiedaaW.PrintWords Go.Proofs.YtmnpmjphhkiedaaW.PrintLast Go.Proofs.YtmnpmjphhkiedaaW.PrintMore Go.Proofs.Ytmnpmjphhkiedaa.PLfibActs Go.Proofs.Ytmnpmjphhkiedaa.Lib

theorem C_zero (w : World) (A : Option Addr) : Kd.C k118 w A 0 [] := ⟨rfl, by omega, fun h => absurd h (by omega)⟩

/-- What a step holds in memory: the packet, the result's place, the entry on top (E), the Out (N). -/
structure Mem (w W : World) (E N : Nat) (a b c d x y z n l : Value) : Prop where
  p : W.heap[w.heap.size]? = some (.cells #[a, b, c, d] 25 (0, 0))
  q : W.heap[w.heap.size + 1]? = some (.cells #[.slice none 0 0, .int .i64 0, .int .i64 0, .string ⟨#[]⟩] 25 (0, 0))
  e : W.heap[E]? = some (.cells #[x, y, z] 118 (0, 0))
  o : W.heap[N]? = some (.cells #[n, l] 32 (0, 0))
  bel : Below w.heap.size w W
  h1 : w.heap.size + 1 < E
  h2 : E < N
section
variable {w W W' : World} {E N : Nat} {a b c d x y z n l : Value}
theorem Mem.chg {S : Nat → Prop} (m : Mem w W E N a b c d x y z n l) (h : Chg S W W') (h0 : ∀ k, S k → w.heap.size + 1 < k) (hE : ¬ S E) (hN : ¬ S N) : Mem w W' E N a b c d x y z n l :=
  ⟨h.obj m.p (fun hs => by have := h0 _ hs; omega), h.obj m.q (fun hs => by have := h0 _ hs; omega), h.obj m.e hE, h.obj m.o hN,
    m.bel.trans (h.below m.bel.size (fun k hk => by have := h0 k hk; omega)), m.h1, m.h2⟩
theorem Mem.below (m : Mem w W E N a b c d x y z n l) (h : Below W.heap.size W W') : Mem w W' E N a b c d x y z n l := m.chg (S := fun _ => False) (.of_below h) (fun _ h => h.elim) (fun h => h) (fun h => h)
theorem Mem.setO (m : Mem w W E N a b c d x y z n l) {n' l' : Value} (h : Chg (fun k => k = N) W W') (hn : W'.heap[N]? = some (.cells #[n', l'] 32 (0, 0))) : Mem w W' E N a b c d x y z n' l' := by
  have h1 := m.h1; have h2 := m.h2
  exact ⟨h.obj m.p (by omega), h.obj m.q (by omega), h.obj m.e (by omega), hn, m.bel.trans (h.below m.bel.size (fun k hk => by omega)), m.h1, m.h2⟩
theorem Mem.p0 (m : Mem w W E N a b c d x y z n l) (u : Value) : Mem w (W.setCell ⟨w.heap.size, 0, none⟩ u) E N u b c d x y z n l := by
  have h1 := m.h1; have h2 := m.h2
  exact ⟨blk_set m.p 0 u, blk_far m.q (by simp) _, blk_far m.e (by simp; omega) _, blk_far m.o (by simp; omega) _, below_set m.bel (Nat.le_refl _), m.h1, m.h2⟩
theorem Mem.p2 (m : Mem w W E N a b c d x y z n l) (u : Value) : Mem w (W.setCell ⟨w.heap.size, 2, none⟩ u) E N a b u d x y z n l := by
  have h1 := m.h1; have h2 := m.h2
  exact ⟨blk_set m.p 2 u, blk_far m.q (by simp) _, blk_far m.e (by simp; omega) _, blk_far m.o (by simp; omega) _, below_set m.bel (Nat.le_refl _), m.h1, m.h2⟩
theorem Mem.e0 (m : Mem w W E N a b c d x y z n l) (u : Value) : Mem w (W.setCell ⟨E, 0, none⟩ u) E N a b c d u y z n l := by
  have h1 := m.h1; have h2 := m.h2
  exact ⟨blk_far m.p (by simp; omega) _, blk_far m.q (by simp; omega) _, blk_set m.e 0 u, blk_far m.o (by simp; omega) _, below_set m.bel (by omega), m.h1, m.h2⟩
theorem Mem.e2 (m : Mem w W E N a b c d x y z n l) (u : Value) : Mem w (W.setCell ⟨E, 2, none⟩ u) E N a b c d x y u n l := by
  have h1 := m.h1; have h2 := m.h2
  exact ⟨blk_far m.p (by simp; omega) _, blk_far m.q (by simp; omega) _, blk_set m.e 2 u, blk_far m.o (by simp; omega) _, below_set m.bel (by omega), m.h1, m.h2⟩
/-- All cells of it. -/
theorem Mem.all (m : Mem w W E N a b c d x y z n l) :
    (W.cell? ⟨w.heap.size, 0, none⟩ = some a ∧ W.cell? ⟨w.heap.size, 1, none⟩ = some b ∧ W.cell? ⟨w.heap.size, 2, none⟩ = some c ∧ W.cell? ⟨w.heap.size, 3, none⟩ = some d ∧ W.frozen? ⟨w.heap.size, 0, none⟩ = false ∧ W.frozen? ⟨w.heap.size, 1, none⟩ = false ∧ W.frozen? ⟨w.heap.size, 2, none⟩ = false ∧ W.frozen? ⟨w.heap.size, 3, none⟩ = false) ∧
    (W.cell? ⟨w.heap.size + 1, 0, none⟩ = some (.slice none 0 0) ∧ W.cell? ⟨w.heap.size + 1, 1, none⟩ = some (.int .i64 0) ∧ W.cell? ⟨w.heap.size + 1, 2, none⟩ = some (.int .i64 0) ∧ W.cell? ⟨w.heap.size + 1, 3, none⟩ = some (.string ⟨#[]⟩) ∧ W.frozen? ⟨w.heap.size + 1, 0, none⟩ = false ∧ W.frozen? ⟨w.heap.size + 1, 1, none⟩ = false ∧ W.frozen? ⟨w.heap.size + 1, 2, none⟩ = false ∧ W.frozen? ⟨w.heap.size + 1, 3, none⟩ = false) ∧
    (W.cell? ⟨E, 0, none⟩ = some x ∧ W.cell? ⟨E, 1, none⟩ = some y ∧ W.cell? ⟨E, 2, none⟩ = some z ∧ W.frozen? ⟨E, 0, none⟩ = false ∧ W.frozen? ⟨E, 1, none⟩ = false ∧ W.frozen? ⟨E, 2, none⟩ = false) ∧
    (W.cell? ⟨N, 0, none⟩ = some n ∧ W.cell? ⟨N, 1, none⟩ = some l ∧ W.frozen? ⟨N, 0, none⟩ = false ∧ W.frozen? ⟨N, 1, none⟩ = false) :=
  ⟨blk4 m.p, blk4 m.q, blk3 m.e, blk2 m.o⟩
end

theorem chg_two {w w4 : World} (h : Below w.heap.size w w4) (N : Nat) (a b : Value) : Chg (fun k => k = N) w ((w4.setCell ⟨N, 0, none⟩ a).setCell ⟨N, 1, none⟩ b) :=
  Chg.put (S := fun k => k = N) (Chg.put (S := fun k => k = N) (.of_below h) N 0 (.inl rfl) a) N 1 (.inl rfl) b

theorem step_f11 {L T : List S95} {x : S118} {t : List S118} {tun ttl : Int} {pay : ByteArray} (h : validP ⟨x :: t, tun, ttl, pay⟩ = true) (hl : lk L x.f0 = none) : stepP L T ⟨x :: t, tun, ttl, pay⟩ = (0, noPkt, 11) := by
  simp [stepP, h, hl]
theorem step_f10 {L T : List S95} {x : S118} {t : List S118} {tun ttl : Int} {pay : ByteArray} (h : validP ⟨x :: t, tun, ttl, pay⟩ = true) {o : S32} (hl : lk L x.f0 = some o) (ht : x.f2 = 0) : stepP L T ⟨x :: t, tun, ttl, pay⟩ = (0, noPkt, 10) := by
  simp only [stepP, h, hl]; rw [if_neg (by simp), if_pos ht]
theorem step_f3n {L T : List S95} {x : S118} {tun ttl : Int} {pay : ByteArray} (h : validP ⟨[x], tun, ttl, pay⟩ = true) {o : S32} (hl : lk L x.f0 = some o) (ht : ¬ x.f2 = 0) (h3 : o.f1 = 3) : stepP L T ⟨[x], tun, ttl, pay⟩ = (o.f0, ⟨[], tun, min ttl (x.f2 - 1), pay⟩, 0) := by
  simp only [stepP, h, hl]; rw [if_neg (by simp), if_neg ht, if_pos h3]
theorem step_f3c {L T : List S95} {x y : S118} {r : List S118} {tun ttl : Int} {pay : ByteArray} (h : validP ⟨x :: y :: r, tun, ttl, pay⟩ = true) {o : S32} (hl : lk L x.f0 = some o) (ht : ¬ x.f2 = 0) (h3 : o.f1 = 3) : stepP L T ⟨x :: y :: r, tun, ttl, pay⟩ = (o.f0, ⟨⟨y.f0, y.f1, min y.f2 (x.f2 - 1)⟩ :: r, tun, ttl, pay⟩, 0) := by
  simp only [stepP, h, hl]; rw [if_neg (by simp), if_neg ht, if_pos h3]
theorem step_f0 {L T : List S95} {x : S118} {t : List S118} {tun ttl : Int} {pay : ByteArray} (h : validP ⟨x :: t, tun, ttl, pay⟩ = true) {o : S32} (hl : lk L x.f0 = some o) (ht : ¬ x.f2 = 0) (h3 : ¬ o.f1 = 3) : stepP L T ⟨x :: t, tun, ttl, pay⟩ = (o.f0, ⟨⟨o.f1, x.f1, x.f2 - 1⟩ :: t, tun, ttl, pay⟩, 0) := by
  simp only [stepP, h, hl]; rw [if_neg (by simp), if_neg ht, if_neg h3]
theorem validP_head {x : S118} {t : List S118} {tun ttl : Int} {pay : ByteArray} (h : validP ⟨x :: t, tun, ttl, pay⟩ = true) : t.length ≤ 7 ∧ 0 ≤ ttl ∧ ttl ≤ 255 ∧ 0 ≤ x.f0 ∧ x.f0 ≤ 1048575 ∧ 0 ≤ x.f1 ∧ x.f1 ≤ 7 ∧ 0 ≤ x.f2 ∧ x.f2 ≤ 255 ∧ ∀ y ∈ t, validE y = true := by
  simp only [validP, List.length_cons, Bool.and_eq_true, decide_eq_true_eq, List.any_cons, Bool.not_or, Bool.not_not, validE] at h
  obtain ⟨⟨⟨⟨h1, h2⟩, h3⟩, _⟩, h5, h6⟩ := h
  refine ⟨by omega, h2, h3, h5.1.1.1.1.1, h5.1.1.1.1.2, h5.1.1.1.2, h5.1.1.2, h5.1.2, h5.2, fun y hy => ?_⟩
  simp only [Bool.not_eq_true', List.any_eq_false] at h6
  have := h6 y hy
  simp only [validE, Bool.and_eq_true, decide_eq_true_eq]
  simpa [and_assoc] using this

set_option maxRecDepth 100000 in
set_option maxHeartbeats 4000000 in
theorem step_full (tb : Nat) (F : Nat → Prop) (most : Int) (L T : List S95) (A : Option Addr) (c : Nat) (x : S118) (t : List S118) (tun ttl : Int) (pay : ByteArray) (w : World) (tt : Tab w tb F most L T) (hr : Kd.C k118 w A (x :: t).length (x :: t)) (hc : (x :: t).length ≤ c) (hn : pay.size ≤ 140737488351232) (hv : validP ⟨x :: t, tun, ttl, pay⟩ = true) (ho : OutsOk L) (t1 : -9223372036854775808 ≤ tun) (t2 : tun ≤ 9223372036854775807) :
    Calls Try.prog 16 #[.pointer (some ⟨tb, 0, none⟩), .agg #[.slice A (t.length + 1) c, .int .i64 tun, .int .i64 ttl, .string pay]] w (StepPost (stepP L T ⟨x :: t, tun, ttl, pay⟩) w) := by
  obtain ⟨v1, v2, v3, v4, v5, v6, v7, v8, v9, v10⟩ := validP_head hv
  obtain ⟨w0, hw0⟩ : ∃ w0, w0 = (w.alloc (.cells #[.slice A (t.length + 1) c, .int .i64 tun, .int .i64 ttl, .string pay] 25)).alloc (.cells #[.slice none 0 0, .int .i64 0, .int .i64 0, .string ⟨#[]⟩] 25) := ⟨_, rfl⟩
  have HB0 : Aside0 (Below w.heap.size w w0) := ⟨by rw [hw0]; exact below_two⟩
  have HP : Aside0 (w0.heap[w.heap.size]? = some (.cells #[.slice A (t.length + 1) c, .int .i64 tun, .int .i64 ttl, .string pay] 25 (0, 0))) := ⟨by rw [hw0]; exact blk_alloc (blk_new w _) _⟩
  have HQ : Aside0 (w0.heap[w.heap.size + 1]? = some (.cells #[.slice none 0 0, .int .i64 0, .int .i64 0, .string ⟨#[]⟩] 25 (0, 0))) := ⟨by rw [hw0]; have := blk_new (w.alloc (.cells #[.slice A (t.length + 1) c, .int .i64 tun, .int .i64 ttl, .string pay] 25)) (.cells #[.slice none 0 0, .int .i64 0, .int .i64 0, .string ⟨#[]⟩] 25); simpa using this⟩
  have hm := (tt.below HB0.out).made
  obtain ⟨a0, a1, a2, a3, _⟩ := blk4 HP.out
  have HR := Aside0.mk (Kd.C_below hr HB0.out)
  have HV := Aside0.mk hv; have HT := Aside0.mk tt; have HOK := Aside0.mk ho; have HCC := Aside0.mk hc; have HV10 := Aside0.mk v10
  have HLL : Aside0 ((x :: t).length ≤ 140737488351232) := ⟨by simp; omega⟩
  clear tt hr hv ho hc v10
  go_enter Try.func16, Try.ntmps16
  go_wp2_with fail
  rw [← hw0]
  clear hw0
  refine (good_true _ _ hm).mono ?_
  rintro e w1 ⟨rfl, rfl⟩
  go_wp2_with fail
  refine (mayP_any A c ⟨x :: t, tun, ttl, pay⟩ _ HR.out hn HLL.out).mono ?_
  rw [HV.out]
  rintro e w1 ⟨rfl, hb1⟩
  have HP1 := Aside0.mk (blk_below HP.out hb1)
  have HQ1 := Aside0.mk (blk_below HQ.out hb1)
  have HB1 := Aside0.mk (below_step HB0.out hb1)
  have HR1 := Aside0.mk (Kd.C_below HR.out hb1)
  obtain ⟨b0, b1, b2, b3, _⟩ := blk4 HP1.out
  clear hb1 a0 a1 a2 a3 hm
  go_wp2_with fail
  refine (pop_cons A c x t _ HR1.out HCC.out (by omega)).mono ?_
  rintro e w2 ⟨v, rfl, hb2, hown⟩
  obtain ⟨A1, c1, rfl, hlc1, hcm1, hC1⟩ := hown.read
  have HOW := Aside0.mk hown
  have hcm1' : c1 ≤ 9223372036854775807 := by unfold maxLen at hcm1; omega
  have HP2 := Aside0.mk (blk_below HP1.out hb2)
  have HQ2 := Aside0.mk (blk_below HQ1.out hb2)
  have HB2 := Aside0.mk (below_step HB1.out hb2)
  clear b0 b1 b2 b3 hcm1 hC1 hown
  obtain ⟨b0, b1, b2, b3, _⟩ := blk4 HP2.out
  have hsz1 : w.heap.size + 1 < w1.heap.size := blk_lt HQ1.out
  have hsz2 : w1.heap.size ≤ w2.heap.size := hb2.size
  clear hb2
  obtain ⟨w3, hw3⟩ : ∃ w3, w3 = w2.alloc (.cells #[.int .i64 x.f0, .int .i64 x.f1, .int .i64 x.f2] 118) := ⟨_, rfl⟩
  have HB23 : Aside0 (Below w2.heap.size w2 w3) := ⟨by rw [hw3]; exact (Below.refl _ _).alloc (Nat.le_refl _) _⟩
  have HB3 : Aside0 (Below w.heap.size w w3) := ⟨below_step HB2.out HB23.out⟩
  have HP3 : Aside0 (w3.heap[w.heap.size]? = some (.cells #[.slice A (t.length + 1) c, .int .i64 tun, .int .i64 ttl, .string pay] 25 (0, 0))) := ⟨blk_below HP2.out HB23.out⟩
  have HE3 : Aside0 (w3.heap[w2.heap.size]? = some (.cells #[.int .i64 x.f0, .int .i64 x.f1, .int .i64 x.f2] 118 (0, 0))) := ⟨by rw [hw3]; exact blk_new w2 _⟩
  clear b0 b1 b2 b3
  obtain ⟨b0, b1, b2, b3, _⟩ := blk4 HP3.out
  have lw := blk_lt HP3.out
  go_upto_region 6 with fail
  rw [← hw3]
  clear hw3
  have BA : Aside0 (Below w.heap.size w w3.drew) := ⟨HB3.out.drew⟩
  have BB : ∀ o, Aside0 (Below w.heap.size w (w3.alloc o).drew) := fun o => ⟨(HB3.out.alloc HB3.out.size o).drew⟩
  have BN : ∀ o, Aside0 ((w3.alloc o).drew.heap[w3.heap.size]? = some o) := fun o => ⟨blk_new w3 o⟩
  obtain ⟨n, l, b, hget, _⟩ := get_o T tun
  have HG := Aside0.mk hget
  clear hget
  go_cut [10, 11] (fun v10 v11 wc => ∃ N, v10 = .pointer (some ⟨N, 0, none⟩) ∧ v11 = .bool b ∧ Aside0 (wc.heap[N]? = some (.cells #[.int .i64 n, .int .i64 l] 32 (0, 0))) ∧ Aside0 (Below w3.heap.size w3 wc) ∧ Aside0 (w3.heap.size ≤ N))
  case first =>
    go_region_law (first | (go_simp; go_at_call 62; refine (get_tunnels HT.out _ _ (by exact (BB _).out) t1 t2).mono ?_; intro e w4 hp4; obtain ⟨rfl, hb4⟩ := HG.out _ _ _ hp4; have HB4 := Aside0.mk (Below.trans (((Below.refl w3.heap.size w3).alloc (Nat.le_refl _) _).drew) (hb4.mono (by simp))); have HN := Aside0.mk (blk_below (BN _).out hb4); obtain ⟨k0, k1, g0, g1⟩ := blk2 HN.out) | (go_simp; go_at_call 62; refine (get_tunnels HT.out _ _ BA.out t1 t2).mono ?_; intro e w4 hp4; obtain ⟨rfl, hb4⟩ := HG.out _ _ _ hp4; have HB4 := Aside0.mk (Below.trans ((Below.refl w3.heap.size w3).drew) hb4)))
    all_goals (go_wp2_with fail; go_meet)
    all_goals first
      | exact ⟨w4.heap.size, rfl, rfl, ⟨blk_new w4 _⟩, ⟨HB4.out.alloc HB4.out.size _⟩, ⟨HB4.out.size⟩⟩
      | exact ⟨w3.heap.size, rfl, rfl, ⟨blk_set (blk_set HN.out 0 _) 1 _⟩, ⟨below_set (below_set HB4.out (Nat.le_refl _)) (Nat.le_refl _)⟩, ⟨Nat.le_refl _⟩⟩
  case rest =>
    obtain ⟨N, rfl, rfl, HN, HB4, HNl⟩ := hcut
    obtain ⟨wx, rfl⟩ : ∃ wx : World, wx = wc := ⟨_, rfl⟩
    have HM : Aside0 (Mem w wx w2.heap.size N (.slice A (t.length + 1) c) (.int .i64 tun) (.int .i64 ttl) (.string pay) (.int .i64 x.f0) (.int .i64 x.f1) (.int .i64 x.f2) (.int .i64 n) (.int .i64 l)) :=
      ⟨⟨blk_below HP3.out HB4.out, blk_below (blk_below HQ2.out HB23.out) HB4.out, blk_below HE3.out HB4.out, HN.out, below_step HB3.out HB4.out, by omega, by have := blk_lt HE3.out; have := HNl.out; omega⟩⟩
    have HOC : Aside0 (Own118 wx w1.heap.size (.slice A1 t.length c1) t) := ⟨own_kept (S := fun _ => False) ((Chg.of_below HB23.out).trans (.of_below HB4.out)) HOW.out (fun _ _ h => h)⟩
    clear b0 b1 b2 b3 HN HB4 BA BB BN HG
    obtain ⟨⟨p0, p1, p2, p3, p4, p5, p6, p7⟩, ⟨q0, q1, q2, q3, q4, q5, q6, q7⟩, ⟨e0, e1, e2, e3, e4, e5⟩, ⟨o0, o1, o2, o3⟩⟩ := HM.out.all
    obtain ⟨n', l', b', hget, hcase⟩ := get_o L x.f0
    have HG := Aside0.mk hget
    have HC := Aside0.mk hcase
    have BA : Aside0 (Below w.heap.size w wx.drew) := ⟨HM.out.bel.drew⟩
    clear hget hcase
    go_upto_region 9 with fail
    go_cut [11] (fun v11 wd => v11 = .bool b' ∧ Aside0 (wd.heap[N]? = some (.cells #[.int .i64 n', .int .i64 l'] 32 (0, 0))) ∧ Aside0 (Chg (fun k => k = N) wx wd))
    case first =>
      go_region_law (go_simp; go_at_call 62; refine (get_labels HT.out _ _ BA.out (by omega) (by omega)).mono ?_; intro e w4 hp4; obtain ⟨rfl, hb4⟩ := HG.out _ _ _ hp4; have HN4 := Aside0.mk (blk_below (w := wx.drew) HM.out.o hb4); obtain ⟨k0, k1, g0, g1⟩ := blk2 HN4.out; have HB4 := Aside0.mk (Below.trans ((Below.refl wx.heap.size wx).drew) hb4))
      all_goals (go_wp2_with fail; go_meet)
      all_goals exact ⟨rfl, ⟨blk_set (blk_set HN4.out 0 _) 1 _⟩, ⟨chg_two HB4.out N _ _⟩⟩
    case rest =>
      obtain ⟨rfl, HN', HCH⟩ := hcut
      have HM2 := Aside0.mk (HM.out.setO HCH.out HN'.out)
      have HOD : Aside0 (Own118 wc w1.heap.size (.slice A1 t.length c1) t) := ⟨own_kept HCH.out HOC.out (fun k hk => by
        have h1 := (World.ownsRow.lt HOW.out k hk).2
        have h2 := HM.out.h2
        omega)⟩
      clear p0 p1 p2 p3 p4 p5 p6 p7 q0 q1 q2 q3 q4 q5 q6 q7 o0 o1 o2 o3 e0 e1 e2 e3 e4 e5 HG BA HN' HCH HM HOC
      obtain ⟨⟨p0, p1, p2, p3, p4, p5, p6, p7⟩, ⟨q0, q1, q2, q3, q4, q5, q6, q7⟩, ⟨e0, e1, e2, e3, e4, e5⟩, ⟨o0, o1, o2, o3⟩⟩ := HM2.out.all
      have n1 := HM2.out.h1
      have n2 := HM2.out.h2
      have m1 : w2.heap.size ≠ w.heap.size := by omega
      have m2 : w2.heap.size ≠ w.heap.size + 1 := by omega
      have m3 : N ≠ w2.heap.size := by omega
      have m4 : N ≠ w.heap.size := by omega
      have m5 : N ≠ w.heap.size + 1 := by omega
      have m6 := m1.symm; have m7 := m2.symm; have m8 := m3.symm; have m9 := m4.symm; have m10 := m5.symm
      rcases HC.out with ⟨rfl, hlk, rfl, rfl⟩ | ⟨rfl, hlk⟩
      · have HS := Aside0.mk (step_f11 (T := T) HV.out hlk)
        clear hlk
        go_wp2
        refine bodyPost_ret (results_tct rfl _ _ (w.heap.size + 1) 25 #[.slice none 0 0, .int .i64 0, .int .i64 0, .string ⟨#[]⟩] (0, 0) _ rfl (blk_set (blk_set (blk_set (blk_set HM2.out.q 0 _) 1 _) 2 _) 3 _) Try.underlying25 rfl (by kernel_rfl)) rfl ?_
        rw [HS.out]
        exact step_err (by repeat (first | exact HM2.out.bel | refine below_set ?_ (by omega)))
      · by_cases ht : x.f2 = 0
        · have HS := Aside0.mk (step_f10 (T := T) HV.out hlk ht)
          have ht' : (x.f2 == 0) = true := beq_iff_eq.2 ht
          clear hlk ht
          go_wp2
          refine bodyPost_ret (results_tct rfl _ _ (w.heap.size + 1) 25 #[.slice none 0 0, .int .i64 0, .int .i64 0, .string ⟨#[]⟩] (0, 0) _ rfl (blk_set (blk_set (blk_set (blk_set HM2.out.q 0 _) 1 _) 2 _) 3 _) Try.underlying25 rfl (by kernel_rfl)) rfl ?_
          rw [HS.out]
          exact step_err (by repeat (first | exact HM2.out.bel | refine below_set ?_ (by omega)))
        · have ht' : (x.f2 == 0) = false := beq_eq_false_iff_ne.2 ht
          have hmo := OutsOk.lk HOK.out hlk
          have hmay : 0 ≤ n' ∧ n' < 16 ∧ (l' = 3 ∨ (16 ≤ l' ∧ l' ≤ 1048575)) := by
            simp [mayOut, bindable] at hmo; omega
          clear hmo
          by_cases hl3 : l' = 3
          · have hl3' : (l' == 3) = true := beq_iff_eq.2 hl3
            have hl3'' : (l' != 3) = false := bne_eq_false_iff_eq.2 hl3
            cases t with
            | nil =>
              have HS := Aside0.mk (step_f3n (T := T) HV.out hlk ht hl3)
              have HA1 : Aside0 (∀ a, A1 = some a → w.heap.size ≤ a.block) := ⟨fun a ha => by have := (World.ownsRow.lt HOD.out a.block (by rw [ha]; rfl)).1; omega⟩
              clear hlk HOD
              go_wp2
              obtain ⟨wf, hwf⟩ : ∃ wf, wf = ((((wc.setCell ⟨w2.heap.size, 2, none⟩ (.int .i64 (x.f2 - 1))).setCell ⟨w2.heap.size, 0, none⟩ (.int .i64 l')).setCell ⟨w.heap.size, 2, none⟩ (.int .i64 (min ttl (x.f2 - 1)))).setCell ⟨w.heap.size, 0, none⟩ (.slice A1 0 c1)) := ⟨_, rfl⟩
              have HMF := Aside0.mk ((((HM2.out.e2 (.int .i64 (x.f2 - 1))).e0 (.int .i64 l')).p2 (.int .i64 (min ttl (x.f2 - 1)))).p0 (.slice A1 0 c1))
              rw [← hwf] at HMF
              subst hl3
              rw [← hwf]
              clear hwf p0 p1 p2 p3 p4 p5 p6 p7 q0 q1 q2 q3 q4 q5 q6 q7 o0 o1 o2 o3 e0 e1 e2 e3 e4 e5
              obtain ⟨⟨p0, p1, p2, p3, p4, p5, p6, p7⟩, ⟨q0, q1, q2, q3, q4, q5, q6, q7⟩, _, ⟨o0, o1, o2, o3⟩⟩ := HMF.out.all
              go_region
              all_goals go_wp2
              refine bodyPost_ret (results_tct rfl _ _ (w.heap.size + 1) 25 #[.slice A1 0 c1, .int .i64 tun, .int .i64 (min ttl (x.f2 - 1)), .string pay] (0, 0) _ rfl (blk_set (blk_set (blk_set (blk_set HMF.out.q 0 _) 1 _) 2 _) 3 _) Try.underlying25 rfl (by kernel_rfl)) rfl ?_
              rw [HS.out]
              exact step_ok (C_zero _ _) (Nat.zero_le _) (by refine Below.drew ?_; repeat (first | exact HMF.out.bel | refine below_set ?_ (by omega))) (fun a ha => ⟨HA1.out a ha, fun h => absurd rfl h⟩)
            | cons y r =>
              have HS := Aside0.mk (step_f3c (T := T) HV.out hlk ht hl3)
              obtain ⟨g, cap, cur, hA, hgb, hnc, hcapm, hcs, htk, hgl⟩ : ∃ g cap cur, Value.slice A1 (r.length + 1) c1 = .slice (some ⟨g, 0, none⟩) (r.length + 1) cap ∧ wc.heap[g]? = some (.cells cur 118 (0, 0)) ∧ r.length + 1 ≤ cap ∧ cap ≤ maxLen ∧ cur.size = cap * 3 ∧ cur.toList.take ((r.length + 1) * 3) = cellsOf c118 (y :: r) ∧ w1.heap.size ≤ g := by
                rcases HOD.out.2 with ⟨_, h0⟩ | ⟨g, cap, cur, h, hb, h2, h3, h3', h4, h5⟩
                · simp at h0
                · exact ⟨g, cap, cur, h, h2, h3, h3', h4, h5, hb⟩
              injection hA with hA1 _ hA2
              subst hA1 hA2
              have hgE : g ≠ w2.heap.size := fun e => by have := (World.ownsRow.lt HOW.out g rfl).2; omega
              have hgN : g ≠ N := fun e => by have := (World.ownsRow.lt HOW.out g rfl).2; omega
              obtain ⟨wf, hwf⟩ : ∃ wf, wf = (wc.setCell ⟨w2.heap.size, 2, none⟩ (.int .i64 (x.f2 - 1))).setCell ⟨w2.heap.size, 0, none⟩ (.int .i64 l') := ⟨_, rfl⟩
              have HMF := Aside0.mk ((HM2.out.e2 (.int .i64 (x.f2 - 1))).e0 (.int .i64 l'))
              rw [← hwf] at HMF
              have HGF : Aside0 (wf.heap[g]? = some (.cells cur 118 (0, 0))) := ⟨by rw [hwf]; exact blk_far (blk_far hgb hgE _) hgE _⟩
              have hy2 : wf.cell? ⟨g, 2, none⟩ = some (.int .i64 y.f2) := by
                rw [blk_cell HGF.out, ← Array.getElem?_toList]
                have h1 : (cur.toList.take ((r.length + 1) * 3))[2]? = some (Value.int .i64 y.f2) := by rw [htk]; rfl
                rw [List.getElem?_take] at h1
                split at h1
                · exact h1
                · cases h1
              have hyz := blk_frozen HGF.out 2
              have HTK := Aside0.mk htk
              clear hlk HOD HOW htk hgb
              go_wp2_with fail
              subst hl3
              rw [← hwf]
              clear hwf p0 p1 p2 p3 p4 p5 p6 p7 q0 q1 q2 q3 q4 q5 q6 q7 o0 o1 o2 o3 e0 e1 e2 e3 e4 e5
              obtain ⟨⟨p0, p1, p2, p3, p4, p5, p6, p7⟩, ⟨q0, q1, q2, q3, q4, q5, q6, q7⟩, ⟨e0, e1, e2, e3, e4, e5⟩, ⟨o0, o1, o2, o3⟩⟩ := HMF.out.all
              have hrp : (0 : Int) < (r.length : Int) + 1 := by omega
              go_region
              all_goals go_wp2_with fail
              obtain ⟨m, hm⟩ : ∃ m, m = min y.f2 (x.f2 - 1) := ⟨_, rfl⟩
              rw [← hm] at HS ⊢
              clear hm
              have hch1 : Chg (fun k => k = g) wf (wf.setCell ⟨g, 2, none⟩ (.int .i64 m)) := Chg.one _ _ _ _
              have hmh := HMF.out.chg hch1 (fun k hk => by omega) (by omega) (by omega)
              have hown : Own118 (wf.setCell ⟨g, 2, none⟩ (.int .i64 m)) w1.heap.size (.slice (some ⟨g, 0, none⟩) (r.length + 1) c1) (⟨y.f0, y.f1, m⟩ :: r) := by
                refine ⟨by rw [cellsOf_length c118_len], .inr ⟨g, c1, _, rfl, hgl, blk_set HGF.out 2 _, hnc, hcapm, by simpa using hcs, ?_⟩⟩
                have h3 := cellsOf_set (enc := c118) c118_len (y :: r) 0 2 (by simp) (by omega) (.int .i64 m) ⟨y.f0, y.f1, m⟩ rfl
                simp only [Nat.zero_mul, Nat.zero_add, List.set_cons_zero] at h3
                rw [← h3, ← HTK.out]
                simp only [List.length_cons, Array.toList_setIfInBounds, List.take_set]
              obtain ⟨wf', hwf'⟩ : ∃ wf', wf' = ((wf.setCell ⟨g, 2, none⟩ (.int .i64 m)).setCell ⟨w.heap.size, 0, none⟩ (.slice (some ⟨g, 0, none⟩) (r.length + 1) c1)).drew := ⟨_, rfl⟩
              have hmf' : Mem w wf' w2.heap.size N (.slice (some ⟨g, 0, none⟩) (r.length + 1) c1) (.int .i64 tun) (.int .i64 ttl) (.string pay) (.int .i64 3) (.int .i64 x.f1) (.int .i64 (x.f2 - 1)) (.int .i64 n') (.int .i64 3) := by
                rw [hwf']
                exact (hmh.p0 _).chg (S := fun _ => False) (Chg.refl _ _).drew (fun _ h => h.elim) (fun h => h) (fun h => h)
              have HMG := Aside0.mk hmf'
              have HCG : Aside0 (Chg (fun k => k = w.heap.size ∨ k = w.heap.size + 1) (wf.setCell ⟨g, 2, none⟩ (.int .i64 m)) wf') := ⟨by rw [hwf']; exact Chg.drew ((Chg.refl _ _).put _ _ (.inl (.inl rfl)) _)⟩
              have HGB : Aside0 (∃ cur, (wf.setCell ⟨g, 2, none⟩ (.int .i64 m)).heap[g]? = some (.cells cur 118 (0, 0))) := ⟨by
                rcases hown.2 with ⟨e, _⟩ | ⟨g', cap, cur, e, _, hg, _⟩
                · injection e with e1; cases e1
                · injection e with e1; injection e1 with e1; injection e1 with e1; subst e1; exact ⟨cur, hg⟩⟩
              obtain ⟨A2, c2, he2, hl2, _, hC2⟩ := hown.read
              injection he2 with he3 he5 he4
              clear he5
              subst he3 he4
              have HC5 := Aside0.mk hC2; have HLC := Aside0.mk hl2
              rw [← hwf']
              clear hwf' hmf' hmh hown hch1 hC2 hl2 hgE hgN hcapm hcs hnc hl3' hl3'' hrp HGF HTK hcm1' p0 p1 p2 p3 p4 p5 p6 p7 q0 q1 q2 q3 q4 q5 q6 q7 o0 o1 o2 o3 e0 e1 e2 e3 e4 e5 hy2 hyz
              obtain ⟨⟨p0, p1, p2, p3, p4, p5, p6, p7⟩, ⟨q0, q1, q2, q3, q4, q5, q6, q7⟩, _, ⟨o0, o1, o2, o3⟩⟩ := HMG.out.all
              go_region
              all_goals go_wp2
              refine bodyPost_ret (results_tct rfl _ _ (w.heap.size + 1) 25 #[.slice (some ⟨g, 0, none⟩) (r.length + 1) c1, .int .i64 tun, .int .i64 ttl, .string pay] (0, 0) _ rfl (blk_set (blk_set (blk_set (blk_set HMG.out.q 0 _) 1 _) 2 _) 3 _) Try.underlying25 rfl (by kernel_rfl)) rfl ?_
              rw [HS.out]
              refine step_ok (st := ⟨y.f0, y.f1, m⟩ :: r) (C_kept (S := fun k => k = w.heap.size ∨ k = w.heap.size + 1) (fun _ _ _ _ h => h) (Chg.drew (((((HCG.out.put _ _ (.inl (.inr rfl)) _).put _ _ (.inl (.inr rfl)) _).put _ _ (.inl (.inr rfl)) _).put _ _ (.inl (.inr rfl)) _))) HC5.out (fun x hx => ?_)) HLC.out (by refine Below.drew ?_; repeat (first | exact HMG.out.bel | refine below_set ?_ (by omega))) (fun a ha => by injection ha with ha; subst ha; exact ⟨by show w.heap.size ≤ g; omega, fun _ => by obtain ⟨cur, h⟩ := HGB.out; exact ⟨cur, (Chg.drew (((((HCG.out.put _ _ (.inl (.inr rfl)) _).put _ _ (.inl (.inr rfl)) _).put _ _ (.inl (.inr rfl)) _).put _ _ (.inl (.inr rfl)) _))).obj h (by show ¬ (g = w.heap.size ∨ g = w.heap.size + 1); omega)⟩⟩)
              injection hx with hx
              subst hx
              show ¬ (g = w.heap.size ∨ g = w.heap.size + 1)
              omega
          · have hl3' : (l' == 3) = false := beq_eq_false_iff_ne.2 hl3
            have hl3'' : (l' != 3) = true := bne_iff_ne.2 hl3
            have HS := Aside0.mk (step_f0 (T := T) HV.out hlk ht hl3)
            have HVE : Aside0 (validE ⟨l', x.f1, x.f2 - 1⟩ = true) := ⟨by simp [validE]; omega⟩
            clear hlk
            go_wp2_with fail
            obtain ⟨wd, hwd⟩ : ∃ wd, wd = ((wc.setCell ⟨w2.heap.size, 2, none⟩ (.int .i64 (x.f2 - 1))).setCell ⟨w2.heap.size, 0, none⟩ (.int .i64 l')).setCell ⟨w.heap.size, 0, none⟩ (.slice A1 t.length c1) := ⟨_, rfl⟩
            have HMD := Aside0.mk (((HM2.out.e2 (.int .i64 (x.f2 - 1))).e0 (.int .i64 l')).p0 (.slice A1 t.length c1))
            rw [← hwd] at HMD
            have HOF : Aside0 (Own118 wd w1.heap.size (.slice A1 t.length c1) t) := ⟨by
              rw [hwd]
              refine own_kept (S := fun k => k = w2.heap.size ∨ k = w.heap.size) (Chg.put (S := fun k => k = w2.heap.size ∨ k = w.heap.size) (Chg.put (S := fun k => k = w2.heap.size ∨ k = w.heap.size) (Chg.put (S := fun k => k = w2.heap.size ∨ k = w.heap.size) (.refl _ _) _ _ (.inl (.inl rfl)) _) _ _ (.inl (.inl rfl)) _) _ _ (.inl (.inr rfl)) _) HOD.out (fun k hk hs => ?_)
              have h1 := World.ownsRow.lt HOW.out k hk
              omega⟩
            obtain ⟨A2, c2, he2, hl2, _, hC2⟩ := HOF.out.read
            injection he2 with he3 he5 he4
            clear he5
            subst he3 he4
            rw [← hwd]
            clear hwd p0 p1 p2 p3 p4 p5 p6 p7 q0 q1 q2 q3 q4 q5 q6 q7 o0 o1 o2 o3 e0 e1 e2 e3 e4 e5
            refine (push_any A1 c1 t l' x.f1 (x.f2 - 1) _ hC2 hl2 (by omega) HVE.out).mono ?_
            rintro e w5 ⟨A', c', rfl, hC, hlc, hb5, hA⟩
            have HC5 := Aside0.mk hC; have HA5 := Aside0.mk hA; have HLC := Aside0.mk hlc
            have HM5 := Aside0.mk (HMD.out.below hb5)
            have hws := hb5.size
            have hwl := blk_lt HMD.out.q
            clear hC hA hlc hb5 hC2 hl2
            obtain ⟨⟨p0, p1, p2, p3, p4, p5, p6, p7⟩, ⟨q0, q1, q2, q3, q4, q5, q6, q7⟩, ⟨e0, e1, e2, e3, e4, e5⟩, ⟨o0, o1, o2, o3⟩⟩ := HM5.out.all
            go_wp2_with fail
            obtain ⟨wf, hwf⟩ : ∃ wf, wf = w5.setCell ⟨w.heap.size, 0, none⟩ (.slice A' (t.length + 1) c') := ⟨_, rfl⟩
            have HMF := Aside0.mk (HM5.out.p0 (.slice A' (t.length + 1) c'))
            rw [← hwf] at HMF
            rw [← hwf]
            have HCG : Aside0 (Chg (fun k => k = w.heap.size ∨ k = w.heap.size + 1) w5 wf) := ⟨by rw [hwf]; exact (Chg.refl _ _).put _ _ (.inl (.inl rfl)) _⟩
            clear hwf p0 p1 p2 p3 p4 p5 p6 p7 q0 q1 q2 q3 q4 q5 q6 q7 o0 o1 o2 o3 e0 e1 e2 e3 e4 e5
            obtain ⟨⟨p0, p1, p2, p3, p4, p5, p6, p7⟩, ⟨q0, q1, q2, q3, q4, q5, q6, q7⟩, _, ⟨o0, o1, o2, o3⟩⟩ := HMF.out.all
            go_region
            all_goals go_wp2
            refine bodyPost_ret (results_tct rfl _ _ (w.heap.size + 1) 25 #[.slice A' (t.length + 1) c', .int .i64 tun, .int .i64 ttl, .string pay] (0, 0) _ rfl (blk_set (blk_set (blk_set (blk_set HMF.out.q 0 _) 1 _) 2 _) 3 _) Try.underlying25 rfl (by kernel_rfl)) rfl ?_
            rw [HS.out]
            refine step_ok (st := ⟨l', x.f1, x.f2 - 1⟩ :: t) (C_kept (S := fun k => k = w.heap.size ∨ k = w.heap.size + 1) (fun _ _ _ _ h => h) (Chg.drew (((((HCG.out.put _ _ (.inl (.inr rfl)) _).put _ _ (.inl (.inr rfl)) _).put _ _ (.inl (.inr rfl)) _).put _ _ (.inl (.inr rfl)) _))) HC5.out (fun x hx => ?_)) HLC.out (by refine Below.drew ?_; repeat (first | exact HMF.out.bel | refine below_set ?_ (by omega))) (fun a ha => ⟨by have := (HA5.out a ha).1; omega, fun _ => by obtain ⟨cur, h⟩ := (HA5.out a ha).2; exact ⟨cur, (Chg.drew (((((HCG.out.put _ _ (.inl (.inr rfl)) _).put _ _ (.inl (.inr rfl)) _).put _ _ (.inl (.inr rfl)) _).put _ _ (.inl (.inr rfl)) _))).obj h (by have := (HA5.out a ha).1; omega)⟩⟩)
            have := (HA5.out x hx).1
            omega
end Go.Proofs.Ytmnpmjphhkiedaa.LF
