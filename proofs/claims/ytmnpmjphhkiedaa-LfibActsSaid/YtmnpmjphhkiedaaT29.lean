import Derived.Test.YtmnpmjphhkiedaaT28
import Derived.Deep.RegionHeld3
namespace Go.Proofs.Ytmnpmjphhkiedaa.LF
open Go.RowKit Go.Proofs.YtmnpmjphhkiedaaW.PrintWords Go.Proofs.YtmnpmjphhkiedaaW.PrintLast Go.Proofs.YtmnpmjphhkiedaaW.PrintMore Go.Proofs.Ytmnpmjphhkiedaa.PLfibActs Go.Proofs.Ytmnpmjphhkiedaa.Lib

/-- The acts as they lie: kinds, numbers, packets. -/
def ActsFull (w : World) (A : Option Addr) (n : Nat) : Prop :=
  ∀ i, i < n → ∃ ad, A = some ad ∧ ∃ kd lb nx ll A' c, ∃ q : Pkt, PktAt w A' c q ∧ (0 ≤ kd ∧ kd ≤ 255) ∧ (-9223372036854775808 ≤ lb ∧ lb ≤ 9223372036854775807) ∧ w.cell? (ad.add (i * 8)) = some (.int .u8 kd) ∧
    ∀ j u, 1 ≤ j → [Value.int .u8 kd, .int .i64 lb, .int .i64 nx, .int .i64 ll, .slice A' q.st.length c, .int .i64 q.tun, .int .i64 q.ttl, .string q.pay][j]? = some u → w.cell? ⟨ad.block, ad.off + (i * 8 + j), none⟩ = some u

/-- The loop's world: both tables alike. -/
def RelA (w : World) (tb g : Nat) (most : Int) (W : World) : Prop :=
  ∃ F V1 V2 L T, Both w W tb g F most V1 V2 L T L T ∧ OutsOk L ∧ OutsOk T

theorem rows_any (A B : Option Addr) (c d : Nat) (L : List S95) (w : World) (h1 : Kd.C k95 w A L.length L) (c1 : L.length ≤ c) (h2 : Kd.C k144 w B L.length (L.map toR)) (c2 : L.length ≤ d) (hL : L.length ≤ 64) :
    Calls Try.prog 55 #[.slice A L.length c, .slice B L.length d] w fun e w' => e = .returned (.bool true) ∧ Below w.heap.size w w' := by
  have := viaductlaw05_rows.calls 100 A c L B d (L.map toR) true w h1 c1 (by rw [List.length_map]; exact h2) (by rw [List.length_map]; exact c2) (rows_f L hL)
  rw [List.length_map] at this
  exact Calls.mono this fun e w' h => ⟨h.1, h.2.below⟩
theorem stepP_len (L T : List S95) (p : Pkt) : (stepP L T p).2.1.st.length ≤ 9 := by
  unfold stepP
  split
  · simp [noPkt]
  · rename_i hv
    have h8 : p.st.length ≤ 8 := by
      have : validP p = true := by simpa using hv
      simp [validP] at this
      omega
    split
    · split
      · simp [noPkt]
      · split
        · simp [noPkt]
        · simp only; split <;> simp
    · rename_i x t hst
      rw [hst] at h8
      simp only [List.length_cons] at h8
      split
      · simp [noPkt]
      · split
        · simp [noPkt]
        · split
          · split
            · simp
            · simp only [List.length_cons] at h8 ⊢; omega
          · simp only [List.length_cons]; omega

set_option maxRecDepth 100000 in
set_option maxHeartbeats 8000000 in
theorem acts_walk (size : Int) (A0 : Option Addr) (n0 c0 : Nat) (w : World) (ha : ActsFull w A0 n0) (hn0 : n0 ≤ 9223372036854775807) :
    Calls Try.prog 9 #[.int .i64 size, .slice A0 n0 c0] w fun e w' => e = .returned (.bool true) ∧ Below w.heap.size w w' := by
  have HA := Aside0.mk ha
  clear ha
  go_enter Try.func9, Try.ntmps9
  go_wp2_with fail
  refine (alive_any _).mono ?_
  rintro e w1 ⟨rfl, hb1⟩
  have HB1 := Aside0.mk hb1
  clear hb1
  go_wp2_with fail
  by_cases hsz : 1 ≤ size ∧ size ≤ 64
  · refine (new_yes size _ hsz.1 hsz.2).mono ?_
    rintro e w2 ⟨rfl, hb2, ht2⟩
    have z1 := hsz.1
    have z2 := hsz.2
    obtain ⟨tb, htb⟩ : ∃ tb, tb = w1.heap.size := ⟨_, rfl⟩
    rw [← htb] at ht2 ⊢
    have HT2 := Aside0.mk ht2
    have HB2 := Aside0.mk (below_step HB1.out hb2)
    have hs1 := HB1.out.size
    have hs2 := hb2.size
    have htl : tb < w2.heap.size := by
      obtain ⟨vl, vt, h, _⟩ := ht2.at_
      exact blk_lt h
    have htw : w.heap.size ≤ tb := by omega
    clear hb2 ht2 hsz htb hs1
    go_upto_region 7 with fail
    obtain ⟨g, hg⟩ : ∃ g, g = w2.heap.size := ⟨_, rfl⟩
    obtain ⟨w3, hw3⟩ : ∃ w3, w3 = w2.alloc (.cells #[.slice none 0 0, .slice none 0 0, .int .i64 size] 101) := ⟨_, rfl⟩
    rw [← hw3, ← hg]
    have hb3 : Below w2.heap.size w2 w3 := by rw [hw3]; exact (Below.refl _ _).alloc (Nat.le_refl _) _
    have HR : Aside0 (RelA w tb g size w3) := ⟨by
      obtain ⟨G, hG⟩ := Both.tight (w := w) (g := g) (most := size) (V1 := .slice none 0 0) (V2 := .slice none 0 0) (L := []) (T := []) (L0 := []) (T0 := []) (HT2.out.below hb3) (below_step HB2.out hb3) (fun k hk => by omega) (by omega) ⟨by rw [hw3, hg]; exact blk_new w2 _, Kd.R_nil _ _ _ _ _, Kd.R_nil _ _ _ _ _, fun k hk => by simp [Value.ownBlock] at hk, fun k hk => by simp [Value.ownBlock] at hk⟩
      exact ⟨G, _, _, [], [], hG, outs_nil, outs_nil⟩⟩
    have hgw : w.heap.size ≤ g := by have := HB2.out.size; omega
    clear hb3 hw3 HT2 HB2 htl hg hs2
    go_wp2_with fail
    go_loopw [7] (fun v7 wr => ∃ i : Nat, i ≤ n0 ∧ i ≤ 80 ∧ v7 = .int .i64 i ∧ Aside0 (RelA w tb g size wr)) (fun v7 _ => n0 - (intOf v7).toNat)
    case atStart => exact ⟨0, Nat.zero_le _, Nat.zero_le _, rfl, HR⟩
    case round =>
      clear HR
      obtain ⟨i, hi1, hi2, rfl, HR⟩ := hrel
      by_cases hlt : i < n0
      · by_cases h80 : i < 80
        · obtain ⟨F, V1, V2, L, T, hB, hO, hOT⟩ := HR.out
          obtain ⟨ad, e, kd, lb, nx, ll, Ap, cp, q, hq, ⟨k1, k2⟩, ⟨l1, l2⟩, hc0, hcj⟩ := HA.out i hlt
          subst e
          have bel := hB.bel
          have x0 := (bel.cell (World.block_lt_of_cell? w _ hc0)).trans hc0
          have xj : ∀ j u, 1 ≤ j → [Value.int .u8 kd, .int .i64 lb, .int .i64 nx, .int .i64 ll, .slice Ap q.st.length cp, .int .i64 q.tun, .int .i64 q.ttl, .string q.pay][j]? = some u → wr.cell? ⟨(ad.add (i * 8)).block, (ad.add (i * 8)).off + j, none⟩ = some u := fun j u hj hu => by
            rw [add_cell]
            have := hcj j u hj hu
            exact (bel.cell (World.block_lt_of_cell? w _ this)).trans this
          have x1 := xj 1 _ (by omega) rfl
          have x2 := xj 2 _ (by omega) rfl
          have x3 := xj 3 _ (by omega) rfl
          have x4 := xj 4 _ (by omega) rfl
          have x5 := xj 5 _ (by omega) rfl
          have x6 := xj 6 _ (by omega) rfl
          have x7 := xj 7 _ (by omega) rfl
          have HBO := Aside0.mk hB; have HOL := Aside0.mk hO; have HOT := Aside0.mk hOT; have HQ := Aside0.mk hq
          clear hB hO hOT hq xj hcj hc0 bel
          have hwi : IntKind.i64.wrap ((i : Int) + 1) = (i : Int) + 1 := IntWalk.i64_in _ (by omega)
          go_upto_region 11 with fail
          obtain ⟨N, hN⟩ : ∃ N, N = wr.heap.size := ⟨_, rfl⟩
          obtain ⟨w4, hw4⟩ : ∃ w4, w4 = wr.alloc (.cells #[.int .u8 kd, .int .i64 lb, .int .i64 nx, .int .i64 ll, .slice Ap q.st.length cp, .int .i64 q.tun, .int .i64 q.ttl, .string q.pay] 34) := ⟨_, rfl⟩
          rw [← hw4, ← hN]
          have hb4 : Below wr.heap.size wr w4 := by rw [hw4]; exact (Below.refl _ _).alloc (Nat.le_refl _) _
          have HN4 : Aside0 (w4.heap[N]? = some (.cells #[.int .u8 kd, .int .i64 lb, .int .i64 nx, .int .i64 ll, .slice Ap q.st.length cp, .int .i64 q.tun, .int .i64 q.ttl, .string q.pay] 34 (0, 0))) := ⟨by rw [hw4, hN]; exact blk_new wr _⟩
          have hB4 := HBO.out.below hb4
          have HQ4 := Aside0.mk ((HQ.out.below HBO.out.bel).below hb4)
          have HFN : Aside0 (∀ k, (F k ∨ k = g ∨ V1.ownBlock = some k ∨ V2.ownBlock = some k) → k < N) := ⟨fun k hk => by
            rw [hN]
            rcases hk with h | h | h | h
            · exact (HBO.out.far k h).2.2
            · rw [h]; exact blk_lt HBO.out.ref.1
            · exact ((Kd.R_bound HBO.out.ref.2.1).1 k h).2.2.1
            · exact ((Kd.R_bound HBO.out.ref.2.2.1).1 k h).2.2.1⟩
          have HB4 := Aside0.mk hB4
          clear hw4 hN hb4 hB4 x0 x1 x2 x3 x4 x5 x6 x7 HBO HQ
          have y0 := (blk_cell HN4.out 0).trans rfl; have y1 := (blk_cell HN4.out 1).trans rfl; have y2 := (blk_cell HN4.out 2).trans rfl; have y3 := (blk_cell HN4.out 3).trans rfl
          have y4 := (blk_cell HN4.out 4).trans rfl; have y5 := (blk_cell HN4.out 5).trans rfl; have y6 := (blk_cell HN4.out 6).trans rfl; have y7 := (blk_cell HN4.out 7).trans rfl
          go_upto_block 2 with fail
          have h80' : decide ((i : Int) < 80) = true := decide_eq_true (by omega)
          simp only [h80']
          clear h80'
          obtain ⟨m, hm⟩ : ∃ m, m = kd % 5 := ⟨_, rfl⟩
          have hmm : m = 0 ∨ m = 1 ∨ m = 2 ∨ m = 3 ∨ m = 4 := by omega
          rw [← hm]
          clear hm
          go_cut [9, 10, 11, 12, 13, 14, 15, 16] from 53 to 151 (fun v9 v10 v11 v12 v13 v14 v15 v16 wc => ∃ c : Int, v9 = .int .i64 c ∧ v10 = .int .i64 c ∧ Aside0 (RelA w tb g size wc))
          case first =>
            rcases hmm with rfl | rfl | rfl | rfl | rfl
            · go_wp2_with fail
              refine (bind_any tb F size L T lb nx ll _ HB4.out.tab).mono ?_
              intro e w5 hp5
              have hc5 : Chg F w4 w5 := by obtain ⟨_, _, _, h, _⟩ := hp5; exact h
              obtain ⟨rfl, G, hB5⟩ := HB4.out.ours hp5
              have HN5 := Aside0.mk (hc5.obj HN4.out (fun hk => Nat.lt_irrefl _ (HFN.out N (.inl hk))))
              clear hc5 hp5
              have HGL := Aside0.mk (HB4.out.tab.gl)
              have HGT := Aside0.mk (HB4.out.tab.gt)
              obtain ⟨A1, d1, e1, hd1, hC1⟩ := Kd.R_reads hB5.ref.2.1
              obtain ⟨A2, d2, e2, hd2, hC2⟩ := Kd.R_reads hB5.ref.2.2.1
              rw [List.length_map] at e1 e2
              subst e1 e2
              clear hd1 hd2 hC1 hC2
              have HB5 := Aside0.mk hB5
              obtain ⟨g0, g1, g2, _⟩ := blk3 hB5.ref.1
              clear hB5 y0 y1 y2 y3 y4 y5 y6 y7
              have y0 := (blk_cell HN5.out 0).trans rfl; have y1 := (blk_cell HN5.out 1).trans rfl; have y2 := (blk_cell HN5.out 2).trans rfl; have y3 := (blk_cell HN5.out 3).trans rfl
              obtain ⟨c, hc⟩ : ∃ c, c = (bindL L size lb nx ll).2 := ⟨_, rfl⟩
              have HRF := Aside0.mk (bind_f HGL.out T size lb nx ll)
              rw [← hc] at HRF ⊢
              clear hc
              go_wp2_with fail
              refine (viaductref05_Bind.calls 100 (fun k => some k = (Value.slice A1 L.length d1).ownBlock) (.slice A1 L.length d1) (L.map toR) (fun k => some k = (Value.slice A2 T.length d2).ownBlock) (.slice A2 T.length d2) (T.map toR) size lb nx ll _ _ _ _ w w5 HB5.out.bel HB5.out.ref.2.1 (fun k h1 h2 => HB5.out.ref.2.2.2.1 k h1.symm h2.symm) HB5.out.ref.2.2.1 (fun k h1 h2 => HB5.out.ref.2.2.2.1 k h2.symm h1.symm) HRF.out).mono ?_
              rintro e w6 ⟨v0, v1, rfl, hR0, hR1, hb6, hk6⟩
              have HB6 := Aside0.mk (HB5.out.refs hR0 hR1 hb6 hk6)
              obtain ⟨f0, f1, f2, f3, f4, f5⟩ := blk3 ((chg_of_kept HB5.out.bel hb6 hk6).obj HB5.out.ref.1 (fun hk => (HB5.out.ref.2.2.2.2 g (hk.imp Eq.symm Eq.symm)).2 rfl))
              obtain ⟨A3, d3, e3, _, _⟩ := Kd.R_reads hR0
              obtain ⟨A4, d4, e4, _, _⟩ := Kd.R_reads hR1
              rw [List.length_map] at e3 e4
              subst e3 e4
              clear hR0 hR1 hb6 hk6 g0 g1 g2 y0 y1 y2 y3
              go_wp2_with fail
              go_meet
              exact ⟨c, rfl, rfl, ⟨⟨_, _, _, _, _, HB6.out, outs_bind HOL.out, HOT.out⟩⟩⟩
            · go_wp2_with fail
              refine (free_any tb F size L T lb _ HB4.out.tab l1 l2).mono ?_
              intro e w5 hp5
              have hc5 : Chg F w4 w5 := by obtain ⟨_, _, _, h, _⟩ := hp5; exact h
              obtain ⟨rfl, G, hB5⟩ := HB4.out.ours hp5
              have HN5 := Aside0.mk (hc5.obj HN4.out (fun hk => Nat.lt_irrefl _ (HFN.out N (.inl hk))))
              clear hc5 hp5
              have HGL := Aside0.mk (HB4.out.tab.gl)
              have HGT := Aside0.mk (HB4.out.tab.gt)
              obtain ⟨A1, d1, e1, hd1, hC1⟩ := Kd.R_reads hB5.ref.2.1
              obtain ⟨A2, d2, e2, hd2, hC2⟩ := Kd.R_reads hB5.ref.2.2.1
              rw [List.length_map] at e1 e2
              subst e1 e2
              clear hd1 hd2 hC1 hC2
              have HB5 := Aside0.mk hB5
              obtain ⟨g0, g1, g2, _⟩ := blk3 hB5.ref.1
              clear hB5 y0 y1 y2 y3 y4 y5 y6 y7
              have y0 := (blk_cell HN5.out 0).trans rfl; have y1 := (blk_cell HN5.out 1).trans rfl; have y2 := (blk_cell HN5.out 2).trans rfl; have y3 := (blk_cell HN5.out 3).trans rfl
              obtain ⟨c, hc⟩ : ∃ c, c = (dropL L lb).2 := ⟨_, rfl⟩
              have HRF := Aside0.mk (free_f L T HGL.out.1 size lb)
              rw [← hc] at HRF ⊢
              clear hc
              go_wp2_with fail
              refine (viaductref05_Free.calls 100 (fun k => some k = (Value.slice A1 L.length d1).ownBlock) (.slice A1 L.length d1) (L.map toR) (fun k => some k = (Value.slice A2 T.length d2).ownBlock) (.slice A2 T.length d2) (T.map toR) size lb _ _ _ _ w w5 HB5.out.bel HB5.out.ref.2.1 (fun k h1 h2 => HB5.out.ref.2.2.2.1 k h1.symm h2.symm) HB5.out.ref.2.2.1 (fun k h1 h2 => HB5.out.ref.2.2.2.1 k h2.symm h1.symm) HRF.out).mono ?_
              rintro e w6 ⟨v0, v1, rfl, hR0, hR1, hb6, hk6⟩
              have HB6 := Aside0.mk (HB5.out.refs hR0 hR1 hb6 hk6)
              obtain ⟨f0, f1, f2, f3, f4, f5⟩ := blk3 ((chg_of_kept HB5.out.bel hb6 hk6).obj HB5.out.ref.1 (fun hk => (HB5.out.ref.2.2.2.2 g (hk.imp Eq.symm Eq.symm)).2 rfl))
              obtain ⟨A3, d3, e3, _, _⟩ := Kd.R_reads hR0
              obtain ⟨A4, d4, e4, _, _⟩ := Kd.R_reads hR1
              rw [List.length_map] at e3 e4
              subst e3 e4
              clear hR0 hR1 hb6 hk6 g0 g1 g2 y0 y1 y2 y3
              go_wp2_with fail
              go_meet
              exact ⟨c, rfl, rfl, ⟨⟨_, _, _, _, _, HB6.out, outs_drop HOL.out, HOT.out⟩⟩⟩
            · go_wp2_with fail
              refine (map_any tb F size L T lb nx ll _ HB4.out.tab).mono ?_
              intro e w5 hp5
              have hc5 : Chg F w4 w5 := by obtain ⟨_, _, _, h, _⟩ := hp5; exact h
              obtain ⟨rfl, G, hB5⟩ := HB4.out.ours hp5
              have HN5 := Aside0.mk (hc5.obj HN4.out (fun hk => Nat.lt_irrefl _ (HFN.out N (.inl hk))))
              clear hc5 hp5
              have HGL := Aside0.mk (HB4.out.tab.gl)
              have HGT := Aside0.mk (HB4.out.tab.gt)
              obtain ⟨A1, d1, e1, hd1, hC1⟩ := Kd.R_reads hB5.ref.2.1
              obtain ⟨A2, d2, e2, hd2, hC2⟩ := Kd.R_reads hB5.ref.2.2.1
              rw [List.length_map] at e1 e2
              subst e1 e2
              clear hd1 hd2 hC1 hC2
              have HB5 := Aside0.mk hB5
              obtain ⟨g0, g1, g2, _⟩ := blk3 hB5.ref.1
              clear hB5 y0 y1 y2 y3 y4 y5 y6 y7
              have y0 := (blk_cell HN5.out 0).trans rfl; have y1 := (blk_cell HN5.out 1).trans rfl; have y2 := (blk_cell HN5.out 2).trans rfl; have y3 := (blk_cell HN5.out 3).trans rfl
              obtain ⟨c, hc⟩ : ∃ c, c = (mapL T size lb nx ll).2 := ⟨_, rfl⟩
              have HRF := Aside0.mk (map_f HGT.out L size lb nx ll)
              rw [← hc] at HRF ⊢
              clear hc
              go_wp2_with fail
              refine (viaductref05_Map.calls 100 (fun k => some k = (Value.slice A1 L.length d1).ownBlock) (.slice A1 L.length d1) (L.map toR) (fun k => some k = (Value.slice A2 T.length d2).ownBlock) (.slice A2 T.length d2) (T.map toR) size lb nx ll _ _ _ _ w w5 HB5.out.bel HB5.out.ref.2.1 (fun k h1 h2 => HB5.out.ref.2.2.2.1 k h1.symm h2.symm) HB5.out.ref.2.2.1 (fun k h1 h2 => HB5.out.ref.2.2.2.1 k h2.symm h1.symm) HRF.out).mono ?_
              rintro e w6 ⟨v0, v1, rfl, hR0, hR1, hb6, hk6⟩
              have HB6 := Aside0.mk (HB5.out.refs hR0 hR1 hb6 hk6)
              obtain ⟨f0, f1, f2, f3, f4, f5⟩ := blk3 ((chg_of_kept HB5.out.bel hb6 hk6).obj HB5.out.ref.1 (fun hk => (HB5.out.ref.2.2.2.2 g (hk.imp Eq.symm Eq.symm)).2 rfl))
              obtain ⟨A3, d3, e3, _, _⟩ := Kd.R_reads hR0
              obtain ⟨A4, d4, e4, _, _⟩ := Kd.R_reads hR1
              rw [List.length_map] at e3 e4
              subst e3 e4
              clear hR0 hR1 hb6 hk6 g0 g1 g2 y0 y1 y2 y3
              go_wp2_with fail
              go_meet
              exact ⟨c, rfl, rfl, ⟨⟨_, _, _, _, _, HB6.out, HOL.out, outs_map HOT.out⟩⟩⟩
            · go_wp2_with fail
              refine (unmap_any tb F size L T lb _ HB4.out.tab l1 l2).mono ?_
              intro e w5 hp5
              have hc5 : Chg F w4 w5 := by obtain ⟨_, _, _, h, _⟩ := hp5; exact h
              obtain ⟨rfl, G, hB5⟩ := HB4.out.ours hp5
              have HN5 := Aside0.mk (hc5.obj HN4.out (fun hk => Nat.lt_irrefl _ (HFN.out N (.inl hk))))
              clear hc5 hp5
              have HGL := Aside0.mk (HB4.out.tab.gl)
              have HGT := Aside0.mk (HB4.out.tab.gt)
              obtain ⟨A1, d1, e1, hd1, hC1⟩ := Kd.R_reads hB5.ref.2.1
              obtain ⟨A2, d2, e2, hd2, hC2⟩ := Kd.R_reads hB5.ref.2.2.1
              rw [List.length_map] at e1 e2
              subst e1 e2
              clear hd1 hd2 hC1 hC2
              have HB5 := Aside0.mk hB5
              obtain ⟨g0, g1, g2, _⟩ := blk3 hB5.ref.1
              clear hB5 y0 y1 y2 y3 y4 y5 y6 y7
              have y0 := (blk_cell HN5.out 0).trans rfl; have y1 := (blk_cell HN5.out 1).trans rfl; have y2 := (blk_cell HN5.out 2).trans rfl; have y3 := (blk_cell HN5.out 3).trans rfl
              obtain ⟨c, hc⟩ : ∃ c, c = (dropL T lb).2 := ⟨_, rfl⟩
              have HRF := Aside0.mk (unmap_f L T HGT.out.1 size lb)
              rw [← hc] at HRF ⊢
              clear hc
              go_wp2_with fail
              refine (viaductref05_Unmap.calls 100 (fun k => some k = (Value.slice A1 L.length d1).ownBlock) (.slice A1 L.length d1) (L.map toR) (fun k => some k = (Value.slice A2 T.length d2).ownBlock) (.slice A2 T.length d2) (T.map toR) size lb _ _ _ _ w w5 HB5.out.bel HB5.out.ref.2.1 (fun k h1 h2 => HB5.out.ref.2.2.2.1 k h1.symm h2.symm) HB5.out.ref.2.2.1 (fun k h1 h2 => HB5.out.ref.2.2.2.1 k h2.symm h1.symm) HRF.out).mono ?_
              rintro e w6 ⟨v0, v1, rfl, hR0, hR1, hb6, hk6⟩
              have HB6 := Aside0.mk (HB5.out.refs hR0 hR1 hb6 hk6)
              obtain ⟨f0, f1, f2, f3, f4, f5⟩ := blk3 ((chg_of_kept HB5.out.bel hb6 hk6).obj HB5.out.ref.1 (fun hk => (HB5.out.ref.2.2.2.2 g (hk.imp Eq.symm Eq.symm)).2 rfl))
              obtain ⟨A3, d3, e3, _, _⟩ := Kd.R_reads hR0
              obtain ⟨A4, d4, e4, _, _⟩ := Kd.R_reads hR1
              rw [List.length_map] at e3 e4
              subst e3 e4
              clear hR0 hR1 hb6 hk6 g0 g1 g2 y0 y1 y2 y3
              go_wp2_with fail
              go_meet
              exact ⟨c, rfl, rfl, ⟨⟨_, _, _, _, _, HB6.out, HOL.out, outs_drop HOT.out⟩⟩⟩
            · go_wp2_with fail
              refine (fits_any Ap cp q _ HQ4.out).mono ?_
              rintro e w5 ⟨rfl, hb5⟩
              have HB5 := Aside0.mk (HB4.out.below hb5)
              have HN5 := Aside0.mk (blk_below HN4.out hb5)
              have HQ5 := Aside0.mk (HQ4.out.below hb5)
              clear hb5 y0 y1 y2 y3 y4 y5 y6 y7
              have y4 := (blk_cell HN5.out 4).trans rfl; have y5 := (blk_cell HN5.out 5).trans rfl; have y6 := (blk_cell HN5.out 6).trans rfl; have y7 := (blk_cell HN5.out 7).trans rfl
              by_cases hfit : q.st.length ≤ 100 ∧ q.pay.size ≤ 5000
              · have hft : (decide (q.st.length ≤ 100) && decide (q.pay.size ≤ 5000)) = true := by simp [hfit.1, hfit.2]
                rw [hft]
                have hq100 := hfit.1
                clear hft hfit
                go_wp2_with fail
                refine (step_any tb F size L T Ap cp q _ HB5.out.tab HQ5.out HOL.out HOT.out).mono ?_
                rintro e w6 ⟨A6, c6, rfl, hC6, hlc6, hb6, _⟩
                obtain ⟨r, hr⟩ : ∃ r, r = stepP L T q := ⟨_, rfl⟩
                have HRL : Aside0 (r.2.1.st.length ≤ 9) := ⟨by rw [hr]; exact stepP_len L T q⟩
                have HRR := Aside0.mk hr
                rw [← hr] at hC6 hlc6 ⊢
                clear hr
                obtain ⟨rn, ⟨rs, rtun, rttl, rpay⟩, re⟩ := r
                simp only at hC6 hlc6 HRL ⊢
                have HC6 := Aside0.mk hC6; have HL6 := Aside0.mk hlc6; have HB56 := Aside0.mk hb6
                clear hC6 hlc6 hb6 y4 y5 y6 y7
                go_upto_region 15 with fail
                obtain ⟨N6, hN6⟩ : ∃ N6, N6 = w6.heap.size := ⟨_, rfl⟩
                obtain ⟨w7, hw7⟩ : ∃ w7, w7 = w6.alloc (.cells #[.slice A6 rs.length c6, .int .i64 rtun, .int .i64 rttl, .string rpay] 25) := ⟨_, rfl⟩
                rw [← hw7, ← hN6]
                have hb67 : Below w6.heap.size w6 w7 := by rw [hw7]; exact (Below.refl _ _).alloc (Nat.le_refl _) _
                have HT7 : Aside0 (w7.heap[N6]? = some (.cells #[.slice A6 rs.length c6, .int .i64 rtun, .int .i64 rttl, .string rpay] 25 (0, 0))) := ⟨by rw [hw7, hN6]; exact blk_new w6 _⟩
                have hb57 := below_step HB56.out hb67
                have hB7 := HB5.out.below hb57
                have HN7 := Aside0.mk (blk_below HN5.out hb57)
                have HQ7 := Aside0.mk (HQ5.out.below hb57)
                have HC7 := Aside0.mk (Kd.C_below HC6.out hb67)
                obtain ⟨A1, d1, e1, hd1, hC1⟩ := Kd.R_reads hB7.ref.2.1
                obtain ⟨A2, d2, e2, hd2, hC2⟩ := Kd.R_reads hB7.ref.2.2.1
                rw [List.length_map] at e1 e2 hd1 hd2 hC1 hC2
                subst e1 e2
                have HD1 := Aside0.mk hd1; have HD2 := Aside0.mk hd2; have HC1 := Aside0.mk hC1; have HC2 := Aside0.mk hC2
                have HB7 := Aside0.mk hB7
                obtain ⟨g0, g1, g2, _⟩ := blk3 hB7.ref.1
                clear hw7 hN6 hb67 hb57 hB7 hd1 hd2 hC1 hC2
                have y4 := (blk_cell HN7.out 4).trans rfl; have y5 := (blk_cell HN7.out 5).trans rfl; have y6 := (blk_cell HN7.out 6).trans rfl; have y7 := (blk_cell HN7.out 7).trans rfl
                go_wp2_with fail
                refine (rstep_any A1 A2 d1 d2 L T size Ap cp q _ HC1.out HD1.out HB7.out.tab.gl.1 HC2.out HD2.out HB7.out.tab.gt.1 HQ7.out hq100).mono ?_
                rintro e w8 ⟨V, he8, hRV, hb8⟩
                rw [← HRR.out] at hRV he8
                simp only at hRV he8
                subst he8
                obtain ⟨A8, c8, eV, hc8, hC8⟩ := Kd.R_reads hRV
                subst eV
                have HC8 := Aside0.mk hC8; have HL8 := Aside0.mk hc8; have HB78 := Aside0.mk hb8
                clear hRV hc8 hC8 hb8 y4 y5 y6 y7 g0 g1 g2
                go_upto_region 16 with fail
                obtain ⟨N8, hN8⟩ : ∃ N8, N8 = w8.heap.size := ⟨_, rfl⟩
                obtain ⟨w9, hw9⟩ : ∃ w9, w9 = w8.alloc (.cells #[.slice A8 rs.length c8, .int .i64 rtun, .int .i64 rttl, .string rpay] 25) := ⟨_, rfl⟩
                rw [← hw9, ← hN8]
                have hb89 : Below w8.heap.size w8 w9 := by rw [hw9]; exact (Below.refl _ _).alloc (Nat.le_refl _) _
                have HT9 : Aside0 (w9.heap[N8]? = some (.cells #[.slice A8 rs.length c8, .int .i64 rtun, .int .i64 rttl, .string rpay] 25 (0, 0))) := ⟨by rw [hw9, hN8]; exact blk_new w8 _⟩
                have hb79 := below_step HB78.out hb89
                have HB9 := Aside0.mk (HB7.out.below hb79)
                have HC79 := Aside0.mk (Kd.C_below HC7.out hb79)
                have HC89 := Aside0.mk (Kd.C_below HC8.out hb89)
                obtain ⟨s0, s1, s2, s3, _⟩ := blk4 (blk_below HT7.out hb79)
                obtain ⟨t0, t1, t2, t3, _⟩ := blk4 HT9.out
                clear hw9 hN8 hb89 hb79
                go_wp2_with fail
                refine (viaductref05_Same.calls 200 A6 c6 rs rtun rttl rpay A8 c8 rs rtun rttl rpay true _ HC79.out HL6.out HC89.out HL8.out (same_f rs rtun rttl rpay (by have := HRL.out; omega))).mono ?_
                rintro e w10 ⟨rfl, hb10⟩
                have HB10 := Aside0.mk (HB9.out.below hb10)
                clear hb10 s0 s1 s2 s3 t0 t1 t2 t3
                go_wp2_with fail
                go_meet
                exact ⟨re, rfl, rfl, ⟨⟨_, _, _, _, _, HB10.out, HOL.out, HOT.out⟩⟩⟩
              · have hft : (decide (q.st.length ≤ 100) && decide (q.pay.size ≤ 5000)) = false := by
                  by_cases h1 : q.st.length ≤ 100
                  · have h2 : ¬ q.pay.size ≤ 5000 := fun h2 => hfit ⟨h1, h2⟩
                    simp [h2]
                  · simp [h1]
                rw [hft]
                clear hft hfit y4 y5 y6 y7
                go_wp2_with fail
                go_roundw
                case rel => exact ⟨i + 1, hlt, by omega, rfl, ⟨⟨_, _, _, _, _, HB5.out, HOL.out, HOT.out⟩⟩⟩
                case measure => simp [intOf]; omega
          case rest =>
            clear y0 y1 y2 y3 y4 y5 y6 y7 hmm
            obtain ⟨c, rfl, rfl, HRC⟩ := hcut
            obtain ⟨wb, rfl⟩ : ∃ wb : World, wb = wc := ⟨_, rfl⟩
            clear HB4 HFN HN4 HOL HOT HQ4 HR
            obtain ⟨G, V1', V2', L', T', hB, hO, hOT⟩ := HRC.out
            obtain ⟨A1, d1, e1, hd1, hC1⟩ := Kd.R_reads hB.ref.2.1
            obtain ⟨A2, d2, e2, hd2, hC2⟩ := Kd.R_reads hB.ref.2.2.1
            rw [List.length_map] at e1 e2 hd1 hd2 hC1 hC2
            subst e1 e2
            have HD1 := Aside0.mk hd1; have HD2 := Aside0.mk hd2; have HC1 := Aside0.mk hC1; have HC2 := Aside0.mk hC2
            have HLL := Aside0.mk hB.tab.gl.1; have HLT := Aside0.mk hB.tab.gt.1
            have HT := Aside0.mk hB.tab
            have HG := Aside0.mk hB.ref.1
            obtain ⟨g0, g1, g2, _⟩ := blk3 hB.ref.1
            have KG : Aside0 (∀ W, Below wb.heap.size wb W → W.cell? ⟨g, 0, none⟩ = some (.slice A1 L'.length d1) ∧ W.cell? ⟨g, 1, none⟩ = some (.slice A2 T'.length d2)) := ⟨fun W h => ⟨(h.cell (World.block_lt_of_cell? wb _ g0)).trans g0, (h.cell (World.block_lt_of_cell? wb _ g1)).trans g1⟩⟩
            have HBB := Aside0.mk hB
            have HO := Aside0.mk (And.intro hO hOT)
            clear hB hO hOT hd1 hd2 hC1 hC2 HRC
            go_upto_region 31 with fail
            go_region_held3 (fun W => W.cell? ⟨g, 0, none⟩ = some (.slice A1 L'.length d1) ∧ W.cell? ⟨g, 1, none⟩ = some (.slice A2 T'.length d2)) (first | exact K10 | exact K9 | exact K8 | exact K7 | exact ⟨g0, g1⟩)
              (first
                | (go_at_call 44; refine (labels_any tb G size L' T' _ (HT.out.below (Below.refl _ _).drew)).mono ?_; rintro e w7 ⟨va, rfl, oa, ba, _⟩; obtain ⟨Aa, ca, eva, hca, _, hCa⟩ := Own.read oa; subst eva; have B7 := Aside0.mk (show Below wb.heap.size wb w7 from (Below.refl _ _).drew.trans ba); have HCA := Aside0.mk hCa; have HLA := Aside0.mk hca; have K7 := KG.out _ B7.out; clear oa ba hca hCa)
                | (go_at_call 45; refine (tunnels_any tb G size L' T' _ (HT.out.below B8.out)).mono ?_; rintro e w9 ⟨vb, rfl, ob, bb, _⟩; obtain ⟨Ab, cb, evb, hcb, _, hCb⟩ := Own.read ob; subst evb; have B9 := Aside0.mk (below_step B8.out bb); have HCB := Aside0.mk hCb; have HLB := Aside0.mk hcb; have K9 := KG.out _ B9.out; clear ob bb hcb hCb)
                | (go_at_call 55; refine (rows_any Ab A2 cb d2 T' _ HCB.out HLB.out (Kd.C_below HC2.out B9.out) HD2.out HLT.out).mono ?_; rintro e w10 ⟨rfl, b10⟩; have B10 := Aside0.mk (below_step B9.out b10); have K10 := KG.out _ B10.out; clear b10)
                | (go_at_call 55; refine (rows_any Aa A1 ca d1 L' _ HCA.out HLA.out (Kd.C_below HC1.out B7.out) HD1.out HLL.out).mono ?_; rintro e w8 ⟨rfl, b8⟩; have B8 := Aside0.mk (below_step B7.out b8); have K8 := KG.out _ B8.out; clear b8))
            go_wp2_with fail
            go_roundw
            case rel => exact ⟨i + 1, hlt, by omega, rfl, ⟨⟨_, _, _, _, _, HBB.out.below B10.out, HO.out.1, HO.out.2⟩⟩⟩
            case measure => simp [intOf]; omega
        · obtain ⟨F, V1, V2, L, T, hB, _, _⟩ := HR.out
          have HBL := Aside0.mk hB.bel
          clear hB
          go_wp2_with fail
          go_ret
          exact ⟨rfl, HBL.out⟩
      · obtain ⟨F, V1, V2, L, T, hB, _, _⟩ := HR.out
        have HBL := Aside0.mk hB.bel
        clear hB
        go_wp2_with fail
        go_ret
        exact ⟨rfl, HBL.out⟩
  · have hns : size < 1 ∨ 64 < size := by omega
    refine (new_no size _ hns).mono ?_
    rintro e w2 ⟨rfl, rfl⟩
    have hdd : (decide (1 ≤ size) && decide (size ≤ 64)) = false := by
      by_cases h1 : 1 ≤ size
      · simp [show ¬ size ≤ 64 by omega]
      · simp [h1]
    clear hsz
    rcases hns with h1 | h1
    · have h2 : ¬ 1 ≤ size := by omega
      go_wp2_with fail
      go_loopw [7] (fun v7 wr => v7 = .int .i64 0 ∧ Aside0 (Below w.heap.size w wr)) (fun _ _ => 0)
      case atStart => exact ⟨rfl, ⟨HB1.out.alloc HB1.out.size _⟩⟩
      case round =>
        obtain ⟨rfl, HBr⟩ := hrel
        go_wp2_with fail
        go_ret
        exact ⟨rfl, HBr.out⟩
    · have h2 : 1 ≤ size := by omega
      have h3 : ¬ size ≤ 64 := by omega
      go_wp2_with fail
      go_loopw [7] (fun v7 wr => v7 = .int .i64 0 ∧ Aside0 (Below w.heap.size w wr)) (fun _ _ => 0)
      case atStart => exact ⟨rfl, ⟨HB1.out.alloc HB1.out.size _⟩⟩
      case round =>
        obtain ⟨rfl, HBr⟩ := hrel
        go_wp2_with fail
        go_ret
        exact ⟨rfl, HBr.out⟩
end Go.Proofs.Ytmnpmjphhkiedaa.LF
