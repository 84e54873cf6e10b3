import Derived.Test.YtmnpmjphhkiedaaT11
import Derived.Deep.CutBlock
import Derived.IntWalk
namespace Go.Proofs.Ytmnpmjphhkiedaa.LF
open Go.RowKit Go.Proofs.YtmnpmjphhkiedaaW.PrintWords Go.Proofs.YtmnpmjphhkiedaaW.PrintLast Go.Proofs.YtmnpmjphhkiedaaW.PrintMore Go.Proofs.Ytmnpmjphhkiedaa.PLfibActs Go.Proofs.Ytmnpmjphhkiedaa.Lib

theorem fits_any (A : Option Addr) (c : Nat) (p : Pkt) (w : World) (hp : PktAt w A c p) :
    Calls Try.prog 15 #[.agg #[.slice A p.st.length c, .int .i64 p.tun, .int .i64 p.ttl, .string p.pay]] w fun e w' => e = .returned (.bool (decide (p.st.length ≤ 100) && decide (p.pay.size ≤ 5000))) ∧ Below w.heap.size w w' := by
  have hf : viaductlaw05_fits.f p.st p.tun p.ttl p.pay = some (decide (p.st.length ≤ 100) && decide (p.pay.size ≤ 5000)) := by
    unfold viaductlaw05_fits.f
    by_cases h : p.st.length ≤ 100
    · rw [if_pos (by omega), decide_eq_true h]; simp; omega
    · rw [if_neg (by omega), decide_eq_false h]; rfl
  exact viaductlaw05_fits.calls A c p.st p.tun p.ttl p.pay _ w hp.st hp.cap hf

theorem same_empty (A : Option Addr) (c : Nat) (w : World) :
    Calls Try.prog 17 #[.agg #[.slice A 0 c, .int .i64 0, .int .i64 0, .string ⟨#[]⟩], .agg #[.slice none 0 0, .int .i64 0, .int .i64 0, .string ⟨#[]⟩]] w fun e w' => e = .returned (.bool true) ∧ Below w.heap.size w w' :=
  viaductref05_Same.calls 1 A c [] 0 0 ⟨#[]⟩ none 0 [] 0 0 ⟨#[]⟩ true w (C_zero w A) (Nat.zero_le _) (Kd.C_nil k118 w) (Nat.le_refl _) (by simp [viaductref05_Same.f, viaductref03_Same.f, viaductref03_Same.l0])

theorem add_cell (w : World) (ad : Addr) (n j : Nat) : w.cell? ⟨(ad.add n).block, (ad.add n).off + j, none⟩ = w.cell? ⟨ad.block, ad.off + (n + j), none⟩ := by
  rcases Nat.eq_zero_or_pos n with h | h
  · subst h; simp [Addr.add]
  · have hn : ¬ n = 0 := by omega
    simp [Addr.add, hn, Nat.add_assoc]

/-- A world above w. -/
structure BW (w : World) where
  v : World
  h : Below w.heap.size w v

theorem wp_region_bw {P : Program} {id : Nat} {Q : Exit → Act → World → Prop} {a : Act} {w : World} {l : List Oper} (hm : P.follows .mixedOrders = true) (hB : Region.lexB .any l.toArray = true)
    (h : wpQuiet P l.toArray (fun w' => ∃ x : BW w, w' = x.v) (fun a' => ∀ w', (∃ x : BW w, w' = x.v) → Q .normal a' w') l a) : (Code.region id l.toArray true).wp P Q a w :=
  wp_region_quiet (C := fun w' => ∃ x : BW w, w' = x.v) hm hB ⟨⟨_, (Below.refl _ _).drew⟩, rfl⟩ (by simpa using h)

/-- The second loop's world. -/
def Rel2 (w : World) (tb : Nat) (k : Nat) (W : World) : Prop :=
  ∃ F L T A c, ∃ p : Pkt, Tab W tb F 64 L T ∧ OutsOk L ∧ OutsOk T ∧ Below w.heap.size w W ∧ (∀ k, F k → w.heap.size < k) ∧ PktAt W A c p ∧ (k = 0 ∨ (0 ≤ timeP p ∧ timeP p + k ≤ 255)) ∧
    W.heap[w.heap.size]? = some (.cells #[.slice A p.st.length c, .int .i64 p.tun, .int .i64 p.ttl, .string p.pay] 25 (0, 0))

/-- The acts' numbers that are bound and mapped. -/
def ActsAt (w : World) (A : Option Addr) (n : Nat) (f : Nat → Int × Int × Int) : Prop :=
  ∀ i, i < n → ∃ ad, A = some ad ∧ w.cell? ⟨ad.block, ad.off + (i * 8 + 1), none⟩ = some (.int .i64 (f i).1) ∧ w.cell? ⟨ad.block, ad.off + (i * 8 + 2), none⟩ = some (.int .i64 (f i).2.1) ∧ w.cell? ⟨ad.block, ad.off + (i * 8 + 3), none⟩ = some (.int .i64 (f i).2.2)

/-- The first loop's world: the packet's box, the table. -/
def Rel1 (w : World) (tb : Nat) (pv : Value) (tun ttl : Int) (pay : ByteArray) (W : World) : Prop :=
  ∃ F L T, Tab W tb F 64 L T ∧ OutsOk L ∧ OutsOk T ∧ Below w.heap.size w W ∧ (∀ k, F k → w.heap.size < k) ∧ W.heap[w.heap.size]? = some (.cells #[pv, .int .i64 tun, .int .i64 ttl, .string pay] 25 (0, 0))

theorem Rel1.step {w : World} {tb : Nat} {pv : Value} {tun ttl : Int} {pay : ByteArray} {W W' : World} {F : Nat → Prop} {L T L' T' : List S95} {c : Int} {e : Ending} (hT : Tab W tb F 64 L T) (hb : Below w.heap.size w W) (hF : ∀ k, F k → w.heap.size < k) (hx : W.heap[w.heap.size]? = some (.cells #[pv, .int .i64 tun, .int .i64 ttl, .string pay] 25 (0, 0)))
    (hL : OutsOk L') (hT' : OutsOk T') (h : TabPost tb F 64 L' T' c W e W') : Rel1 w tb pv tun ttl pay W' ∧ e = .returned (.int .i64 c) := by
  obtain ⟨F', rfl, h1, h2, h3⟩ := h
  have hs := blk_lt hx
  refine ⟨⟨F', L', T', h1, hL, hT', hb.trans (h2.below hb.size (fun k hk => by have := hF k hk; omega)), fun k hk => ?_, h2.obj hx (fun hk => by have := hF _ hk; omega)⟩, rfl⟩
  rcases h3 k hk with h | h
  · exact hF k h
  · omega

set_option maxRecDepth 100000 in
set_option maxHeartbeats 4000000 in
theorem law_walk (A0 : Option Addr) (n0 c0 : Nat) (f : Nat → Int × Int × Int) (A : Option Addr) (c : Nat) (p : Pkt) (w : World) (ha : ActsAt w A0 n0 f) (hn0 : n0 ≤ 9223372036854775807) (hp : PktAt w A c p) :
    Calls Try.prog 3 #[.slice A0 n0 c0, .agg #[.slice A p.st.length c, .int .i64 p.tun, .int .i64 p.ttl, .string p.pay]] w fun e w' => e = .returned (.bool true) ∧ Below w.heap.size w w' := by
  obtain ⟨w0, hw0⟩ : ∃ w0, w0 = w.alloc (.cells #[.slice A p.st.length c, .int .i64 p.tun, .int .i64 p.ttl, .string p.pay] 25) := ⟨_, rfl⟩
  have HB0 : Aside0 (Below w.heap.size w w0) := ⟨by rw [hw0]; exact (Below.refl _ _).alloc (Nat.le_refl _) _⟩
  have HX0 : Aside0 (w0.heap[w.heap.size]? = some (.cells #[.slice A p.st.length c, .int .i64 p.tun, .int .i64 p.ttl, .string p.pay] 25 (0, 0))) := ⟨by rw [hw0]; exact blk_new w _⟩
  have HA := Aside0.mk ha
  have HP := Aside0.mk hp
  clear ha hp
  go_enter Try.func3, Try.ntmps3
  go_wp2_with fail
  rw [← hw0]
  clear hw0
  refine (alive_any _).mono ?_
  rintro e w1 ⟨rfl, hb1⟩
  have HB1 := Aside0.mk (below_step HB0.out hb1)
  have HX1 := Aside0.mk (blk_below HX0.out hb1)
  clear hb1
  go_wp2_with fail
  refine (new_yes 64 _ (by omega) (by omega)).mono ?_
  rintro e w2 ⟨rfl, hb2, ht2⟩
  have htb : w.heap.size < w1.heap.size := blk_lt HX1.out
  obtain ⟨tb, htb'⟩ : ∃ tb, tb = w1.heap.size := ⟨_, rfl⟩
  rw [← htb'] at ht2 ⊢
  have HR : Aside0 (Rel1 w tb (.slice A p.st.length c) p.tun p.ttl p.pay w2) := ⟨_, [], [], ht2, outs_nil, outs_nil, below_step HB1.out hb2, fun k hk => by omega, blk_below HX1.out hb2⟩
  clear htb' htb hb2 ht2
  go_upto_block 0 with fail
  go_cut [6] from 15 to 48 (fun v6 wc => Aside0 (Rel1 w tb (.slice A p.st.length c) p.tun p.ttl p.pay wc))
  case first =>
    go_wp2_with fail
    go_loopw [6] (fun v6 wr => ∃ k : Nat, k ≤ n0 ∧ k ≤ 80 ∧ v6 = .int .i64 k ∧ Aside0 (Rel1 w tb (.slice A p.st.length c) p.tun p.ttl p.pay wr)) (fun v6 _ => n0 - (intOf v6).toNat)
    case atStart => exact ⟨0, Nat.zero_le _, Nat.zero_le _, rfl, HR⟩
    case round =>
      clear HR
      obtain ⟨k, hk, hk80, rfl, HR⟩ := hrel
      by_cases hlt : k < n0
      · by_cases h80 : k < 80
        · obtain ⟨F, L, T, hT, hL, hT', hb, hF, hx⟩ := HR.out
          obtain ⟨ad, e, a1, a2, a3⟩ := HA.out k hlt
          subst e
          have HT := Aside0.mk hT; have HL := Aside0.mk hL; have HTO := Aside0.mk hT'; have HB := Aside0.mk hb; have HF := Aside0.mk hF; have HX := Aside0.mk hx
          have b1 := (hb.cell (World.block_lt_of_cell? w _ a1)).trans a1
          have b2 := (hb.cell (World.block_lt_of_cell? w _ a2)).trans a2
          have b3 := (hb.cell (World.block_lt_of_cell? w _ a3)).trans a3
          have c1 : wr.cell? ⟨(ad.add (k * 8)).block, (ad.add (k * 8)).off + 1, none⟩ = some (.int .i64 (f k).1) := (add_cell _ _ _ _).trans b1
          have c2 : wr.cell? ⟨(ad.add (k * 8)).block, (ad.add (k * 8)).off + 2, none⟩ = some (.int .i64 (f k).2.1) := (add_cell _ _ _ _).trans b2
          have c3 : wr.cell? ⟨(ad.add (k * 8)).block, (ad.add (k * 8)).off + 3, none⟩ = some (.int .i64 (f k).2.2) := (add_cell _ _ _ _).trans b3
          have HTD : Aside0 (Tab wr.drew tb F 64 L T) := ⟨hT.below (Below.refl _ _).drew⟩
          have HBD : Aside0 (Below w.heap.size w wr.drew) := ⟨hb.drew⟩
          clear hT hL hT' hb hF hx
          go_wp2_with fail
          go_region_law (go_simp; go_at_call 13; refine (bind_any _ _ _ _ _ _ _ _ _ HTD.out).mono ?_; intro e w4 h4; obtain ⟨HR4, rfl⟩ := Rel1.step HTD.out HBD.out HF.out (blk_drew HX.out) (outs_bind HL.out) HTO.out h4; have HR5 := Aside0.mk HR4; clear h4 HR4)
          all_goals clear c1 c2 c3
          all_goals obtain ⟨F2, L2, T2, hT2, hL2, hT2', hb2, hF2, hx2⟩ := HR5.out
          all_goals
            have HT2 : Aside0 (Tab w4.drew tb F2 64 L2 T2) := ⟨hT2.below (Below.refl _ _).drew⟩
            have HL2 := Aside0.mk hL2
            have HTO2 := Aside0.mk hT2'
            have HBD2 : Aside0 (Below w.heap.size w w4.drew) := ⟨hb2.drew⟩
            have HF2 := Aside0.mk hF2
            have HX2 := Aside0.mk (blk_drew hx2)
            obtain ⟨ad', e', a1, a2, a3⟩ := HA.out k hlt
            obtain rfl := Option.some.inj e'
            have c1 : w4.cell? ⟨(ad.add (k * 8)).block, (ad.add (k * 8)).off + 1, none⟩ = some (.int .i64 (f k).1) := (add_cell _ _ _ _).trans ((hb2.cell (World.block_lt_of_cell? w _ a1)).trans a1)
            have c2 : w4.cell? ⟨(ad.add (k * 8)).block, (ad.add (k * 8)).off + 2, none⟩ = some (.int .i64 (f k).2.1) := (add_cell _ _ _ _).trans ((hb2.cell (World.block_lt_of_cell? w _ a2)).trans a2)
            have c3 : w4.cell? ⟨(ad.add (k * 8)).block, (ad.add (k * 8)).off + 3, none⟩ = some (.int .i64 (f k).2.2) := (add_cell _ _ _ _).trans ((hb2.cell (World.block_lt_of_cell? w _ a3)).trans a3)
            clear hT2 hL2 hT2' hb2 hF2 hx2 e' a1 a2 a3 b1 b2 b3 HT HL HTO HB HF HX HTD HBD HR HR5
          all_goals (go_wp2_with fail)
          all_goals go_region_law (go_simp; go_at_call 14; refine (map_any _ _ _ _ _ _ _ _ _ HT2.out).mono ?_; intro e w6 h6; obtain ⟨HR6, rfl⟩ := Rel1.step HT2.out HBD2.out HF2.out HX2.out HL2.out (outs_map HTO2.out) h6; have HR7 := Aside0.mk HR6; clear h6 HR6)
          all_goals (go_wp2_with fail; go_roundw)
          all_goals first
            | exact ⟨k + 1, hlt, h80, rfl, HR7⟩
            | (simp [intOf]; omega)
        · go_wp2_with fail
          go_meet
          exact HR
      · go_wp2_with fail
        go_meet
        exact HR
  case rest =>
    clear HA HR HB1 HX1 HB0 HX0
    obtain ⟨F, L, T, hT, hL, hT', hb, hF, hx⟩ := hcut.out
    have HT := Aside0.mk hT; have HL := Aside0.mk hL; have HTO := Aside0.mk hT'; have HB := Aside0.mk hb; have HF := Aside0.mk hF; have HX := Aside0.mk hx
    have y0 := (blk_cell hx 0).trans rfl; have y1 := (blk_cell hx 1).trans rfl; have y2 := (blk_cell hx 2).trans rfl; have y3 := (blk_cell hx 3).trans rfl
    clear hcut hT hL hT' hb hF hx
    obtain ⟨wb, rfl⟩ : ∃ wb : World, wb = wc := ⟨_, rfl⟩
    go_wp2_with fail
    refine (fits_any A c p _ (HP.out.below HB.out)).mono ?_
    rintro e w5 ⟨rfl, hb5⟩
    have HT5 := Aside0.mk (HT.out.below hb5)
    have HB5 := Aside0.mk (below_step HB.out hb5)
    have HX5 := Aside0.mk (blk_below HX.out hb5)
    clear hb5 y0 y1 y2 y3 HT HB HX
    cases hfit : (decide (p.st.length ≤ 100) && decide (p.pay.size ≤ 5000)) with
    | false =>
      clear HP
      go_wp2_with fail
      go_ret
      exact ⟨rfl, HB5.out⟩
    | true =>
      have HR : Aside0 (Rel2 w tb 0 w5) := ⟨F, L, T, A, c, p, HT5.out, HL.out, HTO.out, HB5.out, HF.out, HP.out.below HB5.out, .inl rfl, HX5.out⟩
      clear HP HT5 HL HTO HB5 HF HX5 hfit
      go_wp2_with fail
      go_loopw [52] (fun v52 wr => ∃ k : Nat, v52 = .int .i64 k ∧ Aside0 (Rel2 w tb k wr)) (fun v52 _ => 300 - (intOf v52).toNat)
      case atStart => exact ⟨0, rfl, HR⟩
      case round =>
        clear HR
        obtain ⟨k, rfl, HR⟩ := hrel
        obtain ⟨F, L, T, A, c, p, hT, hL, hT', hb, hF, hp, hk, hx⟩ := HR.out
        clear HR
        have hk300 : (k : Int) < 300 := by omega
        have HT := Aside0.mk hT; have HL := Aside0.mk hL; have HTO := Aside0.mk hT'; have HB := Aside0.mk hb; have HF := Aside0.mk hF; have HX := Aside0.mk hx; have HP := Aside0.mk hp; have HK := Aside0.mk hk
        have y0 := (blk_cell hx 0).trans rfl; have y1 := (blk_cell hx 1).trans rfl; have y2 := (blk_cell hx 2).trans rfl; have y3 := (blk_cell hx 3).trans rfl
        clear hT hL hT' hb hF hx hp hk
        go_wp2_with fail
        refine (step_any tb F 64 L T A c p _ HT.out HP.out HL.out HTO.out).mono ?_
        intro e w6 hpost
        rcases step_law L T p HL.out HTO.out with ⟨cc, hc0, hst⟩ | ⟨n, q, hst, t1, t2, t3, t4, t5, t6, t7, t8, t9, t10⟩
        · rw [hst] at hpost
          obtain ⟨A', c', rfl, hC, hlc, hb6, _⟩ := hpost
          have HB6 := Aside0.mk (below_step HB.out hb6)
          clear hst hC hlc hb6
          go_wp2_with fail
          refine (same_empty A' c' _).mono ?_
          rintro e w7 ⟨rfl, hb7⟩
          have HB7 := Aside0.mk (below_step HB6.out (((Below.refl _ _).alloc (Nat.le_refl _) _).trans (hb7.mono (by simp))))
          clear hb7
          go_wp2_with fail
          go_ret
          exact ⟨rfl, HB7.out⟩
        · rw [hst] at hpost
          obtain ⟨A', c', rfl, hC, hlc, hb6, hAb⟩ := hpost
          obtain ⟨qs, qtun, qttl, qpay⟩ := q
          simp only at t1 t2 t4 t5 t6 t7 hC hlc ⊢
          subst t4 t5
          obtain ⟨w7, hw7⟩ : ∃ w7, w7 = w6.alloc (.cells #[.slice A' qs.length c', .int .i64 p.tun, .int .i64 qttl, .string p.pay] 25) := ⟨_, rfl⟩
          have hb67 : Below w6.heap.size w6 w7 := by rw [hw7]; exact (Below.refl _ _).alloc (Nat.le_refl _) _
          have HY : Aside0 (w7.heap[w6.heap.size]? = some (.cells #[.slice A' qs.length c', .int .i64 p.tun, .int .i64 qttl, .string p.pay] 25 (0, 0))) := ⟨by rw [hw7]; exact blk_new w6 _⟩
          have HQ : Aside0 (PktAt w7 A' c' ⟨qs, p.tun, qttl, p.pay⟩) := ⟨Kd.C_below hC hb67, hlc, HP.out.pay, by simp only; omega, HP.out.t1, HP.out.t2⟩
          have HB67 : Aside0 (Below wr.heap.size wr w7) := ⟨hb6.trans (hb67.mono hb6.size)⟩
          have HN := Aside0.mk (And.intro t8 t9)
          have HTT := Aside0.mk (And.intro t1 (And.intro t2 t3))
          have HLN := Aside0.mk (And.intro t6 t7)
          have HSZ : Aside0 (wr.heap.size ≤ w6.heap.size) := ⟨hb6.size⟩
          have HAB := Aside0.mk hAb
          clear hst hC hlc hb6 hb67 hAb t1 t2 t3 t6 t7 t8 t9 t10
          go_wp2_with fail
          rw [← hw7]
          clear hw7
          have HX7 := Aside0.mk (blk_below HX.out HB67.out)
          have cy : ∀ x : BW w7, x.v.heap[w6.heap.size]? = some (.cells #[.slice A' qs.length c', .int .i64 p.tun, .int .i64 qttl, .string p.pay] 25 (0, 0)) := fun x => blk_below HY.out x.h
          have cx : ∀ x : BW w7, x.v.heap[w.heap.size]? = some (.cells #[.slice A p.st.length c, .int .i64 p.tun, .int .i64 p.ttl, .string p.pay] 25 (0, 0)) := fun x => blk_below HX7.out x.h
          have g0 : ∀ x : BW w7, x.v.cell? ⟨w6.heap.size, 0, none⟩ = some (.slice A' qs.length c') := fun x => (blk_cell (cy x) 0).trans rfl
          have g1 : ∀ x : BW w7, x.v.cell? ⟨w6.heap.size, 1, none⟩ = some (.int .i64 p.tun) := fun x => (blk_cell (cy x) 1).trans rfl
          have g2 : ∀ x : BW w7, x.v.cell? ⟨w6.heap.size, 2, none⟩ = some (.int .i64 qttl) := fun x => (blk_cell (cy x) 2).trans rfl
          have g3 : ∀ x : BW w7, x.v.cell? ⟨w6.heap.size, 3, none⟩ = some (.string p.pay) := fun x => (blk_cell (cy x) 3).trans rfl
          have e0 : ∀ x : BW w7, x.v.cell? ⟨w.heap.size, 0, none⟩ = some (.slice A p.st.length c) := fun x => (blk_cell (cx x) 0).trans rfl
          have e1 : ∀ x : BW w7, x.v.cell? ⟨w.heap.size, 1, none⟩ = some (.int .i64 p.tun) := fun x => (blk_cell (cx x) 1).trans rfl
          have e2 : ∀ x : BW w7, x.v.cell? ⟨w.heap.size, 2, none⟩ = some (.int .i64 p.ttl) := fun x => (blk_cell (cx x) 2).trans rfl
          have e3 : ∀ x : BW w7, x.v.cell? ⟨w.heap.size, 3, none⟩ = some (.string p.pay) := fun x => (blk_cell (cx x) 3).trans rfl
          have HCX := Aside0.mk cx; have HCY := Aside0.mk cy
          have HG : ∀ x : BW w7, Aside0 (∀ v, v = x.v → Calls Try.prog 18 #[.agg #[.slice A p.st.length c, .int .i64 p.tun, .int .i64 p.ttl, .string p.pay]] v fun e w' => e = .returned (.int .i64 (timeP p)) ∧ ∃ y : BW w7, w' = y.v) := fun x => ⟨by
            rintro v rfl
            refine (time_any A c p x.v ((HP.out.below HB67.out).below x.h)).mono ?_
            rintro e w' ⟨rfl, hb⟩
            exact ⟨rfl, ⟨w', below_step x.h hb⟩, rfl⟩⟩
          have HH : ∀ x : BW w7, Aside0 (∀ v, v = x.v → Calls Try.prog 18 #[.agg #[.slice A' qs.length c', .int .i64 p.tun, .int .i64 qttl, .string p.pay]] v fun e w' => e = .returned (.int .i64 (timeP ⟨qs, p.tun, qttl, p.pay⟩)) ∧ ∃ y : BW w7, w' = y.v) := fun x => ⟨by
            rintro v rfl
            refine (time_any A' c' ⟨qs, p.tun, qttl, p.pay⟩ x.v (HQ.out.below x.h)).mono ?_
            rintro e w' ⟨rfl, hb⟩
            exact ⟨rfl, ⟨w', below_step x.h hb⟩, rfl⟩⟩
          clear cx cy
          obtain ⟨tq, htq⟩ : ∃ tq, tq = timeP ⟨qs, p.tun, qttl, p.pay⟩ := ⟨_, rfl⟩
          rw [← htq] at HTT
          simp only [← htq] at HH
          obtain ⟨tp, htp⟩ : ∃ tp, tp = timeP p := ⟨_, rfl⟩
          rw [← htp] at HTT HK
          simp only [← htp] at HG
          have HTQ := Aside0.mk htq
          clear htq htp
          have i1 : ¬ tp ≤ tq := by have := HTT.out.1; omega
          have i2 : ¬ tq < 0 := by have := HTT.out.2.1; omega
          have i3 : ¬ n < 0 := by have := HN.out.1; omega
          have i4 : ¬ 16 ≤ n := by have := HN.out.2; omega
          have l1 : ¬ ((p.st.length : Int) + 1 < qs.length) := by have := HLN.out.1; omega
          have l2 : ¬ ((qs.length : Int) + 1 < p.st.length) := by have := HLN.out.2; omega
          have m1 : IntKind.i64.wrap ((p.st.length : Int) + 1) = (p.st.length : Int) + 1 := IntWalk.i64_in _ (by have := HP.out.len; omega)
          have m2 : IntKind.i64.wrap ((qs.length : Int) + 1) = (qs.length : Int) + 1 := IntWalk.i64_in _ (by have := HQ.out.len; simp only at this; omega)
          have hne : Nonempty (BW w7) := ⟨⟨w7, Below.refl _ _⟩⟩
          refine wp_region_bw (by kernel_rfl) (by kernel_rfl) ?_
          repeat (quiet_step (first | (go_at_call_of 18 (Value.slice A' qs.length c'); exact (HH _).out _ rfl) | (go_at_call_of 18 (Value.slice A p.st.length c); exact (HG _).out _ rfl)))
          refine wpQuiet_nil ?_
          intro wx hex
          have hbx : Below w7.heap.size w7 wx := by obtain ⟨x, hx⟩ := hex; rw [hx]; exact x.h
          clear hex
          have CY : Aside0 (wx.heap[w6.heap.size]? = _) := ⟨HCY.out ⟨wx, hbx⟩⟩
          have CX : Aside0 (wx.heap[w.heap.size]? = _) := ⟨HCX.out ⟨wx, hbx⟩⟩
          have HBX : Aside0 (Below w7.heap.size w7 wx) := ⟨hbx⟩
          clear hbx
          clear g0 g1 g2 g3 e0 e1 e2 e3
          have g0 := (blk_cell CY.out 0).trans rfl; have g1 := (blk_cell CY.out 1).trans rfl; have g2 := (blk_cell CY.out 2).trans rfl; have g3 := (blk_cell CY.out 3).trans rfl
          have e0 := (blk_cell CX.out 0).trans rfl; have e1 := (blk_cell CX.out 1).trans rfl; have e2 := (blk_cell CX.out 2).trans rfl; have e3 := (blk_cell CX.out 3).trans rfl
          have f0 := blk_frozen CX.out 0; have f1 := blk_frozen CX.out 1; have f2 := blk_frozen CX.out 2; have f3 := blk_frozen CX.out 3
          have m3 : IntKind.i64.wrap ((k : Int) + 1) = (k : Int) + 1 := IntWalk.i64_in _ (by omega)
          clear HG HH hne HCX HCY i1 i2 i3 i4 l1 l2 m1 m2
          go_wp2_with fail
          have hlt : w.heap.size < wr.heap.size := blk_lt HX.out
          have HC : Aside0 (Chg (fun g => g = w.heap.size) wx ((((wx.setCell ⟨w.heap.size, 0, none⟩ (.slice A' qs.length c')).setCell ⟨w.heap.size, 1, none⟩ (.int .i64 p.tun)).setCell ⟨w.heap.size, 2, none⟩ (.int .i64 qttl)).setCell ⟨w.heap.size, 3, none⟩ (.string p.pay))) :=
            ⟨(Chg.put (S := fun g => g = w.heap.size) (Chg.put (S := fun g => g = w.heap.size) (Chg.put (S := fun g => g = w.heap.size) (Chg.put (S := fun g => g = w.heap.size) (Chg.refl _ wx) w.heap.size 0 (.inl rfl) _) w.heap.size 1 (.inl rfl) _) w.heap.size 2 (.inl rfl) _) w.heap.size 3 (.inl rfl) _)⟩
          have HC2 := Aside0.mk ((Chg.of_below (S := fun g => g = w.heap.size) HB67.out).trans ((Chg.of_below (S := fun g => g = w.heap.size) HBX.out).trans HC.out))
          go_roundw
          case rel =>
            refine ⟨k + 1, rfl, ⟨F, L, T, A', c', ⟨qs, p.tun, qttl, p.pay⟩, HT.out.kept HC2.out (fun k hk => by have := HF.out k hk; omega), HL.out, HTO.out, HB.out.trans (HC2.out.below HB.out.size (fun k h => by omega)), HF.out, ?_, .inr ?_, blk_set (blk_set (blk_set (blk_set CX.out 0 _) 1 _) 2 _) 3 _⟩⟩
            · have h := HQ.out.below HBX.out
              exact ⟨C_kept (fun _ _ _ _ h => h) HC.out h.st (fun x hx => by have := HAB.out x hx; omega), h.cap, h.pay, h.len, h.t1, h.t2⟩
            · have h := HTT.out; have h2 := HK.out; have h3 := HTQ.out; omega
          case measure => simp [intOf]; omega
end Go.Proofs.Ytmnpmjphhkiedaa.LF
