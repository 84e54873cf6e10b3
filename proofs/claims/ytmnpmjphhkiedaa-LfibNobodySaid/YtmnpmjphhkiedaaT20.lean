import Derived.Test.YtmnpmjphhkiedaaT19
namespace Go.Proofs.Ytmnpmjphhkiedaa.LF
open Go.RowKit Go.Proofs.YtmnpmjphhkiedaaW.PrintWords Go.Proofs.YtmnpmjphhkiedaaW.PrintLast Go.Proofs.YtmnpmjphhkiedaaW.PrintMore Go.Proofs.Ytmnpmjphhkiedaa.PLfibActs Go.Proofs.Ytmnpmjphhkiedaa.Lib

theorem own_C {w : World} {A : Option Addr} {n c : Nat} {L : List S95} (h : Own w (.slice A n c) L) : Kd.C k95 w A L.length L ∧ n = L.length := by
  obtain ⟨A', c', e, _, _, hC⟩ := h.read
  injection e with e1 e2 e3
  subst e1 e2
  exact ⟨hC, rfl⟩
theorem Own.below {a b : World} {v : Value} {L : List S95} (h : Own a v L) (hb : Below a.heap.size a b) : Own b v L := h.kept (S := fun _ => False) (.of_below hb) (fun _ _ h => h)
theorem sameL_self (L : List S95) : sameL L L = true := by simp [sameL]

theorem lk_some_of {L : List S95} {t : Int} (h : cnt L t ≠ 0) : (lk L t).isSome = true := by
  unfold cnt at h
  unfold lk
  rw [Option.isSome_map, List.find?_isSome]
  obtain ⟨r, hr⟩ := List.exists_mem_of_length_pos (Nat.pos_of_ne_zero h)
  obtain ⟨h1, h2⟩ := List.mem_filter.1 hr
  exact ⟨r, h1, by simpa using h2⟩
theorem lk_none_of {L : List S95} {t : Int} (h : ∀ r ∈ L, r.f0 ≠ t) : lk L t = none := by
  unfold lk
  rw [Option.map_eq_none_iff, List.find?_eq_none]
  intro r hr
  simpa using h r hr
theorem drop_ins {L : List S95} (hg : Good L) {x : S95} {M : List S95} (hM : M = insR L x) : dropL M x.f0 = (delR L x.f0, 0) := by
  have hp := ((good_iff L).1 hg).2.2
  unfold dropL
  rw [if_pos (lk_some_of (by rw [hM, ins_cnt hp]; omega)), hM, ins_del hp]
theorem drop_none (L : List S95) (t : Int) : dropL (delR L t) t = (delR L t, 8) := by
  unfold dropL
  rw [lk_none_of (fun r hr => by simpa using (List.mem_filter.1 hr).2)]
  rfl
theorem cnt_le (L : List S95) (t : Int) : cnt L t ≤ L.length := List.length_filter_le _ _
theorem ins_row {L : List S95} (hg : Good L) {x : S95} {M : List S95} (hM : M = insR L x) {k : Nat} (hk : k < M.length) : r95 M k = x ∨ (r95 M k ∈ L ∧ (r95 M k).f0 ≠ x.f0) := by
  have hm : r95 M k ∈ M := by simp [r95, hk]
  rw [hM] at hm ⊢
  exact ins_mem ((good_iff L).1 hg).2.2 x _ hm

/-- A table's footprint, no wider than it must be. -/
theorem Tab.tight {w : World} {tb : Nat} {F : Nat → Prop} {most : Int} {L T : List S95} (t : Tab w tb F most L T) : ∃ G, Tab w tb G most L T ∧ ∀ k, G k → F k ∧ k < w.heap.size := by
  obtain ⟨⟨vl, vt, h1, h2, h3, h4, h5⟩, f, a1, a2, a3, a4, a5, a6⟩ := t
  refine ⟨fun k => k = tb ∨ vl.ownBlock = some k ∨ vt.ownBlock = some k, ⟨⟨vl, vt, h1, h2, h3, fun k hk => ⟨.inr (.inl hk), (h4 k hk).2⟩, fun k hk => .inr (.inr hk)⟩, .inl rfl, a1, a2, a3, a4, a5, a6⟩, fun k hk => ?_⟩
  rcases hk with rfl | hk | hk
  · exact ⟨f, blk_lt h1⟩
  · exact ⟨(h4 k hk).1, h2.lt hk⟩
  · exact ⟨h5 k hk, h3.lt hk⟩

/-- The first loop's world: the last act's box, the table. -/
def RelK (w : World) (tb : Nat) (cs : Array Value) (W : World) : Prop :=
  ∃ F L T, Tab W tb F 64 L T ∧ Below w.heap.size w W ∧ (∀ k, F k → w.heap.size < k) ∧ W.heap[w.heap.size]? = some (.cells cs 34 (0, 0))

theorem RelK.step {w : World} {tb : Nat} {cs : Array Value} {W W' : World} {F : Nat → Prop} {L' T' : List S95} {c : Int} {e : Ending} (hb : Below w.heap.size w W) (hF : ∀ k, F k → w.heap.size < k) (hx : W.heap[w.heap.size]? = some (.cells cs 34 (0, 0)))
    (h : TabPost tb F 64 L' T' c W e W') : RelK w tb cs W' ∧ e = .returned (.int .i64 c) := by
  obtain ⟨F', rfl, h1, h2, h3⟩ := h
  have hs := blk_lt hx
  refine ⟨⟨F', L', T', h1, hb.trans (h2.below hb.size (fun k hk => by have := hF k hk; omega)), fun k hk => ?_, h2.obj hx (fun hk => by have := hF _ hk; omega)⟩, rfl⟩
  rcases h3 k hk with h | h
  · exact hF k h
  · omega

set_option maxRecDepth 100000 in
set_option maxHeartbeats 4000000 in
theorem keeps_walk (A0 : Option Addr) (n0 c0 : Nat) (f : Nat → Int × Int × Int) (vk vs : Value) (lb nx ll tun ttl : Int) (pay : ByteArray) (w : World) (ha : ActsAt w A0 n0 f) :
    Calls Try.prog 8 #[.slice A0 n0 c0, .agg #[vk, .int .i64 lb, .int .i64 nx, .int .i64 ll, vs, .int .i64 tun, .int .i64 ttl, .string pay]] w fun e w' => e = .returned (.bool true) ∧ Below w.heap.size w w' := by
  obtain ⟨cs, hcs⟩ : ∃ cs : Array Value, cs = #[vk, .int .i64 lb, .int .i64 nx, .int .i64 ll, vs, .int .i64 tun, .int .i64 ttl, .string pay] := ⟨_, rfl⟩
  obtain ⟨w0, hw0⟩ : ∃ w0, w0 = w.alloc (.cells cs 34) := ⟨_, rfl⟩
  have HB0 : Aside0 (Below w.heap.size w w0) := ⟨by rw [hw0]; exact (Below.refl _ _).alloc (Nat.le_refl _) _⟩
  have HX0 : Aside0 (w0.heap[w.heap.size]? = some (.cells cs 34 (0, 0))) := ⟨by rw [hw0]; exact blk_new w _⟩
  have HA := Aside0.mk ha
  clear ha
  go_enter Try.func8, Try.ntmps8
  go_wp2_with fail
  rw [← hcs, ← hw0]
  have HCS := Aside0.mk hcs
  clear hw0 hcs
  refine (alive_any _).mono ?_
  rintro e w1 ⟨rfl, hb1⟩
  have HB1 := Aside0.mk (below_step HB0.out hb1)
  have HX1 := Aside0.mk (blk_below HX0.out hb1)
  clear hb1
  go_wp2_with fail
  refine (new_yes 64 _ (by omega) (by omega)).mono ?_
  rintro e w2 ⟨rfl, hb2, ht2⟩
  have htb : w.heap.size < w1.heap.size := blk_lt HX1.out
  obtain ⟨tb, htb'⟩ : ∃ tb, tb = w1.heap.size := ⟨_, rfl⟩
  rw [← htb'] at ht2 ⊢
  have HR : Aside0 (RelK w tb cs w2) := ⟨_, [], [], ht2, below_step HB1.out hb2, fun k hk => by omega, blk_below HX1.out hb2⟩
  clear htb' htb hb2 ht2
  go_upto_block 0 with fail
  go_cut [6] from 22 to 55 (fun v6 wc => Aside0 (RelK w tb cs wc))
  case first =>
    go_wp2_with fail
    go_loopw [6] (fun v6 wr => ∃ k : Nat, k ≤ n0 ∧ k ≤ 80 ∧ v6 = .int .i64 k ∧ Aside0 (RelK w tb cs wr)) (fun v6 _ => n0 - (intOf v6).toNat)
    case atStart => exact ⟨0, Nat.zero_le _, Nat.zero_le _, rfl, HR⟩
    case round =>
      clear HR
      obtain ⟨k, hk, hk80, rfl, HR⟩ := hrel
      by_cases hlt : k < n0
      · by_cases h80 : k < 80
        · obtain ⟨F, L, T, hT, hb, hF, hx⟩ := HR.out
          obtain ⟨ad, e, a1, a2, a3⟩ := HA.out k hlt
          subst e
          have HT := Aside0.mk hT; have HB := Aside0.mk hb; have HF := Aside0.mk hF; have HX := Aside0.mk hx
          have b1 := (hb.cell (World.block_lt_of_cell? w _ a1)).trans a1
          have b2 := (hb.cell (World.block_lt_of_cell? w _ a2)).trans a2
          have b3 := (hb.cell (World.block_lt_of_cell? w _ a3)).trans a3
          have c1 : wr.cell? ⟨(ad.add (k * 8)).block, (ad.add (k * 8)).off + 1, none⟩ = some (.int .i64 (f k).1) := (add_cell _ _ _ _).trans b1
          have c2 : wr.cell? ⟨(ad.add (k * 8)).block, (ad.add (k * 8)).off + 2, none⟩ = some (.int .i64 (f k).2.1) := (add_cell _ _ _ _).trans b2
          have c3 : wr.cell? ⟨(ad.add (k * 8)).block, (ad.add (k * 8)).off + 3, none⟩ = some (.int .i64 (f k).2.2) := (add_cell _ _ _ _).trans b3
          have HTD : Aside0 (Tab wr.drew tb F 64 L T) := ⟨hT.below (Below.refl _ _).drew⟩
          have HBD : Aside0 (Below w.heap.size w wr.drew) := ⟨hb.drew⟩
          clear hT hb hF hx
          go_wp2_with fail
          go_region_law (go_simp; go_at_call 13; refine (bind_any _ _ _ _ _ _ _ _ _ HTD.out).mono ?_; intro e w4 h4; obtain ⟨HR4, rfl⟩ := RelK.step HBD.out HF.out (blk_drew HX.out) h4; have HR5 := Aside0.mk HR4; clear h4 HR4)
          all_goals clear c1 c2 c3
          all_goals obtain ⟨F2, L2, T2, hT2, hb2, hF2, hx2⟩ := HR5.out
          all_goals
            have HT2 : Aside0 (Tab w4.drew tb F2 64 L2 T2) := ⟨hT2.below (Below.refl _ _).drew⟩
            have HBD2 : Aside0 (Below w.heap.size w w4.drew) := ⟨hb2.drew⟩
            have HF2 := Aside0.mk hF2
            have HX2 := Aside0.mk (blk_drew hx2)
            obtain ⟨ad', e', a1, a2, a3⟩ := HA.out k hlt
            obtain rfl := Option.some.inj e'
            have c1 : w4.cell? ⟨(ad.add (k * 8)).block, (ad.add (k * 8)).off + 1, none⟩ = some (.int .i64 (f k).1) := (add_cell _ _ _ _).trans ((hb2.cell (World.block_lt_of_cell? w _ a1)).trans a1)
            have c2 : w4.cell? ⟨(ad.add (k * 8)).block, (ad.add (k * 8)).off + 2, none⟩ = some (.int .i64 (f k).2.1) := (add_cell _ _ _ _).trans ((hb2.cell (World.block_lt_of_cell? w _ a2)).trans a2)
            have c3 : w4.cell? ⟨(ad.add (k * 8)).block, (ad.add (k * 8)).off + 3, none⟩ = some (.int .i64 (f k).2.2) := (add_cell _ _ _ _).trans ((hb2.cell (World.block_lt_of_cell? w _ a3)).trans a3)
            clear hT2 hb2 hF2 hx2 e' a1 a2 a3 b1 b2 b3 HT HB HF HX HTD HBD HR HR5
          all_goals (go_wp2_with fail)
          all_goals go_region_law (go_simp; go_at_call 14; refine (map_any _ _ _ _ _ _ _ _ _ HT2.out).mono ?_; intro e w6 h6; obtain ⟨HR6, rfl⟩ := RelK.step HBD2.out HF2.out HX2.out h6; have HR7 := Aside0.mk HR6; clear h6 HR6)
          all_goals (go_wp2_with fail; go_roundw)
          all_goals first
            | exact ⟨k + 1, hlt, h80, rfl, HR7⟩
            | (simp [intOf]; omega)
        · go_wp2_with fail
          go_meet
          exact HR
      · go_wp2_with fail
        go_meet
        exact HR
  case rest =>
    clear HA HR HB1 HX1 HB0 HX0
    obtain ⟨F0, L, T, hT0, hb, hF0, hx⟩ := hcut.out
    obtain ⟨F, hT, hFF⟩ := hT0.tight
    have hF : ∀ k, F k → w.heap.size < k ∧ k < wc.heap.size := fun k hk => ⟨hF0 k (hFF k hk).1, (hFF k hk).2⟩
    have LEN : Aside0 (L.length ≤ 64 ∧ T.length ≤ 64) := ⟨by have := hT.ll; have := hT.lt; have := hT.m2; omega⟩
    have GL : Aside0 (Good L) := ⟨hT.gl⟩
    have HT := Aside0.mk hT; have HB := Aside0.mk hb; have HF := Aside0.mk hF; have HX := Aside0.mk hx
    clear hcut hT0 hF0 hFF hT hb hF hx
    obtain ⟨wb, rfl⟩ : ∃ wb : World, wb = wc := ⟨_, rfl⟩
    go_wp2_with fail
    refine (labels_any tb F 64 L T _ HT.out).mono ?_
    rintro e w3 ⟨vi, rfl, oi, bi, ni⟩
    have OI := Aside0.mk oi
    have HT3 := Aside0.mk (HT.out.below bi)
    have HB3 := Aside0.mk (below_step HB.out bi)
    have HX3 := Aside0.mk (blk_below HX.out bi)
    have NI := Aside0.mk ni
    have SZ3 : Aside0 (wb.heap.size ≤ w3.heap.size) := ⟨bi.size⟩
    obtain ⟨Ai, ci, evi⟩ := own_slice oi
    subst evi
    clear oi bi ni HT HB HX
    go_wp2_with fail
    refine (tunnels_any tb F 64 L T _ HT3.out).mono ?_
    rintro e w4 ⟨vo, rfl, oo, bo, no⟩
    have OO := Aside0.mk oo
    have OI4 := Aside0.mk (OI.out.kept (S := fun _ => False) (.of_below bo) (fun _ _ h => h))
    have HT4 := Aside0.mk (HT3.out.below bo)
    have HB4 := Aside0.mk (below_step HB3.out bo)
    have hx4 := blk_below HX3.out bo
    rw [HCS.out] at hx4
    have HX4 := Aside0.mk hx4
    have NO := Aside0.mk no
    have y1 := (blk_cell hx4 1).trans rfl; have y2 := (blk_cell hx4 2).trans rfl; have y3 := (blk_cell hx4 3).trans rfl
    obtain ⟨Ao, co, evo⟩ := own_slice oo
    subst evo
    clear oo bo no hx4 HT3 HB3 HX3 OI
    go_wp2_with fail
    refine (bind_any tb F 64 L T lb nx ll _ HT4.out).mono ?_
    rintro e w5 ⟨F5a, rfl, t5a, ch5, f5a⟩
    obtain ⟨F5, t5, f5b⟩ := t5a.tight
    have f5 : ∀ k, F5 k → w.heap.size < k ∧ k < w5.heap.size := fun k hk => by
      have h := f5b k hk
      rcases f5a k h.1 with h' | h'
      · exact ⟨(HF.out k h').1, h.2⟩
      · have := blk_lt HX4.out; exact ⟨by omega, h.2⟩
    have HT5 := Aside0.mk t5; have HF5 := Aside0.mk f5
    have OI5 := Aside0.mk (OI4.out.kept ch5 (fun k hk hf => by have := NI.out k hk; have := (HF.out k hf).2; omega))
    have hwb3 := SZ3.out
    have OO5 := Aside0.mk (OO.out.kept ch5 (fun k hk hf => by have := NO.out k hk; have := (HF.out k hf).2; omega))
    have HX5 := Aside0.mk (ch5.obj HX4.out (fun hf => by have := (HF.out _ hf).1; omega))
    have HB5 : Aside0 (Below w.heap.size w w5) := ⟨HB4.out.trans (ch5.below HB4.out.size (fun k hk => by have := (HF.out k hk).1; omega))⟩
    have LI : Aside0 (∀ k, (Value.slice Ai L.length ci).ownBlock = some k → k < w5.heap.size) := ⟨fun k hk => OI5.out.lt hk⟩
    have LO : Aside0 (∀ k, (Value.slice Ao T.length co).ownBlock = some k → k < w5.heap.size) := ⟨fun k hk => OO5.out.lt hk⟩
    have NF : Aside0 (∀ k, (Value.slice Ai L.length ci).ownBlock = some k ∨ (Value.slice Ao T.length co).ownBlock = some k → ¬ F5 k) := ⟨fun k hk hf => by
      have hlt : k < w4.heap.size ∧ wb.heap.size ≤ k := by
        rcases hk with hk | hk
        · exact ⟨OI4.out.lt hk, NI.out k hk⟩
        · exact ⟨OO.out.lt hk, by have := NO.out k hk; omega⟩
      rcases f5a k (f5b k hf).1 with h | h
      · have := (HF.out k h).2; omega
      · omega⟩
    clear y1 y2 y3 t5a t5 ch5 f5a f5b f5 HT4 OI4 OO HB4 HX4
    clear hwb3
    rcases bind_cases L 64 lb nx ll with ⟨cc, hc0, hbl⟩ | ⟨hbl, hr1, hr2⟩
    · rw [hbl] at HT5
      rw [hbl]
      clear hbl
      go_wp2_with fail
      refine (labels_any tb F5 64 L T _ HT5.out).mono ?_
      rintro e w6 ⟨vn, rfl, on, bn, _⟩
      have ON := Aside0.mk on
      have OI6 := Aside0.mk (OI5.out.below bn)
      have OO6 := Aside0.mk (OO5.out.below bn)
      have HT6 := Aside0.mk (HT5.out.below bn)
      have HB6 := Aside0.mk (below_step HB5.out bn)
      obtain ⟨An, cn, evn⟩ := own_slice on
      subst evn
      clear on bn OI5 OO5 HT5 HB5 HX5
      go_wp2_with fail
      refine (tunnels_any tb F5 64 L T _ HT6.out).mono ?_
      rintro e w7 ⟨vt, rfl, ot, bt, _⟩
      have OT := Aside0.mk ot
      have ON7 := Aside0.mk (ON.out.below bt)
      have OI7 := Aside0.mk (OI6.out.below bt)
      have OO7 := Aside0.mk (OO6.out.below bt)
      have HB7 := Aside0.mk (below_step HB6.out bt)
      obtain ⟨At, ct, evt⟩ := own_slice ot
      subst evt
      clear ot bt OI6 OO6 HT6 HB6 ON
      go_wp2_with fail
      refine (same_any At Ao ct co T T _ (own_C OT.out).1 (own_C OO7.out).1 LEN.out.2 LEN.out.2).mono ?_
      rw [sameL_self]
      rintro e w8 ⟨rfl, b8⟩
      have ON8 := Aside0.mk (ON7.out.below b8)
      have OI8 := Aside0.mk (OI7.out.below b8)
      have HB8 := Aside0.mk (below_step HB7.out b8)
      clear b8
      go_wp2_with fail
      refine (same_any An Ai cn ci L L _ (own_C ON8.out).1 (own_C OI8.out).1 LEN.out.1 LEN.out.1).mono ?_
      rw [sameL_self]
      rintro e w9 ⟨rfl, b9⟩
      have HB9 := Aside0.mk (below_step HB8.out b9)
      clear b9
      go_wp2_with fail
      go_ret
      exact ⟨rfl, HB9.out⟩
    · rw [hbl] at HT5
      rw [hbl]
      obtain ⟨M, hM⟩ : ∃ M, M = insR L ⟨lb, ⟨nx, ll⟩⟩ := ⟨_, rfl⟩
      rw [← hM] at HT5 ⊢
      change Aside0 (Tab w5 tb F5 64 M T) at HT5
      have HM := Aside0.mk hM
      clear hbl hM
      have LM : Aside0 (M.length ≤ 64) := ⟨by have := HT5.out.ll; have := HT5.out.m2; omega⟩
      go_wp2_with fail
      refine (labels_any tb F5 64 M T _ HT5.out).mono ?_
      rintro e w6 ⟨vn, rfl, on, bn, nn⟩
      have ON := Aside0.mk on
      have OI6 := Aside0.mk (OI5.out.below bn)
      have OO6 := Aside0.mk (OO5.out.below bn)
      have HT6 := Aside0.mk (HT5.out.below bn)
      have HB6 := Aside0.mk (below_step HB5.out bn)
      have HX6 := Aside0.mk (blk_below HX5.out bn)
      have NN := Aside0.mk nn
      have SZ6 : Aside0 (w5.heap.size ≤ w6.heap.size) := ⟨bn.size⟩
      obtain ⟨An, cn, evn⟩ := own_slice on
      subst evn
      clear on bn nn OI5 OO5 HT5 HB5 HX5
      go_wp2_with fail
      refine (tunnels_any tb F5 64 M T _ HT6.out).mono ?_
      rintro e w7 ⟨vt, rfl, ot, bt, _⟩
      have OT := Aside0.mk ot
      have ON7 := Aside0.mk (ON.out.below bt)
      have OI7 := Aside0.mk (OI6.out.below bt)
      have OO7 := Aside0.mk (OO6.out.below bt)
      have HB7 := Aside0.mk (below_step HB6.out bt)
      have HT7 := Aside0.mk (HT6.out.below bt)
      have HX7 := Aside0.mk (blk_below HX6.out bt)
      obtain ⟨At, ct, evt⟩ := own_slice ot
      subst evt
      clear ot bt OI6 OO6 HT6 HB6 ON HX6
      go_wp2_with fail
      refine (same_any At Ao ct co T T _ (own_C OT.out).1 (own_C OO7.out).1 LEN.out.2 LEN.out.2).mono ?_
      rw [sameL_self]
      rintro e w8 ⟨rfl, b8⟩
      have ON8 := Aside0.mk (ON7.out.below b8)
      have OI8 := Aside0.mk (OI7.out.below b8)
      have OO8 := Aside0.mk (OO7.out.below b8)
      have HB8 := Aside0.mk (below_step HB7.out b8)
      have HT8 := Aside0.mk (HT7.out.below b8)
      have HX8 := Aside0.mk (blk_below HX7.out b8)
      clear b8 OT ON7 OI7 OO7 HB7 HT7 HX7
      go_wp2_with fail
      go_loopw [11, 87] (fun v11 v87 wr => ∃ k : Nat, k ≤ M.length ∧ v11 = .int .i64 (cnt (M.take k) lb) ∧ v87 = .int .i64 k ∧ Aside0 (Below w8.heap.size w8 wr)) (fun _ v87 _ => M.length - (intOf v87).toNat)
      case atStart => exact ⟨0, Nat.zero_le _, rfl, rfl, ⟨Below.refl _ _⟩⟩
      case round =>
        obtain ⟨k, hk, rfl, rfl, HBr⟩ := hrel
        have hx := blk_below HX8.out HBr.out
        have y1 := (blk_cell hx 1).trans rfl; have y2 := (blk_cell hx 2).trans rfl; have y3 := (blk_cell hx 3).trans rfl
        have z1 : ∀ o, (wr.alloc o).cell? ⟨w.heap.size, 1, none⟩ = some (.int .i64 lb) := fun o => Lib.cell?_alloc_some _ y1
        have z2 : ∀ o, (wr.alloc o).cell? ⟨w.heap.size, 2, none⟩ = some (.int .i64 nx) := fun o => Lib.cell?_alloc_some _ y2
        have z3 : ∀ o, (wr.alloc o).cell? ⟨w.heap.size, 3, none⟩ = some (.int .i64 ll) := fun o => Lib.cell?_alloc_some _ y3
        clear hx
        have lm64 := LM.out
        by_cases hlt : k < M.length
        · obtain ⟨ad, e, c0, c1, c2⟩ := at95 (own_C (ON8.out.below HBr.out)).1 (Below.refl _ _) k hlt
          cases e
          have HC := Aside0.mk (cnt_take M lb k hlt)
          have hc64 : cnt (M.take k) lb ≤ 64 := Nat.le_trans (cnt_le _ _) (by have := LM.out; simp; omega)
          have hwc : IntKind.i64.wrap ((cnt (M.take k) lb : Int) + 1) = (cnt (M.take k) lb : Int) + 1 := IntWalk.i64_in _ (by omega)
          have hq := eqA32
          rcases ins_row GL.out HM.out hlt with he | ⟨hin, hne⟩
          · have e0 : (r95 M k).f0 = lb := by rw [he]
            have e1 : (r95 M k).f1.f0 = nx := by rw [he]
            have e2 : (r95 M k).f1.f1 = ll := by rw [he]
            rw [e0] at c0
            rw [e1] at c1
            rw [e2] at c2
            have E0 := Aside0.mk e0
            clear he e0 e1 e2
            go_wp2_with fail
            go_roundw
            case rel => exact ⟨k + 1, hlt, by rw [HC.out, if_pos E0.out]; rfl, rfl, ⟨HBr.out.alloc HBr.out.size _⟩⟩
            case measure => simp [intOf]; omega
          · have HIN := Aside0.mk hin
            have hne' : ¬ (r95 M k).f0 = lb := hne
            have hhas : hasL L (r95 M k) = true := by simp [hasL, hin]
            have HH := Aside0.mk hhas
            clear hin hne hhas
            go_wp2_with fail
            refine (has_any Ai ci L (r95 M k) _ (own_C (OI8.out.below (HBr.out.alloc HBr.out.size _))).1 LEN.out.1).mono ?_
            rw [HH.out]
            rintro e w10 ⟨rfl, b10⟩
            have HB10 := Aside0.mk (below_step (HBr.out.alloc HBr.out.size _) b10)
            clear b10
            go_wp2_with fail
            go_roundw
            case rel => exact ⟨k + 1, hlt, by rw [HC.out, if_neg hne']; rfl, rfl, HB10⟩
            case measure => simp [intOf]; omega
        · have hkM : k = M.length := by omega
          have hc1 : cnt (M.take k) lb = 1 := by
            rw [hkM, List.take_length, HM.out]
            exact ins_cnt ((good_iff L).1 GL.out).2.2 ⟨lb, ⟨nx, ll⟩⟩
          rw [hc1]
          have HD1 := Aside0.mk (drop_ins (x := ⟨lb, ⟨nx, ll⟩⟩) GL.out HM.out)
          have HD2 := Aside0.mk (drop_none L lb)
          clear hc1 hkM y1 y2 y3 z1 z2 z3
          have HT9 := Aside0.mk (HT8.out.below HBr.out)
          have HX9 := Aside0.mk (blk_below HX8.out HBr.out)
          have HB9 := Aside0.mk (below_step HB8.out HBr.out)
          have OI9 := Aside0.mk (OI8.out.below HBr.out)
          have OO9 := Aside0.mk (OO8.out.below HBr.out)
          have y1 := (blk_cell HX9.out 1).trans rfl
          clear HT8 HX8 HB8 OI8 OO8 HBr
          go_wp2_with fail
          refine (free_any tb F5 64 M T lb _ HT9.out (by omega) (by omega)).mono ?_
          rintro e wx ⟨F6, hex, t6, ch6, f6⟩
          simp only [HD1.out] at hex t6
          subst hex
          have HT10 := Aside0.mk t6
          have hsz9 := blk_lt HX9.out
          have HX10 := Aside0.mk (ch6.obj HX9.out (fun hf => by have := (HF5.out _ hf).1; omega))
          have HB10 : Aside0 (Below w.heap.size w wx) := ⟨HB9.out.trans (ch6.below HB9.out.size (fun k hk => by have := (HF5.out k hk).1; omega))⟩
          have OI10 := Aside0.mk (OI9.out.kept ch6 (fun k hk => NF.out k (.inl hk)))
          have OO10 := Aside0.mk (OO9.out.kept ch6 (fun k hk => NF.out k (.inr hk)))
          have F6L : Aside0 (∀ k, F6 k → F5 k ∨ wr.heap.size ≤ k) := ⟨f6⟩
          have y1 := (blk_cell HX10.out 1).trans rfl
          have HLI : Aside0 (∀ k, (Value.slice Ai L.length ci).ownBlock = some k ∨ (Value.slice Ao T.length co).ownBlock = some k → k < wr.heap.size) := ⟨fun k hk => by rcases hk with hk | hk; exact OI9.out.lt hk; exact OO9.out.lt hk⟩
          clear t6 ch6 f6 HT9 HX9 HB9 OI9 OO9
          go_wp2_with fail
          refine (free_any tb F6 64 _ T lb _ HT10.out (by omega) (by omega)).mono ?_
          rintro e wy ⟨F7, hex, t7, ch7, f7⟩
          simp only [HD2.out] at hex t7
          subst hex
          have HT11 := Aside0.mk t7
          have hf6 : ∀ k, F6 k → w.heap.size < k := fun k hk => by
            rcases F6L.out k hk with h | h
            · exact (HF5.out k h).1
            · omega
          have hn6 : ∀ k, (Value.slice Ai L.length ci).ownBlock = some k ∨ (Value.slice Ao T.length co).ownBlock = some k → ¬ F6 k := fun k hk hf => by
            rcases F6L.out k hf with h | h
            · exact NF.out k hk h
            · have := HLI.out k hk; omega
          have HX11 := Aside0.mk (ch7.obj HX10.out (fun hf => by have := hf6 _ hf; omega))
          have HB11 : Aside0 (Below w.heap.size w wy) := ⟨HB10.out.trans (ch7.below HB10.out.size (fun k hk => by have := hf6 k hk; omega))⟩
          have OI11 := Aside0.mk (OI10.out.kept ch7 (fun k hk => hn6 k (.inl hk)))
          have OO11 := Aside0.mk (OO10.out.kept ch7 (fun k hk => hn6 k (.inr hk)))
          clear t7 ch7 f7 hf6 hn6 y1 HT10 HX10 HB10 OI10 OO10 hsz9 HD1 HD2 NF F6L HLI hlt hk
          go_wp2_with fail
          go_loopw [14, 126] (fun v14 v126 wr => ∃ k : Nat, k ≤ L.length ∧ v14 = .int .i64 (delR (L.take k) lb).length ∧ v126 = .int .i64 k ∧ Aside0 (Below wy.heap.size wy wr)) (fun _ v126 _ => L.length - (intOf v126).toNat)
          case atStart => exact ⟨0, Nat.zero_le _, rfl, rfl, ⟨Below.refl _ _⟩⟩
          case round =>
            obtain ⟨k, hk, rfl, rfl, HBr⟩ := hrel
            have ll64 := LEN.out.1
            by_cases hlt : k < L.length
            · have y1 := (blk_cell (blk_below HX11.out HBr.out) 1).trans rfl
              have z1 : ∀ o, (wr.alloc o).cell? ⟨w.heap.size, 1, none⟩ = some (.int .i64 lb) := fun o => Lib.cell?_alloc_some _ y1
              obtain ⟨ad, e, c0, c1, c2⟩ := at95 (own_C (OI11.out.below HBr.out)).1 (Below.refl _ _) k hlt
              cases e
              have HC := Aside0.mk (delR_take L lb k hlt)
              have hc64 : (delR (L.take k) lb).length ≤ 64 := Nat.le_trans (delR_length _ _) (by simp; omega)
              have hwc : IntKind.i64.wrap (((delR (L.take k) lb).length : Int) + 1) = ((delR (L.take k) lb).length : Int) + 1 := IntWalk.i64_in _ (by omega)
              by_cases hf : (r95 L k).f0 = lb
              · have HFF := Aside0.mk hf
                rw [hf] at c0
                clear hf
                go_wp2_with fail
                go_roundw
                case rel => exact ⟨k + 1, hlt, by rw [HC.out, if_pos HFF.out]; rfl, rfl, ⟨HBr.out.alloc HBr.out.size _⟩⟩
                case measure => simp [intOf]; omega
              · go_wp2_with fail
                go_roundw
                case rel => exact ⟨k + 1, hlt, by rw [HC.out, if_neg hf]; rfl, rfl, ⟨HBr.out.alloc HBr.out.size _⟩⟩
                case measure => simp [intOf]; omega
            · have hkM : k = L.length := by omega
              rw [hkM, List.take_length]
              go_wp2_with fail
              refine (labels_any tb F7 64 _ T _ (HT11.out.below HBr.out)).mono ?_
              rintro e w12 ⟨va, rfl, oa, ba, _⟩
              obtain ⟨Aa, ca, eva⟩ := own_slice oa
              subst eva
              have hb12 := below_step HBr.out ba
              have HT12 := Aside0.mk (HT11.out.below hb12)
              have OO12 := Aside0.mk (OO11.out.below hb12)
              have HB12 := Aside0.mk (below_step HB11.out hb12)
              clear oa ba hb12 hkM hlt hk
              go_wp2_with fail
              refine (tunnels_any tb F7 64 _ T _ HT12.out).mono ?_
              rintro e w13 ⟨vb, rfl, ob, bb, _⟩
              obtain ⟨Ab, cb, evb⟩ := own_slice ob
              subst evb
              have OB := Aside0.mk ob
              have OO13 := Aside0.mk (OO12.out.below bb)
              have HB13 := Aside0.mk (below_step HB12.out bb)
              clear ob bb
              go_wp2_with fail
              refine (same_any Ab Ao cb co T T _ (own_C OB.out).1 (own_C OO13.out).1 LEN.out.2 LEN.out.2).mono ?_
              rw [sameL_self]
              rintro e w14 ⟨rfl, b14⟩
              have HB14 := Aside0.mk (below_step HB13.out b14)
              clear b14
              go_wp2_with fail
              go_ret
              exact ⟨rfl, HB14.out⟩
end Go.Proofs.Ytmnpmjphhkiedaa.LF
