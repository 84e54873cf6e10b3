import Derived.Test.YtmnpmjphhkiedaaT8
namespace Go.Proofs.Ytmnpmjphhkiedaa.LF
open Go.RowKit Go.Proofs.YtmnpmjphhkiedaaW.PrintWords Go.Proofs.YtmnpmjphhkiedaaW.PrintLast Go.Proofs.YtmnpmjphhkiedaaW.PrintMore Go.Proofs.Ytmnpmjphhkiedaa.PLfibActs Go.Proofs.Ytmnpmjphhkiedaa.Lib

def noPkt : Pkt := ⟨[], 0, 0, ⟨#[]⟩⟩
/-- One step: where to, as what, an error. -/
def stepP (L T : List S95) (p : Pkt) : Int × Pkt × Int :=
  if validP p = false then (0, noPkt, 2) else
  match p.st with
  | [] => match lk T p.tun with
    | none => (0, noPkt, 8)
    | some o => if p.ttl = 0 then (0, noPkt, 10) else (o.f0, ⟨if o.f1 = 3 then [] else [⟨o.f1, 0, p.ttl - 1⟩], p.tun, p.ttl - 1, p.pay⟩, 0)
  | x :: t => match lk L x.f0 with
    | none => (0, noPkt, 11)
    | some o => if x.f2 = 0 then (0, noPkt, 10) else
      if o.f1 = 3 then
        match t with
        | [] => (o.f0, ⟨[], p.tun, min p.ttl (x.f2 - 1), p.pay⟩, 0)
        | y :: r => (o.f0, ⟨⟨y.f0, y.f1, min y.f2 (x.f2 - 1)⟩ :: r, p.tun, p.ttl, p.pay⟩, 0)
      else (o.f0, ⟨⟨o.f1, x.f1, x.f2 - 1⟩ :: t, p.tun, p.ttl, p.pay⟩, 0)

def StepPost (r : Int × Pkt × Int) (w : World) (e : Ending) (w' : World) : Prop :=
  ∃ A c, e = .returned (.tuple #[.int .i64 r.1, .agg #[.slice A r.2.1.st.length c, .int .i64 r.2.1.tun, .int .i64 r.2.1.ttl, .string r.2.1.pay], .int .i64 r.2.2]) ∧
    Kd.C k118 w' A r.2.1.st.length r.2.1.st ∧ r.2.1.st.length ≤ c ∧ Below w.heap.size w w' ∧ (∀ a, A = some a → w.heap.size ≤ a.block ∧ (r.2.1.st ≠ [] → ∃ cur, w'.heap[a.block]? = some (.cells cur 118 (0, 0))))

/-- The outs of rows may be. -/
def OutsOk (L : List S95) : Prop := ∀ r ∈ L, mayOut r.f1.f0 r.f1.f1 = true
theorem OutsOk.lk {L : List S95} (h : OutsOk L) {t : Int} {o : S32} (hl : lk L t = some o) : mayOut o.f0 o.f1 = true := by
  unfold LF.lk at hl
  rw [Option.map_eq_some_iff] at hl
  obtain ⟨r, hr, rfl⟩ := hl
  exact h r (List.mem_of_find?_eq_some hr)

theorem step_err {c : Int} {w w' : World} (hb : Below w.heap.size w w') : StepPost (0, noPkt, c) w (.returned (.tuple #[.int .i64 0, .agg #[.slice none 0 0, .int .i64 0, .int .i64 0, .string ⟨#[]⟩], .int .i64 c])) w' :=
  ⟨none, 0, rfl, Kd.C_nil k118 w', Nat.le_refl _, hb, fun a h => by cases h⟩

theorem below_two {w : World} {o1 o2 : Obj} : Below w.heap.size w ((w.alloc o1).alloc o2) := (((Below.refl _ _).alloc (Nat.le_refl _) _).alloc (by simp) _)

set_option maxRecDepth 100000 in
set_option maxHeartbeats 2000000 in
theorem step_bad (tb : Nat) (F : Nat → Prop) (most : Int) (L T : List S95) (A : Option Addr) (c : Nat) (p : Pkt) (w : World) (t : Tab w tb F most L T) (hr : Kd.C k118 w A p.st.length p.st) (hn : p.pay.size ≤ 140737488351232) (hl : p.st.length ≤ 140737488351232) (hv : validP p = false) :
    Calls Try.prog 16 #[.pointer (some ⟨tb, 0, none⟩), .agg #[.slice A p.st.length c, .int .i64 p.tun, .int .i64 p.ttl, .string p.pay]] w (StepPost (stepP L T p) w) := by
  have HE : Aside0 (stepP L T p = (0, noPkt, 2)) := ⟨by simp [stepP, hv]⟩
  obtain ⟨w0, hw0⟩ : ∃ w0, w0 = (w.alloc (.cells #[.slice A p.st.length c, .int .i64 p.tun, .int .i64 p.ttl, .string p.pay] 25)).alloc (.cells #[.slice none 0 0, .int .i64 0, .int .i64 0, .string ⟨#[]⟩] 25) := ⟨_, rfl⟩
  have HB0 : Aside0 (Below w.heap.size w w0) := ⟨by rw [hw0]; exact below_two⟩
  have HP : Aside0 (w0.heap[w.heap.size]? = some (.cells #[.slice A p.st.length c, .int .i64 p.tun, .int .i64 p.ttl, .string p.pay] 25 (0, 0))) := ⟨by rw [hw0]; exact blk_alloc (blk_new w _) _⟩
  have HQ : Aside0 (w0.heap[w.heap.size + 1]? = some (.cells #[.slice none 0 0, .int .i64 0, .int .i64 0, .string ⟨#[]⟩] 25 (0, 0))) := ⟨by rw [hw0]; have := blk_new (w.alloc (.cells #[.slice A p.st.length c, .int .i64 p.tun, .int .i64 p.ttl, .string p.pay] 25)) (.cells #[.slice none 0 0, .int .i64 0, .int .i64 0, .string ⟨#[]⟩] 25); simpa using this⟩
  have hm := (t.below HB0.out).made
  obtain ⟨a0, a1, a2, a3, _⟩ := blk4 HP.out
  have HR := Aside0.mk (Kd.C_below hr HB0.out)
  have HV := Aside0.mk hv
  clear t hr hv
  go_enter Try.func16, Try.ntmps16
  go_wp2_with fail
  rw [← hw0]
  clear hw0
  refine (good_true _ _ hm).mono ?_
  rintro e w1 ⟨rfl, rfl⟩
  go_wp2_with fail
  refine (mayP_any A c p _ HR.out hn hl).mono ?_
  rw [HV.out]
  rintro e w1 ⟨rfl, hb1⟩
  obtain ⟨q0, q1, q2, q3, f0, f1, f2, f3⟩ := blk4 (blk_below HQ.out hb1)
  have HQ1 := Aside0.mk (blk_below HQ.out hb1)
  have HB1 := Aside0.mk (below_step HB0.out hb1)
  clear hb1
  go_wp2
  refine bodyPost_ret (results_tct rfl _ _ (w.heap.size + 1) 25 #[.slice none 0 0, .int .i64 0, .int .i64 0, .string ⟨#[]⟩] (0, 0) _ rfl (blk_set (blk_set (blk_set (blk_set HQ1.out 0 _) 1 _) 2 _) 3 _) Try.underlying25 rfl (by kernel_rfl)) rfl ?_
  rw [HE.out]
  exact step_err (below_set (below_set (below_set (below_set HB1.out (by omega)) (by omega)) (by omega)) (by omega))

theorem step_e8 {L T : List S95} {tun ttl : Int} {pay : ByteArray} (h : validP ⟨[], tun, ttl, pay⟩ = true) (hl : lk T tun = none) : stepP L T ⟨[], tun, ttl, pay⟩ = (0, noPkt, 8) := by
  simp [stepP, h, hl]
theorem step_e10 {L T : List S95} {tun ttl : Int} {pay : ByteArray} (h : validP ⟨[], tun, ttl, pay⟩ = true) {o : S32} (hl : lk T tun = some o) (ht : ttl = 0) : stepP L T ⟨[], tun, ttl, pay⟩ = (0, noPkt, 10) := by
  simp only [stepP, h, hl]; rw [if_neg (by simp), if_pos ht]
theorem step_e0 {L T : List S95} {tun ttl : Int} {pay : ByteArray} (h : validP ⟨[], tun, ttl, pay⟩ = true) {o : S32} (hl : lk T tun = some o) (ht : ¬ ttl = 0) : stepP L T ⟨[], tun, ttl, pay⟩ = (o.f0, ⟨if o.f1 = 3 then [] else [⟨o.f1, 0, ttl - 1⟩], tun, ttl - 1, pay⟩, 0) := by
  simp only [stepP, h, hl]; rw [if_neg (by simp), if_neg ht]

def PushPost (L : List S118) (w : World) (e : Ending) (w' : World) : Prop :=
  ∃ A c, e = .returned (.tuple #[.slice A L.length c, .int .i64 0]) ∧ Kd.C k118 w' A L.length L ∧ L.length ≤ c ∧ Below w.heap.size w w' ∧ ∀ a, A = some a → w.heap.size ≤ a.block ∧ ∃ cur, w'.heap[a.block]? = some (.cells cur 118 (0, 0))
theorem push_any (A : Option Addr) (c : Nat) (L : List S118) (a b d : Int) (w : World) (hr : Kd.C k118 w A L.length L) (hc : L.length ≤ c) (h8 : L.length < 8) (hv : validE ⟨a, b, d⟩ = true) :
    Calls Try.prog 63 #[.slice A L.length c, .agg #[.int .i64 a, .int .i64 b, .int .i64 d]] w (PushPost (⟨a, b, d⟩ :: L) w) := by
  have hf : shim_Push.f L a b d = some (⟨a, b, d⟩ :: L, 0) := by
    simp only [shim_Push.f, validE_f, hv, Option.bind_some, if_true]
    rw [if_neg (by omega), if_pos (by simp; omega)]
    rfl
  refine (shim_Push.calls A c L a b d _ _ w hr hc hf).mono ?_
  rintro e w' ⟨v, rfl, hR, hb⟩
  obtain ⟨A', c', rfl, hl, hC⟩ := Kd.R_reads hR
  obtain ⟨inner, hown⟩ := Kd.R_own hR
  exact ⟨A', c', rfl, hC, hl, hb, fun a ha => ⟨(World.ownsRow.lt hown a.block (by rw [ha]; rfl)).1, by
    rcases hown.2 with ⟨e, _⟩ | ⟨g, cap, cur, e, _, hg, _⟩
    · injection e with e1; rw [ha] at e1; cases e1
    · injection e with e1; rw [ha] at e1; injection e1 with e1; rw [e1]; exact ⟨cur, hg⟩⟩⟩

theorem step_ok {n : Int} {st : List S118} {tun ttl : Int} {pay : ByteArray} {A : Option Addr} {c : Nat} {w w' : World} (hC : Kd.C k118 w' A st.length st) (hl : st.length ≤ c) (hb : Below w.heap.size w w') (hA : ∀ a, A = some a → w.heap.size ≤ a.block ∧ (st ≠ [] → ∃ cur, w'.heap[a.block]? = some (.cells cur 118 (0, 0)))) :
    StepPost (n, ⟨st, tun, ttl, pay⟩, 0) w (.returned (.tuple #[.int .i64 n, .agg #[.slice A st.length c, .int .i64 tun, .int .i64 ttl, .string pay], .int .i64 0])) w' :=
  ⟨A, c, rfl, hC, hl, hb, hA⟩

/-- What get answers. -/
def GetO (n l : Int) (b : Bool) (w : World) (e : Ending) (w' : World) : Prop := e = .returned (.tuple #[.agg #[.int .i64 n, .int .i64 l], .bool b]) ∧ Below w.heap.size w w'
theorem get_none {L : List S95} {k : Int} {W : World} {e : Ending} {w' : World} (h : GetPost L k W e w') (hl : lk L k = none) : GetO 0 0 false W e w' := by unfold GetPost at h; rw [hl] at h; exact h
theorem get_some {L : List S95} {k : Int} {W : World} {e : Ending} {w' : World} (h : GetPost L k W e w') {o : S32} (hl : lk L k = some o) : GetO o.f0 o.f1 true W e w' := by unfold GetPost at h; rw [hl] at h; exact h
theorem get_o (L : List S95) (k : Int) : ∃ n l b, (∀ W e w', GetPost L k W e w' → GetO n l b W e w') ∧ ((b = false ∧ lk L k = none ∧ n = 0 ∧ l = 0) ∨ (b = true ∧ lk L k = some ⟨n, l⟩)) := by
  cases h : lk L k with
  | none => exact ⟨0, 0, false, fun W e w' hp => get_none hp h, .inl ⟨rfl, rfl, rfl, rfl⟩⟩
  | some o => exact ⟨o.f0, o.f1, true, fun W e w' hp => get_some hp h, .inr ⟨rfl, rfl⟩⟩
theorem get_tunnels {tb : Nat} {F : Nat → Prop} {most : Int} {L T : List S95} {w0 : World} (t : Tab w0 tb F most L T) (k : Int) (W : World) (h0 : Below w0.heap.size w0 W) (t1 : -9223372036854775808 ≤ k) (t2 : k ≤ 9223372036854775807) :
    Calls Try.prog 62 #[.pointer (some ⟨tb, 2, none⟩), .int .i64 k] W (GetPost T k W) := by
  obtain ⟨vl, vt, h1, h2, h3, h4, h5⟩ := (t.below h0).at_
  obtain ⟨A, c, rfl, _, _, hr⟩ := h3.read
  exact get_any ⟨tb, 2, none⟩ A c T k W ((blk_cell h1 2).trans rfl) hr t.gt t1 t2
theorem get_labels {tb : Nat} {F : Nat → Prop} {most : Int} {L T : List S95} {w0 : World} (t : Tab w0 tb F most L T) (k : Int) (W : World) (h0 : Below w0.heap.size w0 W) (t1 : -9223372036854775808 ≤ k) (t2 : k ≤ 9223372036854775807) :
    Calls Try.prog 62 #[.pointer (some ⟨tb, 0, none⟩), .int .i64 k] W (GetPost L k W) := by
  obtain ⟨vl, vt, h1, h2, h3, h4, h5⟩ := (t.below h0).at_
  obtain ⟨A, c, rfl, _, _, hr⟩ := h2.read
  exact get_any ⟨tb, 0, none⟩ A c L k W ((blk_cell h1 0).trans rfl) hr t.gl t1 t2

set_option maxRecDepth 100000 in
set_option maxHeartbeats 2000000 in
theorem step_empty (tb : Nat) (F : Nat → Prop) (most : Int) (L T : List S95) (A : Option Addr) (c : Nat) (tun ttl : Int) (pay : ByteArray) (w : World) (t : Tab w tb F most L T) (hr : Kd.C k118 w A 0 []) (hn : pay.size ≤ 140737488351232) (hv : validP ⟨[], tun, ttl, pay⟩ = true) (ho : OutsOk T) (t1 : -9223372036854775808 ≤ tun) (t2 : tun ≤ 9223372036854775807) :
    Calls Try.prog 16 #[.pointer (some ⟨tb, 0, none⟩), .agg #[.slice A 0 c, .int .i64 tun, .int .i64 ttl, .string pay]] w (StepPost (stepP L T ⟨[], tun, ttl, pay⟩) w) := by
  obtain ⟨w0, hw0⟩ : ∃ w0, w0 = (w.alloc (.cells #[.slice A 0 c, .int .i64 tun, .int .i64 ttl, .string pay] 25)).alloc (.cells #[.slice none 0 0, .int .i64 0, .int .i64 0, .string ⟨#[]⟩] 25) := ⟨_, rfl⟩
  have HB0 : Aside0 (Below w.heap.size w w0) := ⟨by rw [hw0]; exact below_two⟩
  have HP : Aside0 (w0.heap[w.heap.size]? = some (.cells #[.slice A 0 c, .int .i64 tun, .int .i64 ttl, .string pay] 25 (0, 0))) := ⟨by rw [hw0]; exact blk_alloc (blk_new w _) _⟩
  have HQ : Aside0 (w0.heap[w.heap.size + 1]? = some (.cells #[.slice none 0 0, .int .i64 0, .int .i64 0, .string ⟨#[]⟩] 25 (0, 0))) := ⟨by rw [hw0]; have := blk_new (w.alloc (.cells #[.slice A 0 c, .int .i64 tun, .int .i64 ttl, .string pay] 25)) (.cells #[.slice none 0 0, .int .i64 0, .int .i64 0, .string ⟨#[]⟩] 25); simpa using this⟩
  have hm := (t.below HB0.out).made
  obtain ⟨a0, a1, a2, a3, _⟩ := blk4 HP.out
  have HR := Aside0.mk (Kd.C_below hr HB0.out)
  have HV := Aside0.mk hv
  have HT := Aside0.mk t
  clear t hr hv
  go_enter Try.func16, Try.ntmps16
  go_wp2_with fail
  rw [← hw0]
  clear hw0
  refine (good_true _ _ hm).mono ?_
  rintro e w1 ⟨rfl, rfl⟩
  go_wp2_with fail
  refine (mayP_any A c ⟨[], tun, ttl, pay⟩ _ HR.out hn (Nat.zero_le _)).mono ?_
  rw [HV.out]
  rintro e w1 ⟨rfl, hb1⟩
  have HP1 := Aside0.mk (blk_below HP.out hb1)
  have HQ1 := Aside0.mk (blk_below HQ.out hb1)
  have HB1 := Aside0.mk (below_step HB0.out hb1)
  obtain ⟨b0, b1, b2, b3, _⟩ := blk4 HP1.out
  clear hb1 a0 a1 a2 a3 hm
  go_wp2_with fail
  refine (pop_nil A c _).mono ?_
  rintro e w2 ⟨rfl, hb2⟩
  have HP2 := Aside0.mk (blk_below HP1.out hb2)
  have HQ2 := Aside0.mk (blk_below HQ1.out hb2)
  have HB2 := Aside0.mk (below_step HB1.out hb2)
  clear b0 b1 b2 b3
  obtain ⟨b0, b1, b2, b3, _⟩ := blk4 HP2.out
  clear hb2
  obtain ⟨w3, hw3⟩ : ∃ w3, w3 = w2.alloc (.cells #[.int .i64 0, .int .i64 0, .int .i64 0] 118) := ⟨_, rfl⟩
  have HB3 : Aside0 (Below w.heap.size w w3) := ⟨by rw [hw3]; exact HB2.out.alloc HB2.out.size _⟩
  have HP3 : Aside0 (w3.heap[w.heap.size]? = some (.cells #[.slice A 0 c, .int .i64 tun, .int .i64 ttl, .string pay] 25 (0, 0))) := ⟨by rw [hw3]; exact blk_alloc HP2.out _⟩
  have HQ3 : Aside0 (w3.heap[w.heap.size + 1]? = some (.cells #[.slice none 0 0, .int .i64 0, .int .i64 0, .string ⟨#[]⟩] 25 (0, 0))) := ⟨by rw [hw3]; exact blk_alloc HQ2.out _⟩
  have HE3 : Aside0 (w3.heap[w2.heap.size]? = some (.cells #[.int .i64 0, .int .i64 0, .int .i64 0] 118 (0, 0))) := ⟨by rw [hw3]; exact blk_new w2 _⟩
  clear b0 b1 b2 b3
  obtain ⟨b0, b1, b2, b3, _⟩ := blk4 HP3.out
  go_upto_region 6 with fail
  rw [← hw3]
  clear hw3
  have BA : Aside0 (Below w.heap.size w w3.drew) := ⟨HB3.out.drew⟩
  have BB : ∀ o, Aside0 (Below w.heap.size w (w3.alloc o).drew) := fun o => ⟨(HB3.out.alloc HB3.out.size o).drew⟩
  have BN : ∀ o, Aside0 ((w3.alloc o).drew.heap[w3.heap.size]? = some o) := fun o => ⟨blk_new w3 o⟩
  have lw := blk_lt HP3.out
  obtain ⟨n, l, b, hget, hcase⟩ := get_o T tun
  have HG := Aside0.mk hget
  have HC := Aside0.mk hcase
  clear hget hcase
  go_cut [10, 11] (fun v10 v11 wc => ∃ N, v10 = .pointer (some ⟨N, 0, none⟩) ∧ v11 = .bool b ∧ Aside0 (wc.heap[N]? = some (.cells #[.int .i64 n, .int .i64 l] 32 (0, 0))) ∧ Aside0 (Below w3.heap.size w3 wc) ∧ Aside0 (w3.heap.size ≤ N))
  case first =>
    go_region_law (first | (go_simp; go_at_call 62; refine (get_tunnels HT.out _ _ (by exact (BB _).out) t1 t2).mono ?_; intro e w4 hp4; obtain ⟨rfl, hb4⟩ := HG.out _ _ _ hp4; have HB4 := Aside0.mk (Below.trans (((Below.refl w3.heap.size w3).alloc (Nat.le_refl _) _).drew) (hb4.mono (by simp))); have HN := Aside0.mk (blk_below (BN _).out hb4); obtain ⟨k0, k1, g0, g1⟩ := blk2 HN.out) | (go_simp; go_at_call 62; refine (get_tunnels HT.out _ _ BA.out t1 t2).mono ?_; intro e w4 hp4; obtain ⟨rfl, hb4⟩ := HG.out _ _ _ hp4; have HB4 := Aside0.mk (Below.trans ((Below.refl w3.heap.size w3).drew) hb4)))
    all_goals (go_wp2_with fail; go_meet)
    all_goals first
      | exact ⟨w4.heap.size, rfl, rfl, ⟨blk_new w4 _⟩, ⟨HB4.out.alloc HB4.out.size _⟩, ⟨HB4.out.size⟩⟩
      | exact ⟨w3.heap.size, rfl, rfl, ⟨blk_set (blk_set HN.out 0 _) 1 _⟩, ⟨below_set (below_set HB4.out (Nat.le_refl _)) (Nat.le_refl _)⟩, ⟨Nat.le_refl _⟩⟩
  case rest =>
    obtain ⟨N, rfl, rfl, HN, HB4, HNl⟩ := hcut
    have HP4 := Aside0.mk (blk_below HP3.out HB4.out)
    have HQ4 := Aside0.mk (blk_below HQ3.out HB4.out)
    have HE4 := Aside0.mk (blk_below HE3.out HB4.out)
    have HB5 := Aside0.mk (below_step HB3.out HB4.out)
    clear b0 b1 b2 b3
    obtain ⟨p0, p1, p2, p3, p4, p5, p6, p7⟩ := blk4 HP4.out
    obtain ⟨q0, q1, q2, q3, q4, q5, q6, q7⟩ := blk4 HQ4.out
    obtain ⟨e0, e1, e2, e3, e4, e5⟩ := blk3 HE4.out
    obtain ⟨o0, o1, o2, o3⟩ := blk2 HN.out
    have n1 : w2.heap.size ≠ w.heap.size := by have := blk_lt HP2.out; omega
    have n2 : w2.heap.size ≠ w.heap.size + 1 := by have := blk_lt HQ2.out; omega
    have n3 : N ≠ w2.heap.size := by have := blk_lt HE3.out; have := HNl.out; omega
    have n4 : N ≠ w.heap.size := by have := HNl.out; omega
    have n5 : N ≠ w.heap.size + 1 := by have := HNl.out; have := blk_lt HQ3.out; omega
    have n0 : w.heap.size ≤ w2.heap.size := HB2.out.size
    have n6 := n1.symm; have n7 := n2.symm; have n8 := n3.symm; have n9 := n4.symm; have n10 := n5.symm
    rcases HC.out with ⟨rfl, hlk, rfl, rfl⟩ | ⟨rfl, hlk⟩
    · have HS : Aside0 (stepP L T ⟨[], tun, ttl, pay⟩ = (0, noPkt, 8)) := ⟨step_e8 HV.out hlk⟩
      clear hlk
      go_wp2
      refine bodyPost_ret (results_tct rfl _ _ (w.heap.size + 1) 25 #[.slice none 0 0, .int .i64 0, .int .i64 0, .string ⟨#[]⟩] (0, 0) _ rfl (blk_set (blk_set (blk_set (blk_set (blk_far HQ4.out n7 _) 0 _) 1 _) 2 _) 3 _) Try.underlying25 rfl (by kernel_rfl)) rfl ?_
      rw [HS.out]
      exact step_err (by repeat (first | exact HB5.out | refine below_set ?_ (by omega)))
    · by_cases ht : ttl = 0
      · have HS : Aside0 (stepP L T ⟨[], tun, ttl, pay⟩ = (0, noPkt, 10)) := ⟨step_e10 HV.out hlk ht⟩
        clear hlk
        subst ht
        go_wp2
        refine bodyPost_ret (results_tct rfl _ _ (w.heap.size + 1) 25 #[.slice none 0 0, .int .i64 0, .int .i64 0, .string ⟨#[]⟩] (0, 0) _ rfl (blk_set (blk_set (blk_set (blk_set (blk_far HQ4.out n7 _) 0 _) 1 _) 2 _) 3 _) Try.underlying25 rfl (by kernel_rfl)) rfl ?_
        rw [HS.out]
        exact step_err (by repeat (first | exact HB5.out | refine below_set ?_ (by omega)))
      · have hs0 := step_e0 HV.out hlk ht (L := L)
        have hmo := OutsOk.lk ho hlk
        have hmay : 0 ≤ n ∧ n < 16 ∧ (l = 3 ∨ (16 ≤ l ∧ l ≤ 1048575)) := by
          simp [mayOut, bindable] at hmo; omega
        have htt : 0 ≤ ttl ∧ ttl ≤ 255 := by
          have := HV.out; simp [validP] at this; omega
        have HTT := Aside0.mk htt
        have hn0 : (ttl == 0) = false := beq_eq_false_iff_ne.2 ht
        obtain ⟨ht1, ht2⟩ := htt
        by_cases hl3 : l = 3
        · have hl3' : (l == 3) = true := beq_iff_eq.2 hl3
          have hl3'' : (l != 3) = false := bne_eq_false_iff_eq.2 hl3
          rw [if_pos hl3] at hs0
          have HS := Aside0.mk hs0
          clear hlk hmo hmay hs0
          go_wp2
          obtain ⟨wd, hwd⟩ : ∃ wd, wd = (((((wc.setCell ⟨w2.heap.size, 2, none⟩ (.int .i64 ttl)).setCell ⟨w2.heap.size, 2, none⟩ (.int .i64 (ttl - 1))).setCell ⟨w2.heap.size, 0, none⟩ (.int .i64 l)).setCell ⟨w.heap.size, 2, none⟩ (.int .i64 (ttl - 1))).setCell ⟨w.heap.size, 0, none⟩ (.slice none 0 0)) := ⟨_, rfl⟩
          subst hl3
          rw [← hwd]
          have HPD : Aside0 (wd.heap[w.heap.size]? = some (.cells #[.slice none 0 0, .int .i64 tun, .int .i64 (ttl - 1), .string pay] 25 (0, 0))) := ⟨by rw [hwd]; exact blk_set (blk_set (blk_far (blk_far (blk_far HP4.out n6 _) n6 _) n6 _) 2 _) 0 _⟩
          have HQD : Aside0 (wd.heap[w.heap.size + 1]? = some (.cells #[.slice none 0 0, .int .i64 0, .int .i64 0, .string ⟨#[]⟩] 25 (0, 0))) := ⟨by rw [hwd]; exact blk_far (blk_far (blk_far (blk_far (blk_far HQ4.out n7 _) n7 _) n7 _) (by simp) _) (by simp) _⟩
          have HND : Aside0 (wd.heap[N]? = some (.cells #[.int .i64 n, .int .i64 3] 32 (0, 0))) := ⟨by rw [hwd]; exact blk_far (blk_far (blk_far (blk_far (blk_far HN.out n3 _) n3 _) n3 _) n4 _) n4 _⟩
          have HBD : Aside0 (Below w.heap.size w wd) := ⟨by rw [hwd]; repeat (first | exact HB5.out | refine below_set ?_ (by omega))⟩
          clear hwd p0 p1 p2 p3 p4 p5 p6 p7 q0 q1 q2 q3 q4 q5 q6 q7 o0 o1 o2 o3 e0 e1 e2 e3 e4 e5
          obtain ⟨p0, p1, p2, p3, p4, p5, p6, p7⟩ := blk4 HPD.out
          obtain ⟨q0, q1, q2, q3, q4, q5, q6, q7⟩ := blk4 HQD.out
          obtain ⟨o0, o1, o2, o3⟩ := blk2 HND.out
          go_region
          all_goals go_wp2
          refine bodyPost_ret (results_tct rfl _ _ (w.heap.size + 1) 25 #[.slice none 0 0, .int .i64 tun, .int .i64 (ttl - 1), .string pay] (0, 0) _ rfl (blk_set (blk_set (blk_set (blk_set HQD.out 0 _) 1 _) 2 _) 3 _) Try.underlying25 rfl (by kernel_rfl)) rfl ?_
          rw [HS.out]
          exact step_ok (Kd.C_nil k118 _) (Nat.zero_le _) (by refine Below.drew ?_; repeat (first | exact HBD.out | refine below_set ?_ (by omega))) (fun a h => by cases h)
        · have hl3' : (l == 3) = false := beq_eq_false_iff_ne.2 hl3
          have hl3'' : (l != 3) = true := bne_iff_ne.2 hl3
          rw [if_neg hl3] at hs0
          have HS := Aside0.mk hs0
          have HVE : Aside0 (validE ⟨l, 0, ttl - 1⟩ = true) := ⟨by simp [validE]; omega⟩
          clear hlk hmo hmay hs0
          go_wp2_with fail
          obtain ⟨wd, hwd⟩ : ∃ wd, wd = (((((wc.setCell ⟨w2.heap.size, 2, none⟩ (.int .i64 ttl)).setCell ⟨w2.heap.size, 2, none⟩ (.int .i64 (ttl - 1))).setCell ⟨w2.heap.size, 0, none⟩ (.int .i64 l)).setCell ⟨w.heap.size, 2, none⟩ (.int .i64 (ttl - 1))).setCell ⟨w.heap.size, 0, none⟩ (.slice none 0 0)) := ⟨_, rfl⟩
          rw [← hwd]
          have HPD : Aside0 (wd.heap[w.heap.size]? = some (.cells #[.slice none 0 0, .int .i64 tun, .int .i64 (ttl - 1), .string pay] 25 (0, 0))) := ⟨by rw [hwd]; exact blk_set (blk_set (blk_far (blk_far (blk_far HP4.out n6 _) n6 _) n6 _) 2 _) 0 _⟩
          have HQD : Aside0 (wd.heap[w.heap.size + 1]? = some (.cells #[.slice none 0 0, .int .i64 0, .int .i64 0, .string ⟨#[]⟩] 25 (0, 0))) := ⟨by rw [hwd]; exact blk_far (blk_far (blk_far (blk_far (blk_far HQ4.out n7 _) n7 _) n7 _) (by simp) _) (by simp) _⟩
          have HND : Aside0 (wd.heap[N]? = some (.cells #[.int .i64 n, .int .i64 l] 32 (0, 0))) := ⟨by rw [hwd]; exact blk_far (blk_far (blk_far (blk_far (blk_far HN.out n3 _) n3 _) n3 _) n4 _) n4 _⟩
          have HBD : Aside0 (Below w.heap.size w wd) := ⟨by rw [hwd]; repeat (first | exact HB5.out | refine below_set ?_ (by omega))⟩
          clear hwd p0 p1 p2 p3 p4 p5 p6 p7 q0 q1 q2 q3 q4 q5 q6 q7 o0 o1 o2 o3 e0 e1 e2 e3 e4 e5
          refine (push_any none 0 [] l 0 (ttl - 1) _ (Kd.C_nil k118 _) (Nat.le_refl _) (by simp) HVE.out).mono ?_
          rintro e w5 ⟨A', c', rfl, hC, hlc, hb5, hA⟩
          have HC5 := Aside0.mk hC; have HA5 := Aside0.mk hA; have HLC := Aside0.mk hlc
          have HBF := Aside0.mk (below_step HBD.out hb5)
          have HPF := Aside0.mk (blk_below HPD.out hb5)
          have HQF := Aside0.mk (blk_below HQD.out hb5)
          have HNF := Aside0.mk (blk_below HND.out hb5)
          have hws := hb5.size
          clear hC hA hlc hb5
          obtain ⟨p0, p1, p2, p3, p4, p5, p6, p7⟩ := blk4 HPF.out
          obtain ⟨q0, q1, q2, q3, q4, q5, q6, q7⟩ := blk4 HQF.out
          obtain ⟨o0, o1, o2, o3⟩ := blk2 HNF.out
          go_wp2
          obtain ⟨wf, hwf⟩ : ∃ wf, wf = w5.setCell ⟨w.heap.size, 0, none⟩ (.slice A' 1 c') := ⟨_, rfl⟩
          rw [← hwf]
          have HPG : Aside0 (wf.heap[w.heap.size]? = some (.cells #[.slice A' 1 c', .int .i64 tun, .int .i64 (ttl - 1), .string pay] 25 (0, 0))) := ⟨by rw [hwf]; exact blk_set HPF.out 0 _⟩
          have HQG : Aside0 (wf.heap[w.heap.size + 1]? = some (.cells #[.slice none 0 0, .int .i64 0, .int .i64 0, .string ⟨#[]⟩] 25 (0, 0))) := ⟨by rw [hwf]; exact blk_far HQF.out (by simp) _⟩
          have HNG : Aside0 (wf.heap[N]? = some (.cells #[.int .i64 n, .int .i64 l] 32 (0, 0))) := ⟨by rw [hwf]; exact blk_far HNF.out n4 _⟩
          have HBG : Aside0 (Below w.heap.size w wf) := ⟨by rw [hwf]; exact below_set HBF.out (Nat.le_refl _)⟩
          have HCG : Aside0 (Chg (fun k => k = w.heap.size ∨ k = w.heap.size + 1) w5 wf) := ⟨by rw [hwf]; exact (Chg.refl _ _).put _ _ (.inl (.inl rfl)) _⟩
          have n11 := blk_lt HQD.out
          clear hwf p0 p1 p2 p3 p4 p5 p6 p7 q0 q1 q2 q3 q4 q5 q6 q7 o0 o1 o2 o3
          obtain ⟨p0, p1, p2, p3, p4, p5, p6, p7⟩ := blk4 HPG.out
          obtain ⟨q0, q1, q2, q3, q4, q5, q6, q7⟩ := blk4 HQG.out
          obtain ⟨o0, o1, o2, o3⟩ := blk2 HNG.out
          go_region
          all_goals go_wp2
          all_goals
            refine bodyPost_ret (results_tct rfl _ _ (w.heap.size + 1) 25 #[.slice A' 1 c', .int .i64 tun, .int .i64 (ttl - 1), .string pay] (0, 0) _ rfl (blk_set (blk_set (blk_set (blk_set HQG.out 0 _) 1 _) 2 _) 3 _) Try.underlying25 rfl (by kernel_rfl)) rfl ?_
            rw [HS.out]
            refine step_ok (C_kept (S := fun k => k = w.heap.size ∨ k = w.heap.size + 1) (fun _ _ _ _ h => h) (Chg.drew (((((HCG.out.put _ _ (.inl (.inr rfl)) _).put _ _ (.inl (.inr rfl)) _).put _ _ (.inl (.inr rfl)) _).put _ _ (.inl (.inr rfl)) _))) HC5.out (fun x hx => ?_)) HLC.out (by refine Below.drew ?_; repeat (first | exact HBG.out | refine below_set ?_ (by omega))) (fun a ha => ⟨by have := (HA5.out a ha).1; omega, fun _ => by obtain ⟨cur, h⟩ := (HA5.out a ha).2; exact ⟨cur, (Chg.drew (((((HCG.out.put _ _ (.inl (.inr rfl)) _).put _ _ (.inl (.inr rfl)) _).put _ _ (.inl (.inr rfl)) _).put _ _ (.inl (.inr rfl)) _))).obj h (by have := (HA5.out a ha).1; omega)⟩⟩)
            have := (HA5.out x hx).1
            omega
end Go.Proofs.Ytmnpmjphhkiedaa.LF
