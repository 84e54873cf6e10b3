import Derived.Test.YtmnpmjphhkiedaaT25
namespace Go.Proofs.Ytmnpmjphhkiedaa.LF
open Go.RowKit Go.Proofs.YtmnpmjphhkiedaaW.PrintWords Go.Proofs.YtmnpmjphhkiedaaW.PrintLast Go.Proofs.YtmnpmjphhkiedaaW.PrintMore Go.Proofs.Ytmnpmjphhkiedaa.PLfibActs Go.Proofs.Ytmnpmjphhkiedaa.Lib

/-- What the document's step answers. -/
def RStep (r : Int × Pkt × Int) (w : World) (e : Ending) (w' : World) : Prop :=
  ∃ V, e = .returned (.tuple #[.int .i64 r.1, .agg #[V, .int .i64 r.2.1.tun, .int .i64 r.2.1.ttl, .string r.2.1.pay], .int .i64 r.2.2]) ∧ Kd.R k118 118 w' w.heap.size (fun _ => True) V r.2.1.st ∧ Below w.heap.size w w'

theorem R_chg {α : Type} {d : Kd α} {e : Nat} {S : Nat → Prop} {w2 w' : World} {b b' : Nat} {ok : Nat → Prop} {V : Value} {xs : List α} (h : d.R e w2 b ok V xs) (hc : Chg S w2 w') (hn : ∀ k, b ≤ k → k < w2.heap.size → ¬ S k) (hb : b' ≤ b) : d.R e w' b' (fun _ => True) V xs :=
  Kd.R_mono (Kd.R_lower (Kd.R_step (Kd.R_bound h) (fun k ho hlt => hc.block k hlt (hn k ho.2.1 hlt))) hb) (fun _ _ => trivial)
theorem chg_four (w : World) (g : Nat) (a b c d : Value) : Chg (fun k => k = g) w ((((w.setCell ⟨g, 0, none⟩ a).setCell ⟨g, 1, none⟩ b).setCell ⟨g, 2, none⟩ c).setCell ⟨g, 3, none⟩ d) :=
  (((Chg.one w g 0 a).put g 1 (.inl rfl) b).put g 2 (.inl rfl) c).put g 3 (.inl rfl) d
theorem rfind_any (B : Option Addr) (d : Nat) (L : List S95) (t : Int) (w : World) (h : Kd.C k144 w B L.length (L.map toR)) (hd : L.length ≤ d) (hL : L.length ≤ 64) :
    Calls Try.prog 90 #[.slice B L.length d, .int .i64 t] w fun e w' => e = .returned (.tuple #[.agg #[.int .i64 (fnd L t).1, .int .i64 (fnd L t).2.1, .int .i64 (fnd L t).2.2.1], .bool (fnd L t).2.2.2]) ∧ Below w.heap.size w w' := by
  have := viaductref05_find.calls 100 B d (L.map toR) t (fnd L t).1 (fnd L t).2.1 (fnd L t).2.2.1 (fnd L t).2.2.2 w (by rw [List.length_map]; exact h) (by rw [List.length_map]; exact hd) (find_f L t hL)
  rwa [List.length_map] at this
theorem begins_f (L T : List S95) (most tun ttl : Int) (pay : ByteArray) (hT : T.length ≤ 64) (hv : validP ⟨[], tun, ttl, pay⟩ = true) :
    viaductref05_begins.f 100 (L.map toR) (T.map toR) most [] tun ttl pay = some ((stepP L T ⟨[], tun, ttl, pay⟩).1, (stepP L T ⟨[], tun, ttl, pay⟩).2.1.st, (stepP L T ⟨[], tun, ttl, pay⟩).2.1.tun, (stepP L T ⟨[], tun, ttl, pay⟩).2.1.ttl, (stepP L T ⟨[], tun, ttl, pay⟩).2.1.pay, (stepP L T ⟨[], tun, ttl, pay⟩).2.2) := by
  obtain ⟨hb1, hb2⟩ : 0 ≤ ttl ∧ ttl ≤ 255 := by
    simp [validP] at hv
    omega
  have hw : wrap64 (ttl - 1) = ttl - 1 := by unfold wrap64; omega
  unfold viaductref05_begins.f
  rw [find_f T tun hT, Option.bind_some, hw, (fnd_lk T tun).1]
  cases h : lk T tun with
  | none => rw [step_e8 hv h]; rfl
  | some o =>
    obtain ⟨e1, e2⟩ := (fnd_lk T tun).2 o h
    rw [e1, e2]
    by_cases ht : ttl = 0
    · rw [step_e10 hv h ht]; simp [ht, noPkt]
    · rw [step_e0 hv h ht]
      by_cases h3 : o.f1 = 3 <;> simp [ht, h3]

set_option maxRecDepth 100000 in
set_option maxHeartbeats 2000000 in
theorem rstep_nofull (B1 B2 : Option Addr) (d1 d2 : Nat) (L T : List S95) (most : Int) (A : Option Addr) (c : Nat) (p : Pkt) (w : World)
    (h1 : Kd.C k144 w B1 L.length (L.map toR)) (c1 : L.length ≤ d1) (h2 : Kd.C k144 w B2 T.length (T.map toR)) (c2 : T.length ≤ d2) (hT : T.length ≤ 64) (hp : PktAt w A c p) (hpl : p.st.length ≤ 100) (hv : validP p = false ∨ p.st = []) :
    Calls Try.prog 54 #[.agg #[.slice B1 L.length d1, .slice B2 T.length d2, .int .i64 most], .agg #[.slice A p.st.length c, .int .i64 p.tun, .int .i64 p.ttl, .string p.pay]] w (RStep (stepP L T p) w) := by
  obtain ⟨w0, hw0⟩ : ∃ w0, w0 = ((w.alloc (.cells #[.slice B1 L.length d1, .slice B2 T.length d2, .int .i64 most] 101)).alloc (.cells #[.slice A p.st.length c, .int .i64 p.tun, .int .i64 p.ttl, .string p.pay] 25)).alloc (.cells #[.slice none 0 0, .int .i64 0, .int .i64 0, .string ⟨#[]⟩] 25) := ⟨_, rfl⟩
  have HB0 : Aside0 (Below w.heap.size w w0) := ⟨by rw [hw0]; exact below_two.alloc (by simp; omega) _⟩
  have HT0 : Aside0 (w0.heap[w.heap.size]? = some (.cells #[.slice B1 L.length d1, .slice B2 T.length d2, .int .i64 most] 101 (0, 0))) := ⟨by rw [hw0]; exact blk_alloc (blk_alloc (blk_new w _) _) _⟩
  have HP0 : Aside0 (w0.heap[w.heap.size + 1]? = some (.cells #[.slice A p.st.length c, .int .i64 p.tun, .int .i64 p.ttl, .string p.pay] 25 (0, 0))) := ⟨by
    rw [hw0]
    have := blk_new (w.alloc (.cells #[.slice B1 L.length d1, .slice B2 T.length d2, .int .i64 most] 101)) (.cells #[.slice A p.st.length c, .int .i64 p.tun, .int .i64 p.ttl, .string p.pay] 25)
    exact blk_alloc (by simpa using this) _⟩
  have HQ0 : Aside0 (w0.heap[w.heap.size + 2]? = some (.cells #[.slice none 0 0, .int .i64 0, .int .i64 0, .string ⟨#[]⟩] 25 (0, 0))) := ⟨by
    rw [hw0]
    have := blk_new ((w.alloc (.cells #[.slice B1 L.length d1, .slice B2 T.length d2, .int .i64 most] 101)).alloc (.cells #[.slice A p.st.length c, .int .i64 p.tun, .int .i64 p.ttl, .string p.pay] 25)) (.cells #[.slice none 0 0, .int .i64 0, .int .i64 0, .string ⟨#[]⟩] 25)
    simpa using this⟩
  have H1 := Aside0.mk (Kd.C_below h1 HB0.out)
  have H2 := Aside0.mk (Kd.C_below h2 HB0.out)
  have HP := Aside0.mk (hp.below HB0.out)
  have HV := Aside0.mk hv
  obtain ⟨a0, a1, a2, a3, _⟩ := blk4 HP0.out
  clear h1 h2 hp hv
  go_enter Try.func54, Try.ntmps54
  go_wp2_with fail
  rw [← hw0]
  clear hw0
  refine (viaductref05_Packet.calls 200 A c p.st p.tun p.ttl p.pay (validP p) _ HP.out.st HP.out.cap (packet_f p hpl)).mono ?_
  rintro e w1 ⟨rfl, b1⟩
  have HB1 := Aside0.mk (below_step HB0.out b1)
  have HT1 := Aside0.mk (blk_below HT0.out b1)
  have HP1 := Aside0.mk (blk_below HP0.out b1)
  have HQ1 := Aside0.mk (blk_below HQ0.out b1)
  have H11 := Aside0.mk (Kd.C_below H1.out b1)
  have H21 := Aside0.mk (Kd.C_below H2.out b1)
  have HPA := Aside0.mk (HP.out.below b1)
  clear a0 a1 a2 a3 b1
  obtain ⟨a0, a1, a2, a3, _⟩ := blk4 HP1.out
  obtain ⟨t0, t1, t2, _⟩ := blk3 HT1.out
  obtain ⟨q0, q1, q2, q3, f0, f1, f2, f3⟩ := blk4 HQ1.out
  by_cases hvp : validP p = false
  · rw [hvp]
    have HE : Aside0 (stepP L T p = (0, noPkt, 2)) := ⟨by simp [stepP, hvp]⟩
    clear hvp a0 a1 a2 a3 t0 t1 t2
    go_wp2
    refine bodyPost_ret (results_tct rfl _ _ (w.heap.size + 2) 25 #[.slice none 0 0, .int .i64 0, .int .i64 0, .string ⟨#[]⟩] (0, 0) _ rfl (blk_set (blk_set (blk_set (blk_set HQ1.out 0 _) 1 _) 2 _) 3 _) Try.underlying25 rfl (by kernel_rfl)) rfl ?_
    rw [HE.out]
    exact ⟨_, rfl, Kd.R_nil _ _ _ _ _, below_set (below_set (below_set (below_set HB1.out (by omega)) (by omega)) (by omega)) (by omega)⟩
  · have hvp' : validP p = true := by simpa using hvp
    rw [hvp']
    have hst : p.st = [] := by rcases HV.out with h | h; · exact absurd h hvp
                               · exact h
    obtain ⟨st, tun, ttl, pay⟩ := p
    simp only at hst
    subst hst
    have HVP := Aside0.mk hvp'
    have HBG := Aside0.mk (begins_f L T most tun ttl pay hT hvp')
    simp only [List.length_nil] at *
    clear hvp hvp'
    go_wp2_with fail
    have hc := viaductref05_begins.calls 100 B1 d1 (L.map toR) B2 d2 (T.map toR) most A c [] tun ttl pay _ _ _ _ _ _ w1 (by rw [List.length_map]; exact H11.out) (by rw [List.length_map]; exact c1) (by rw [List.length_map]; exact H21.out) (by rw [List.length_map]; exact c2) HPA.out.st (Nat.zero_le _) HBG.out
    rw [List.length_map, List.length_map] at hc
    refine Calls.mono hc ?_
    rintro e w2 ⟨V, rfl, hR, b2⟩
    obtain ⟨AV, cV, rfl, hcV, _⟩ := Kd.R_reads hR
    have HR := Aside0.mk hR
    have HB2 := Aside0.mk (below_step HB1.out b2)
    have HQ2 := Aside0.mk (blk_below HQ1.out b2)
    clear a0 a1 a2 a3 t0 t1 t2 q0 q1 q2 q3 f0 f1 f2 f3 hR
    obtain ⟨q0, q1, q2, q3, f0, f1, f2, f3⟩ := blk4 HQ2.out
    have hs1 := HB1.out.size
    have lq := blk_lt HQ1.out
    have hs2 := b2.size
    clear b2
    generalize stepP L T ⟨[], tun, ttl, pay⟩ = r at *
    go_wp2
    refine bodyPost_ret (results_tct rfl _ _ (w.heap.size + 2) 25 #[_, _, _, _] (0, 0) _ rfl (blk_set (blk_set (blk_set (blk_set HQ2.out 0 _) 1 _) 2 _) 3 _) Try.underlying25 rfl (by kernel_rfl)) rfl ?_
    refine ⟨_, rfl, ?_, below_set (below_set (below_set (below_set HB2.out (by omega)) (by omega)) (by omega)) (by omega)⟩
    exact R_chg HR.out (chg_four _ _ _ _ _ _) (fun k h1 _ e => by omega) (by omega)
end Go.Proofs.Ytmnpmjphhkiedaa.LF
