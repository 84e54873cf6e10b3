import Derived.Test.YtmnpmjphhkiedaaT10
namespace Go.Proofs.Ytmnpmjphhkiedaa.LF
open Go.RowKit Go.Proofs.YtmnpmjphhkiedaaW.PrintWords Go.Proofs.YtmnpmjphhkiedaaW.PrintLast Go.Proofs.YtmnpmjphhkiedaaW.PrintMore Go.Proofs.Ytmnpmjphhkiedaa.PLfibActs Go.Proofs.Ytmnpmjphhkiedaa.Lib

/-- The packet's place in memory. -/
structure PktAt (w : World) (A : Option Addr) (c : Nat) (p : Pkt) : Prop where
  st : Kd.C k118 w A p.st.length p.st
  cap : p.st.length ≤ c
  pay : p.pay.size ≤ 140737488351232
  len : p.st.length ≤ 140737488351232
  t1 : -9223372036854775808 ≤ p.tun
  t2 : p.tun ≤ 9223372036854775807
theorem PktAt.below {a b : World} {A : Option Addr} {c : Nat} {p : Pkt} (h : PktAt a A c p) (hb : Below a.heap.size a b) : PktAt b A c p := ⟨Kd.C_below h.st hb, h.cap, h.pay, h.len, h.t1, h.t2⟩

theorem step_any (tb : Nat) (F : Nat → Prop) (most : Int) (L T : List S95) (A : Option Addr) (c : Nat) (p : Pkt) (w : World) (t : Tab w tb F most L T) (hp : PktAt w A c p) (hL : OutsOk L) (hT : OutsOk T) :
    Calls Try.prog 16 #[.pointer (some ⟨tb, 0, none⟩), .agg #[.slice A p.st.length c, .int .i64 p.tun, .int .i64 p.ttl, .string p.pay]] w (StepPost (stepP L T p) w) := by
  cases hv : validP p with
  | false => exact step_bad tb F most L T A c p w t hp.st hp.pay hp.len hv
  | true =>
    obtain ⟨st, tun, ttl, pay⟩ := p
    cases st with
    | nil => exact step_empty tb F most L T A c tun ttl pay w t hp.st hp.pay hv hT hp.t1 hp.t2
    | cons x r => exact step_full tb F most L T A c x r tun ttl pay w t hp.st hp.cap hp.pay hv hL hp.t1 hp.t2

theorem outs_put {L : List S95} {most : Int} {x : S95} (h : OutsOk L) (hx : mayOut x.f1.f0 x.f1.f1 = true) : OutsOk (putL L most x).1 := by
  have hins : OutsOk (insR L x) := by
    clear most
    induction L with
    | nil => intro r hr; simp [insR] at hr; subst hr; exact hx
    | cons y ys ih =>
      have hy := h y (by simp)
      have hys : OutsOk ys := fun r hr => h r (by simp [hr])
      intro r hr
      simp only [insR] at hr
      split at hr
      · simp at hr; rcases hr with rfl | hr; exact hy; exact ih hys r hr
      · split at hr
        · simp at hr; rcases hr with rfl | hr; exact hx; exact hys r hr
        · simp at hr; rcases hr with rfl | rfl | hr; exact hx; exact hy; exact hys r hr
  unfold putL
  split
  · exact hins
  · split
    · exact h
    · exact hins
theorem outs_bind {L : List S95} {most label n l : Int} (h : OutsOk L) : OutsOk (bindL L most label n l).1 := by
  unfold bindL
  split
  · rename_i hc
    simp only [Bool.and_eq_true] at hc
    exact outs_put h hc.2
  · exact h
theorem outs_map {L : List S95} {most tun n l : Int} (h : OutsOk L) : OutsOk (mapL L most tun n l).1 := by
  unfold mapL
  split
  · rename_i hc
    simp only [Bool.and_eq_true] at hc
    exact outs_put h hc.2
  · exact h

/-- How long a packet may live. -/
def timeP (p : Pkt) : Int := match p.st with | [] => p.ttl | x :: _ => x.f2
set_option maxRecDepth 100000 in
set_option maxHeartbeats 400000 in
theorem time_any (A : Option Addr) (c : Nat) (p : Pkt) (w : World) (hp : PktAt w A c p) :
    Calls Try.prog 18 #[.agg #[.slice A p.st.length c, .int .i64 p.tun, .int .i64 p.ttl, .string p.pay]] w fun e w' => e = .returned (.int .i64 (timeP p)) ∧ Below w.heap.size w w' := by
  obtain ⟨st, tun, ttl, pay⟩ := p
  have hl := hp.len
  have hb0 : Below w.heap.size w (w.alloc (.cells #[.slice A st.length c, .int .i64 tun, .int .i64 ttl, .string pay] 25)) := (Below.refl _ _).alloc (Nat.le_refl _) _
  simp only at hl ⊢
  cases st with
  | nil =>
    go_enter Try.func18, Try.ntmps18
    go_wp2
    go_ret
    exact ⟨rfl, hb0⟩
  | cons x t =>
    obtain ⟨ad, e, c0, c1, c2⟩ := at118 hp.st hb0 0 (by simp)
    subst e
    have hx : r118 (x :: t) 0 = x := rfl
    simp only [Nat.zero_mul, Addr.add_zero', List.length_cons, hx] at c0 c1 c2 hl ⊢
    have hpos : (0 : Int) < (t.length : Int) + 1 := by omega
    clear hp
    go_enter Try.func18, Try.ntmps18
    go_wp2
    go_ret
    exact ⟨rfl, hb0⟩

theorem outs_nil : OutsOk [] := fun r h => by simp at h
set_option maxRecDepth 100000 in
set_option maxHeartbeats 4000000 in
theorem alive_any (w : World) : Calls Try.prog 11 #[] w fun e w' => e = .returned (.bool true) ∧ Below w.heap.size w w' := by
  have e1 : mapL [] 4 7 2 16 = ([⟨7, ⟨2, 16⟩⟩], 0) := rfl
  have e2 : bindL [] 4 16 3 3 = ([⟨16, ⟨3, 3⟩⟩], 0) := rfl
  have o1 : OutsOk [⟨7, ⟨2, 16⟩⟩] := by have := outs_map (most := 4) (tun := 7) (n := 2) (l := 16) outs_nil; rwa [e1] at this
  have o2 : OutsOk [⟨16, ⟨3, 3⟩⟩] := by have := outs_bind (most := 4) (label := 16) (n := 3) (l := 3) outs_nil; rwa [e2] at this
  have s1 : stepP [⟨16, ⟨3, 3⟩⟩] [⟨7, ⟨2, 16⟩⟩] ⟨[], 7, 9, ⟨#[120]⟩⟩ = (2, ⟨[⟨16, 0, 8⟩], 7, 8, ⟨#[120]⟩⟩, 0) := rfl
  have s2 : stepP [⟨16, ⟨3, 3⟩⟩] [⟨7, ⟨2, 16⟩⟩] ⟨[⟨16, 0, 8⟩], 7, 8, ⟨#[120]⟩⟩ = (3, ⟨[], 7, 7, ⟨#[120]⟩⟩, 0) := rfl
  have E1 := Aside0.mk e1; have E2 := Aside0.mk e2; have S1 := Aside0.mk s1; have S2 := Aside0.mk s2; have O1 := Aside0.mk o1; have O2 := Aside0.mk o2
  clear e1 e2 s1 s2 o1 o2
  go_enter Try.func11, Try.ntmps11
  go_wp2_with fail
  refine (new_yes 4 w (by omega) (by omega)).mono ?_
  rintro e w1 ⟨rfl, hb1, ht1⟩
  have HB1 := Aside0.mk hb1; have HT1 := Aside0.mk ht1
  clear hb1 ht1
  go_wp2_with fail
  refine (map_any _ _ _ _ _ 7 2 16 _ HT1.out).mono ?_
  rintro e w2 ⟨F2, rfl, ht2, hc2, hf2⟩
  rw [E1.out] at ht2
  have HT2 := Aside0.mk ht2; have HC2 := Aside0.mk hc2; have HF2 := Aside0.mk hf2
  clear ht2 hc2 hf2
  go_wp2_with fail
  refine (bind_any _ _ _ _ _ 16 3 3 _ HT2.out).mono ?_
  rintro e w3 ⟨F3, rfl, ht3, hc3, hf3⟩
  rw [E2.out] at ht3
  have HT3 := Aside0.mk ht3
  have HB3 : Aside0 (Below w.heap.size w w3) := ⟨by
    refine HB1.out.trans ?_
    have h1 := HC2.out.below (B := w.heap.size) HB1.out.size (fun k hk => by omega)
    have h2 := hc3.below (B := w.heap.size) (Nat.le_trans HB1.out.size HC2.out.size) (fun k hk => by
      rcases HF2.out k hk with h | h
      · omega
      · have := HB1.out.size; omega)
    exact h1.trans h2⟩
  clear ht3 hc3 hf3
  go_wp2_with fail
  refine (step_any _ _ _ _ _ none 0 ⟨[], 7, 9, ⟨#[120]⟩⟩ _ HT3.out ⟨Kd.C_nil k118 _, Nat.le_refl _, by decide, by decide, by decide, by decide⟩ O2.out O1.out).mono ?_
  rw [S1.out]
  rintro e w4 ⟨A, c, rfl, hC, hlc, hb4, hA⟩
  have HP4 : Aside0 (PktAt w4 A c ⟨[⟨16, 0, 8⟩], 7, 8, ⟨#[120]⟩⟩) := ⟨⟨hC, hlc, by decide, by decide, by decide, by decide⟩⟩
  have HB4 := Aside0.mk (below_step HB3.out hb4)
  have HT4 := Aside0.mk (HT3.out.below hb4)
  clear hC hlc hb4 hA
  go_wp2_with fail
  refine (step_any _ _ _ _ _ A c ⟨[⟨16, 0, 8⟩], 7, 8, ⟨#[120]⟩⟩ _ (HT4.out.below ((Below.refl _ _).alloc (Nat.le_refl _) _)) (HP4.out.below ((Below.refl _ _).alloc (Nat.le_refl _) _)) O2.out O1.out).mono ?_
  rw [S2.out]
  rintro e w5 ⟨A', c', rfl, hC, hlc, hb5, hA⟩
  have hb45 : Below w4.heap.size w4 w5 := ((Below.refl _ _).alloc (Nat.le_refl _) _).trans (hb5.mono (by simp))
  have HB5 := Aside0.mk (below_step HB4.out hb45)
  have hpb := blk_below (blk_new w4 _) hb5
  obtain ⟨a0, a1, a2, a3, _⟩ := blk4 hpb
  obtain ⟨ad, e, c0, c1, c2⟩ := at118 HP4.out.st hb45 0 (by simp)
  subst e
  simp only [Nat.zero_mul, Addr.add_zero'] at c0 c1 c2
  have c2' : w5.cell? ⟨ad.block, ad.off + 2, none⟩ = some (.int .i64 8) := c2
  have l1 := blk_lt hpb
  have l2 := World.block_lt_of_cell? w5 _ c2'
  clear c0 c1 c2 hpb hb45 hb5 hC hlc hA
  simp only [List.length_nil]
  go_wp2
  go_ret
  exact ⟨rfl, HB5.out.alloc HB5.out.size _⟩

/-- The law of time, of one step. -/
theorem step_law (L T : List S95) (p : Pkt) (hL : OutsOk L) (hT : OutsOk T) :
    (∃ c, c ≠ 0 ∧ stepP L T p = (0, noPkt, c)) ∨
    (∃ n q, stepP L T p = (n, q, 0) ∧ timeP q < timeP p ∧ 0 ≤ timeP q ∧ timeP p ≤ 255 ∧ q.tun = p.tun ∧ q.pay = p.pay ∧ q.st.length ≤ p.st.length + 1 ∧ p.st.length ≤ q.st.length + 1 ∧ 0 ≤ n ∧ n < 16 ∧ p.st.length ≤ 8) := by
  cases hv : validP p with
  | false => exact .inl ⟨2, by omega, by simp [stepP, hv]⟩
  | true =>
    obtain ⟨st, tun, ttl, pay⟩ := p
    cases st with
    | nil =>
      have htt : 0 ≤ ttl ∧ ttl ≤ 255 := by simp [validP] at hv; omega
      cases hl : lk T tun with
      | none => exact .inl ⟨8, by omega, step_e8 hv hl⟩
      | some o =>
        by_cases ht : ttl = 0
        · exact .inl ⟨10, by omega, step_e10 hv hl ht⟩
        · have hm := OutsOk.lk hT hl
          have hn : 0 ≤ o.f0 ∧ o.f0 < 16 := by simp [mayOut] at hm; omega
          refine .inr ⟨_, _, step_e0 hv hl ht, ?_⟩
          by_cases h3 : o.f1 = 3
          · simp [timeP, h3]; omega
          · simp [timeP, h3]; omega
    | cons x t =>
      obtain ⟨v1, v2, v3, v4, v5, v6, v7, v8, v9, v10⟩ := validP_head hv
      cases hl : lk L x.f0 with
      | none => exact .inl ⟨11, by omega, step_f11 hv hl⟩
      | some o =>
        by_cases ht : x.f2 = 0
        · exact .inl ⟨10, by omega, step_f10 hv hl ht⟩
        · have hm := OutsOk.lk hL hl
          have hn : 0 ≤ o.f0 ∧ o.f0 < 16 := by simp [mayOut] at hm; omega
          by_cases h3 : o.f1 = 3
          · cases t with
            | nil => refine .inr ⟨_, _, step_f3n hv hl ht h3, ?_⟩; simp [timeP]; omega
            | cons y r =>
              have hy := v10 y (by simp)
              have hy2 : 0 ≤ y.f2 := by simp [validE] at hy; omega
              refine .inr ⟨_, _, step_f3c hv hl ht h3, ?_⟩
              simp [timeP] at v1 ⊢; omega
          · refine .inr ⟨_, _, step_f0 hv hl ht h3, ?_⟩
            simp [timeP]; omega
end Go.Proofs.Ytmnpmjphhkiedaa.LF
