import Derived.Test.YtmnpmjphhkiedaaT26
namespace Go.Proofs.Ytmnpmjphhkiedaa.LF
open Go.RowKit Go.Proofs.YtmnpmjphhkiedaaW.PrintWords Go.Proofs.YtmnpmjphhkiedaaW.PrintLast Go.Proofs.YtmnpmjphhkiedaaW.PrintMore Go.Proofs.Ytmnpmjphhkiedaa.PLfibActs Go.Proofs.Ytmnpmjphhkiedaa.Lib

/-- The blocks of the document's step. -/
structure MemS (w W : World) (E M : Nat) (a b c d x y z f n l : Value) : Prop where
  bel : Below w.heap.size w W
  p : W.heap[w.heap.size + 1]? = some (.cells #[a, b, c, d] 25 (0, 0))
  q : W.heap[w.heap.size + 2]? = some (.cells #[.slice none 0 0, .int .i64 0, .int .i64 0, .string ⟨#[]⟩] 25 (0, 0))
  e : W.heap[E]? = some (.cells #[x, y, z] 118 (0, 0))
  m : W.heap[M]? = some (.cells #[f, n, l] 144 (0, 0))
section
variable {w W W' : World} {E M : Nat} {a b c d x y z f n l : Value}
theorem MemS.below (h : MemS w W E M a b c d x y z f n l) (hb : Below W.heap.size W W') : MemS w W' E M a b c d x y z f n l :=
  ⟨below_step h.bel hb, blk_below h.p hb, blk_below h.q hb, blk_below h.e hb, blk_below h.m hb⟩
theorem MemS.all (h : MemS w W E M a b c d x y z f n l) :
    (W.cell? ⟨w.heap.size + 1, 0, none⟩ = some a ∧ W.cell? ⟨w.heap.size + 1, 1, none⟩ = some b ∧ W.cell? ⟨w.heap.size + 1, 2, none⟩ = some c ∧ W.cell? ⟨w.heap.size + 1, 3, none⟩ = some d ∧ W.frozen? ⟨w.heap.size + 1, 0, none⟩ = false ∧ W.frozen? ⟨w.heap.size + 1, 1, none⟩ = false ∧ W.frozen? ⟨w.heap.size + 1, 2, none⟩ = false ∧ W.frozen? ⟨w.heap.size + 1, 3, none⟩ = false) ∧
    (W.cell? ⟨w.heap.size + 2, 0, none⟩ = some (.slice none 0 0) ∧ W.cell? ⟨w.heap.size + 2, 1, none⟩ = some (.int .i64 0) ∧ W.cell? ⟨w.heap.size + 2, 2, none⟩ = some (.int .i64 0) ∧ W.cell? ⟨w.heap.size + 2, 3, none⟩ = some (.string ⟨#[]⟩) ∧ W.frozen? ⟨w.heap.size + 2, 0, none⟩ = false ∧ W.frozen? ⟨w.heap.size + 2, 1, none⟩ = false ∧ W.frozen? ⟨w.heap.size + 2, 2, none⟩ = false ∧ W.frozen? ⟨w.heap.size + 2, 3, none⟩ = false) ∧
    (W.cell? ⟨E, 0, none⟩ = some x ∧ W.cell? ⟨E, 1, none⟩ = some y ∧ W.cell? ⟨E, 2, none⟩ = some z) ∧
    (W.cell? ⟨M, 0, none⟩ = some f ∧ W.cell? ⟨M, 1, none⟩ = some n ∧ W.cell? ⟨M, 2, none⟩ = some l) := by
  obtain ⟨e0, e1, e2, _⟩ := blk3 h.e
  obtain ⟨m0, m1, m2, _⟩ := blk3 h.m
  exact ⟨blk4 h.p, blk4 h.q, ⟨e0, e1, e2⟩, ⟨m0, m1, m2⟩⟩
end
theorem take_snoc (L : List S118) (i : Nat) (h : i < L.length) : L.take (i + 1) = L.take i ++ [r118 L i] := by
  rw [List.take_succ_eq_append_getElem h]
  simp [r118, h]
theorem r118_tail (x y : S118) (t : List S118) (i : Nat) (h : 1 ≤ i) : r118 (x :: t) i = r118 (y :: t) i := by
  obtain ⟨j, rfl⟩ : ∃ j, i = j + 1 := ⟨i - 1, by omega⟩
  rfl

set_option maxRecDepth 100000 in
set_option maxHeartbeats 8000000 in
theorem rstep_full (B1 B2 : Option Addr) (d1 d2 : Nat) (L T : List S95) (most : Int) (A : Option Addr) (c : Nat) (x : S118) (t : List S118) (tun ttl : Int) (pay : ByteArray) (w : World)
    (h1 : Kd.C k144 w B1 L.length (L.map toR)) (c1 : L.length ≤ d1) (hL : L.length ≤ 64) (hp : PktAt w A c ⟨x :: t, tun, ttl, pay⟩) (hv : validP ⟨x :: t, tun, ttl, pay⟩ = true) :
    Calls Try.prog 54 #[.agg #[.slice B1 L.length d1, .slice B2 T.length d2, .int .i64 most], .agg #[.slice A (x :: t).length c, .int .i64 tun, .int .i64 ttl, .string pay]] w (RStep (stepP L T ⟨x :: t, tun, ttl, pay⟩) w) := by
  obtain ⟨v1, v2, v3, v4, v5, v6, v7, v8, v9, v10⟩ := validP_head hv
  obtain ⟨w0, hw0⟩ : ∃ w0, w0 = ((w.alloc (.cells #[.slice B1 L.length d1, .slice B2 T.length d2, .int .i64 most] 101)).alloc (.cells #[.slice A (t.length + 1) c, .int .i64 tun, .int .i64 ttl, .string pay] 25)).alloc (.cells #[.slice none 0 0, .int .i64 0, .int .i64 0, .string ⟨#[]⟩] 25) := ⟨_, rfl⟩
  have HB0 : Aside0 (Below w.heap.size w w0) := ⟨by rw [hw0]; exact below_two.alloc (by simp; omega) _⟩
  have HT0 : Aside0 (w0.heap[w.heap.size]? = some (.cells #[.slice B1 L.length d1, .slice B2 T.length d2, .int .i64 most] 101 (0, 0))) := ⟨by rw [hw0]; exact blk_alloc (blk_alloc (blk_new w _) _) _⟩
  have HP0 : Aside0 (w0.heap[w.heap.size + 1]? = some (.cells #[.slice A (t.length + 1) c, .int .i64 tun, .int .i64 ttl, .string pay] 25 (0, 0))) := ⟨by
    rw [hw0]
    have := blk_new (w.alloc (.cells #[.slice B1 L.length d1, .slice B2 T.length d2, .int .i64 most] 101)) (.cells #[.slice A (t.length + 1) c, .int .i64 tun, .int .i64 ttl, .string pay] 25)
    exact blk_alloc (by simpa using this) _⟩
  have HQ0 : Aside0 (w0.heap[w.heap.size + 2]? = some (.cells #[.slice none 0 0, .int .i64 0, .int .i64 0, .string ⟨#[]⟩] 25 (0, 0))) := ⟨by
    rw [hw0]
    have := blk_new ((w.alloc (.cells #[.slice B1 L.length d1, .slice B2 T.length d2, .int .i64 most] 101)).alloc (.cells #[.slice A (t.length + 1) c, .int .i64 tun, .int .i64 ttl, .string pay] 25)) (.cells #[.slice none 0 0, .int .i64 0, .int .i64 0, .string ⟨#[]⟩] 25)
    simpa using this⟩
  have H1 := Aside0.mk (Kd.C_below h1 HB0.out)
  have HP := Aside0.mk (hp.below HB0.out)
  have HV := Aside0.mk hv
  have HVE := Aside0.mk v10
  have HPF := Aside0.mk (packet_f ⟨x :: t, tun, ttl, pay⟩ (by simp; omega))
  rw [hv] at HPF
  obtain ⟨a0, a1, a2, a3, _⟩ := blk4 HP0.out
  clear h1 hp hv v10
  rw [List.length_cons]
  go_enter Try.func54, Try.ntmps54
  go_wp2_with fail
  rw [← hw0]
  clear hw0
  refine (viaductref05_Packet.calls 200 A c (x :: t) tun ttl pay true _ HP.out.st HP.out.cap HPF.out).mono ?_
  rintro e w1 ⟨rfl, b1⟩
  have HB1 := Aside0.mk (below_step HB0.out b1)
  have HT1 := Aside0.mk (blk_below HT0.out b1)
  have HP1 := Aside0.mk (blk_below HP0.out b1)
  have HQ1 := Aside0.mk (blk_below HQ0.out b1)
  have H11 := Aside0.mk (Kd.C_below H1.out b1)
  have HPA := Aside0.mk (HP.out.below b1)
  clear a0 a1 a2 a3 b1 HPF
  obtain ⟨a0, a1, a2, a3, _⟩ := blk4 HP1.out
  obtain ⟨t0, t1, t2, _⟩ := blk3 HT1.out
  obtain ⟨ad, e, x0, x1, x2⟩ := at118 HPA.out.st (Below.refl _ _) 0 (by simp)
  cases e
  have hx : r118 (x :: t) 0 = x := rfl
  simp only [Nat.zero_mul, Addr.add_zero', hx] at x0 x1 x2
  have hl0 : ¬ ((t.length : Int) + 1 = 0) := by omega
  have hp0 : (0 : Int) < (t.length : Int) + 1 := by omega
  go_upto_region 6 with fail
  obtain ⟨w2, hw2⟩ : ∃ w2, w2 = w1.alloc (.cells #[.int .i64 x.f0, .int .i64 x.f1, .int .i64 x.f2] 118) := ⟨_, rfl⟩
  rw [← hw2]
  have hb2 : Below w1.heap.size w1 w2 := by rw [hw2]; exact (Below.refl _ _).alloc (Nat.le_refl _) _
  have HE2 : Aside0 (w2.heap[w1.heap.size]? = some (.cells #[.int .i64 x.f0, .int .i64 x.f1, .int .i64 x.f2] 118 (0, 0))) := ⟨by rw [hw2]; exact blk_new w1 _⟩
  have HB2 := Aside0.mk (below_step HB1.out hb2)
  have HP2 := Aside0.mk (blk_below HP1.out hb2)
  have HQ2 := Aside0.mk (blk_below HQ1.out hb2)
  have H12 := Aside0.mk (Kd.C_below H11.out hb2)
  have HPA2 := Aside0.mk (HPA.out.below hb2)
  have HT2 := Aside0.mk (blk_below HT1.out hb2)
  clear hw2 hb2 a0 a1 a2 a3 t0 t1 t2 x0 x1 x2
  obtain ⟨t0, t1, t2, _⟩ := blk3 HT2.out
  obtain ⟨x0, x1, x2, _⟩ := blk3 HE2.out
  go_wp2_with fail
  refine (rfind_any B1 d1 L x.f0 _ H12.out c1 hL).mono ?_
  rintro e w3 ⟨rfl, hb3⟩
  have HB3 := Aside0.mk (below_step HB2.out hb3)
  have HP3 := Aside0.mk (blk_below HP2.out hb3)
  have HQ3 := Aside0.mk (blk_below HQ2.out hb3)
  have HE3 := Aside0.mk (blk_below HE2.out hb3)
  have HPA3 := Aside0.mk (HPA2.out.below hb3)
  have hs3 : w2.heap.size ≤ w3.heap.size := hb3.size
  have ls1 := blk_lt HQ1.out
  have ls2 := blk_lt HE2.out
  clear hb3 t0 t1 t2 x0 x1 x2
  obtain ⟨fl1, fl2⟩ := fnd_lk L x.f0
  generalize hfn : fnd L x.f0 = fn at fl1 fl2 ⊢
  obtain ⟨k0, k1, k2, kb⟩ := fn
  simp only at fl1 fl2 ⊢
  clear hfn
  go_upto_region 7 with fail
  obtain ⟨w4, hw4⟩ : ∃ w4, w4 = w3.alloc (.cells #[.int .i64 k0, .int .i64 k1, .int .i64 k2] 144) := ⟨_, rfl⟩
  rw [← hw4]
  have hb4 : Below w3.heap.size w3 w4 := by rw [hw4]; exact (Below.refl _ _).alloc (Nat.le_refl _) _
  have HM4 : Aside0 (w4.heap[w3.heap.size]? = some (.cells #[.int .i64 k0, .int .i64 k1, .int .i64 k2] 144 (0, 0))) := ⟨by rw [hw4]; exact blk_new w3 _⟩
  have HM : Aside0 (MemS w w4 w1.heap.size w3.heap.size (.slice (some ad) (t.length + 1) c) (.int .i64 tun) (.int .i64 ttl) (.string pay) (.int .i64 x.f0) (.int .i64 x.f1) (.int .i64 x.f2) (.int .i64 k0) (.int .i64 k1) (.int .i64 k2)) :=
    ⟨⟨below_step HB3.out hb4, blk_below HP3.out hb4, blk_below HQ3.out hb4, blk_below HE3.out hb4, HM4.out⟩⟩
  have HPA4 := Aside0.mk (HPA3.out.below hb4)
  have ls4 := blk_lt HM4.out
  clear hw4 hb4
  obtain ⟨⟨p0, p1, p2, p3, p4, p5, p6, p7⟩, ⟨q0, q1, q2, q3, q4, q5, q6, q7⟩, ⟨e0, e1, e2⟩, ⟨m0, m1, m2⟩⟩ := HM.out.all
  cases hlk : lk L x.f0 with
  | none =>
    have fl3 : kb = false := by rw [fl1, hlk]; rfl
    clear fl1
    subst fl3
    have HS := Aside0.mk (step_f11 (T := T) HV.out hlk)
    clear hlk fl2 p0 p1 p2 p3 p4 p5 p6 p7 e0 e1 e2 m0 m1 m2
    go_wp2
    refine bodyPost_ret (results_tct rfl _ _ (w.heap.size + 2) 25 #[.slice none 0 0, .int .i64 0, .int .i64 0, .string ⟨#[]⟩] (0, 0) _ rfl (blk_set (blk_set (blk_set (blk_set HM.out.q 0 _) 1 _) 2 _) 3 _) Try.underlying25 rfl (by kernel_rfl)) rfl ?_
    rw [HS.out]
    exact ⟨_, rfl, Kd.R_nil _ _ _ _ _, (chg_four _ _ _ _ _ _).below (S := fun k => k = w.heap.size + 2) (B := w.heap.size) (by have := HM.out.bel.size; omega) (fun k hk => by omega) |> fun h => HM.out.bel.trans h⟩
  | some o =>
    have fl3 : kb = true := by rw [fl1, hlk]; rfl
    clear fl1
    subst fl3
    obtain ⟨fl3, fl4⟩ := fl2 o hlk
    obtain ⟨on, ol⟩ := o
    simp only at fl3 fl4
    subst fl3 fl4
    by_cases hx2 : x.f2 = 0
    · have HS := Aside0.mk (step_f10 (T := T) HV.out hlk hx2)
      rw [hx2] at e2
      clear hlk p0 p1 p2 p3 p4 p5 p6 p7 e0 e1 m0 m1 m2
      go_wp2
      refine bodyPost_ret (results_tct rfl _ _ (w.heap.size + 2) 25 #[.slice none 0 0, .int .i64 0, .int .i64 0, .string ⟨#[]⟩] (0, 0) _ rfl (blk_set (blk_set (blk_set (blk_set HM.out.q 0 _) 1 _) 2 _) 3 _) Try.underlying25 rfl (by kernel_rfl)) rfl ?_
      rw [HS.out]
      exact ⟨_, rfl, Kd.R_nil _ _ _ _ _, (chg_four _ _ _ _ _ _).below (S := fun k => k = w.heap.size + 2) (B := w.heap.size) (by have := HM.out.bel.size; omega) (fun k hk => by omega) |> fun h => HM.out.bel.trans h⟩
    · have hx2' : (x.f2 == 0) = false := beq_eq_false_iff_ne.2 hx2
      have hwx : IntKind.i64.wrap (x.f2 - 1) = x.f2 - 1 := IntWalk.i64_in _ (by omega)
      by_cases h3 : k2 = 3
      · subst h3
        obtain ⟨fin, hfin⟩ : ∃ fin, fin = (match t with | [] => [] | y :: r => ⟨y.f0, y.f1, min y.f2 (x.f2 - 1)⟩ :: r : List S118) := ⟨_, rfl⟩
        obtain ⟨tt, htt⟩ : ∃ tt, tt = (match t with | [] => min ttl (x.f2 - 1) | _ :: _ => ttl : Int) := ⟨_, rfl⟩
        have HS : Aside0 (stepP L T ⟨x :: t, tun, ttl, pay⟩ = (k1, ⟨fin, tun, tt, pay⟩, 0)) := ⟨by
          rw [hfin, htt]
          cases t with
          | nil => exact step_f3n (T := T) HV.out hlk hx2 rfl
          | cons y r => exact step_f3c (T := T) HV.out hlk hx2 rfl⟩
        have HFL : Aside0 (fin.length = t.length) := ⟨by rw [hfin]; cases t <;> rfl⟩
        have HF1 : Aside0 (1 ≤ t.length → r118 fin 0 = ⟨(r118 (x :: t) 1).f0, (r118 (x :: t) 1).f1, min (r118 (x :: t) 1).f2 (x.f2 - 1)⟩) := ⟨fun h => by
          rw [hfin]
          cases t with
          | nil => simp at h
          | cons y r => rfl⟩
        have HFI : Aside0 (∀ i, 2 ≤ i → r118 (x :: t) i = r118 fin (i - 1)) := ⟨fun i hi => by
          obtain ⟨j, rfl⟩ : ∃ j, i = j + 2 := ⟨i - 2, by omega⟩
          rw [hfin]
          cases t <;> rfl⟩
        have HTT1 : Aside0 (t.length = 0 → tt = min ttl (x.f2 - 1)) := ⟨fun h => by
          rw [htt]
          cases t with
          | nil => rfl
          | cons y r => simp at h⟩
        have HTT2 : Aside0 (t.length ≠ 0 → tt = ttl) := ⟨fun h => by
          rw [htt]
          cases t with
          | nil => simp at h
          | cons y r => rfl⟩
        clear hfin htt hlk fl2
        have hl0b : ((t.length : Int) + 1 == 0) = false := beq_eq_false_iff_ne.2 hl0
        simp only [Option.isSome_some, hl0b]
        clear hl0b
        go_wp2_with fail
        clear p0 p1 p2 p3 p4 p5 p6 p7 q0 q1 q2 q3 q4 q5 q6 q7 e0 e1 e2 m0 m1 m2
        go_loopw [10, 11] (fun v10 v11 wr => ∃ i : Nat, 1 ≤ i ∧ i ≤ t.length + 1 ∧ v11 = .int .i64 i ∧ Aside0 (Kd.R k118 118 wr w4.heap.size (fun _ => True) v10 (fin.take (i - 1))) ∧ Aside0 (Below w4.heap.size w4 wr)) (fun _ v11 _ => t.length + 1 - (intOf v11).toNat)
        case atStart => exact ⟨1, Nat.le_refl _, by omega, rfl, ⟨Kd.R_nil _ _ _ _ _⟩, ⟨Below.refl _ _⟩⟩
        case round =>
          obtain ⟨i, hi1, hi2, rfl, HR, HBr⟩ := hrel
          have HMr := Aside0.mk (HM.out.below HBr.out)
          have lsr : w4.heap.size ≤ wr.heap.size := HBr.out.size
          obtain ⟨⟨p0, p1, p2, p3, p4, p5, p6, p7⟩, ⟨q0, q1, q2, q3, q4, q5, q6, q7⟩, ⟨e0, e1, e2⟩, ⟨m0, m1, m2⟩⟩ := HMr.out.all
          by_cases hlt : i < t.length + 1
          · have hlt' : (i : Int) < (t.length : Int) + 1 := by omega
            have hwi : IntKind.i64.wrap ((i : Int) + 1) = (i : Int) + 1 := IntWalk.i64_in _ (by omega)
            obtain ⟨_, e, x0, x1, x2⟩ := at118 HPA4.out.st HBr.out i (by simp; omega)
            cases e
            have HLT : Aside0 ((fin.take (i - 1)).length = i - 1) := ⟨by rw [List.length_take, HFL.out]; omega⟩
            by_cases hi : i = 1
            · subst hi
              have HTS := Aside0.mk (take_snoc fin 0 (by rw [HFL.out]; omega))
              have HEL := Aside0.mk (HF1.out (by omega))
              simp [Addr.add] at x0 x1 x2
              have z2 : ∀ o, (wr.alloc o).cell? ⟨w3.heap.size, 2, none⟩ = some (.int .i64 3) := fun o => Lib.cell?_alloc_some _ m2
              have ez2 : ∀ o, (wr.alloc o).cell? ⟨w1.heap.size, 2, none⟩ = some (.int .i64 x.f2) := fun o => Lib.cell?_alloc_some _ e2
              obtain ⟨el0, hel0⟩ : ∃ el0, el0 = r118 (x :: t) 1 := ⟨_, rfl⟩
              rw [← hel0] at x0 x1 x2 HEL
              clear hel0
              go_wp2_with (first | ((with_reducible refine gate_builtin (b := .append) (xs := #[.tmp 86, .tmp 88]) rfl ?_); at_builtin; refine Kd.R_append k118 (w0 := w4) w4.heap.size rfl (.tmp 86) (.tmp 88) 23 118 (.agg #[(.int .i64 0), (.int .i64 0), (.int .i64 0)]) 24 rfl Try.underlying23 info118 rfl (by decide) (by omega) u10 (fin.take (1 - 1)) (⟨el0.f0, el0.f1, min el0.f2 (x.f2 - 1)⟩ : S118) [.int .i64 el0.f0, .int .i64 el0.f1, .int .i64 (min el0.f2 (x.f2 - 1))] (fun _ => True) (fun _ => False) rfl (by simp [Act.eval]) (k118_mkM _ _ _ (⟨el0.f0, el0.f1, min el0.f2 (x.f2 - 1)⟩ : S118)) (fun _ hk => hk.elim) (fun _ _ => trivial) (Kd.R_below HR.out ((Below.refl _ _).alloc (Nat.le_refl _) _)) (HBr.out.alloc HBr.out.size _) (Nat.le_trans HBr.out.size (by simp)) (by rw [HLT.out]; omega) ?_; intro v6 w6 ho hb6 hg6 hat6; rw [← HEL.out] at ho; rw [← HTS.out] at ho; have HO6 := Aside0.mk ho; have HB6 := Aside0.mk hb6; clear ho hb6 hg6 hat6))
              go_roundw
              case rel => exact ⟨2, by omega, by omega, rfl, HO6, HB6⟩
              case measure => simp [intOf]; omega
            · have hi' : ¬ ((i : Int) = 1) := by omega
              have hel := HFI.out i (by omega)
              rw [hel] at x0 x1 x2
              have hi1' : i - 1 + 1 = i := by omega
              have HTS := Aside0.mk (take_snoc fin (i - 1) (by rw [HFL.out]; omega))
              rw [hi1'] at HTS
              go_wp2_with (first | ((with_reducible refine gate_builtin (b := .append) (xs := #[.tmp 86, .tmp 88]) rfl ?_); at_builtin; refine Kd.R_append k118 (w0 := w4) w4.heap.size rfl (.tmp 86) (.tmp 88) 23 118 (.agg #[(.int .i64 0), (.int .i64 0), (.int .i64 0)]) 24 rfl Try.underlying23 info118 rfl (by decide) (by omega) u10 (fin.take (i - 1)) (r118 fin (i - 1)) [.int .i64 (r118 fin (i - 1)).f0, .int .i64 (r118 fin (i - 1)).f1, .int .i64 (r118 fin (i - 1)).f2] (fun _ => True) (fun _ => False) rfl (by simp [Act.eval]) (k118_mkM _ _ _ (r118 fin (i - 1))) (fun _ hk => hk.elim) (fun _ _ => trivial) (Kd.R_below HR.out ((Below.refl _ _).alloc (Nat.le_refl _) _)) (HBr.out.alloc HBr.out.size _) (Nat.le_trans HBr.out.size (by simp)) (by rw [HLT.out]; omega) ?_; intro v6 w6 ho hb6 hg6 hat6; rw [← HTS.out] at ho; have HO6 := Aside0.mk ho; have HB6 := Aside0.mk hb6; clear ho hb6 hg6 hat6))
              go_roundw
              case rel => exact ⟨i + 1, by omega, by omega, rfl, HO6, HB6⟩
              case measure => simp [intOf]; omega
          · have hie : i = t.length + 1 := by omega
            subst hie
            have hR := HR.out
            rw [Nat.add_sub_cancel, ← HFL.out, List.take_length] at hR
            obtain ⟨Af, cf, hue, hcf, _⟩ := Kd.R_reads hR
            rw [HFL.out] at hue
            subst hue
            have HRF := Aside0.mk hR
            clear hR hcf
            by_cases ht0 : t.length = 0
            · have htz : ((t.length : Int) + 1 == 1) = true := by rw [ht0]; rfl
              rw [ht0] at HRF
              go_upto_region 24 with fail
              obtain ⟨wz, hwz⟩ : ∃ wz, wz = (wr.setCell ⟨w.heap.size + 1, 2, none⟩ (.int .i64 (min ttl (x.f2 - 1)))).setCell ⟨w.heap.size + 1, 0, none⟩ (.slice Af 0 cf) := ⟨_, rfl⟩
              rw [← hwz]
              have hcz : Chg (fun k => k = w.heap.size + 1) wr wz := by rw [hwz]; exact (Chg.one wr (w.heap.size + 1) 2 _).put (w.heap.size + 1) 0 (.inl rfl) _
              have HRZ := Aside0.mk (R_chg HRF.out hcz (b' := w4.heap.size) (fun k h1 _ e => by omega) (Nat.le_refl _))
              have HMZ : Aside0 (MemS w wz w1.heap.size w3.heap.size (.slice Af 0 cf) (.int .i64 tun) (.int .i64 (min ttl (x.f2 - 1))) (.string pay) (.int .i64 x.f0) (.int .i64 x.f1) (.int .i64 x.f2) (.int .i64 k0) (.int .i64 k1) (.int .i64 3)) :=
                ⟨⟨HMr.out.bel.trans (hcz.below (by omega) (fun k hk => by omega)), by rw [hwz]; exact blk_set (blk_set HMr.out.p 2 _) 0 _, blk_kept hcz HMr.out.q (by omega), blk_kept hcz HMr.out.e (by omega), blk_kept hcz HMr.out.m (by omega)⟩⟩
              clear hwz hcz p0 p1 p2 p3 p4 p5 p6 p7 q0 q1 q2 q3 q4 q5 q6 q7 e0 e1 e2 m0 m1 m2
              obtain ⟨⟨p0, p1, p2, p3, p4, p5, p6, p7⟩, ⟨q0, q1, q2, q3, q4, q5, q6, q7⟩, _, ⟨m0, m1, m2⟩⟩ := HMZ.out.all
              go_region
              all_goals go_wp2
              refine bodyPost_ret (results_tct rfl _ _ (w.heap.size + 2) 25 #[.slice Af 0 cf, .int .i64 tun, .int .i64 (min ttl (x.f2 - 1)), .string pay] (0, 0) _ rfl (blk_set (blk_set (blk_set (blk_set HMZ.out.q 0 _) 1 _) 2 _) 3 _) Try.underlying25 rfl (by kernel_rfl)) rfl ?_
              rw [HS.out, HTT1.out ht0]
              exact ⟨_, rfl, R_chg HRZ.out (chg_four wz (w.heap.size + 2) _ _ _ _).drew (fun k h1 h2 e => by omega) (by omega), HMZ.out.bel.trans ((chg_four wz (w.heap.size + 2) _ _ _ _).drew.below (by have := HMZ.out.bel.size; omega) (fun k hk => by omega))⟩
            · have htz : ((t.length : Int) + 1 == 1) = false := beq_eq_false_iff_ne.2 (by omega)
              go_upto_region 24 with fail
              obtain ⟨wz, hwz⟩ : ∃ wz, wz = wr.setCell ⟨w.heap.size + 1, 0, none⟩ (.slice Af t.length cf) := ⟨_, rfl⟩
              rw [← hwz]
              have hcz : Chg (fun k => k = w.heap.size + 1) wr wz := by rw [hwz]; exact Chg.one wr _ 0 _
              have HRZ := Aside0.mk (R_chg HRF.out hcz (b' := w4.heap.size) (fun k h1 _ e => by omega) (Nat.le_refl _))
              have HMZ : Aside0 (MemS w wz w1.heap.size w3.heap.size (.slice Af t.length cf) (.int .i64 tun) (.int .i64 ttl) (.string pay) (.int .i64 x.f0) (.int .i64 x.f1) (.int .i64 x.f2) (.int .i64 k0) (.int .i64 k1) (.int .i64 3)) :=
                ⟨⟨HMr.out.bel.trans (hcz.below (by omega) (fun k hk => by omega)), by rw [hwz]; exact blk_set HMr.out.p 0 _, blk_kept hcz HMr.out.q (by omega), blk_kept hcz HMr.out.e (by omega), blk_kept hcz HMr.out.m (by omega)⟩⟩
              clear hwz hcz p0 p1 p2 p3 p4 p5 p6 p7 q0 q1 q2 q3 q4 q5 q6 q7 e0 e1 e2 m0 m1 m2
              obtain ⟨⟨p0, p1, p2, p3, p4, p5, p6, p7⟩, ⟨q0, q1, q2, q3, q4, q5, q6, q7⟩, _, ⟨m0, m1, m2⟩⟩ := HMZ.out.all
              go_region
              all_goals go_wp2
              refine bodyPost_ret (results_tct rfl _ _ (w.heap.size + 2) 25 #[.slice Af t.length cf, .int .i64 tun, .int .i64 ttl, .string pay] (0, 0) _ rfl (blk_set (blk_set (blk_set (blk_set HMZ.out.q 0 _) 1 _) 2 _) 3 _) Try.underlying25 rfl (by kernel_rfl)) rfl ?_
              rw [HS.out, HTT2.out ht0]
              exact ⟨_, rfl, R_chg HRZ.out (chg_four wz (w.heap.size + 2) _ _ _ _).drew (fun k h1 h2 e => by omega) (by omega), HMZ.out.bel.trans ((chg_four wz (w.heap.size + 2) _ _ _ _).drew.below (by have := HMZ.out.bel.size; omega) (fun k hk => by omega))⟩
      · have HS := Aside0.mk (step_f0 (T := T) HV.out hlk hx2 h3)
        simp only at HS
        have h3' : (k2 == 3) = false := beq_eq_false_iff_ne.2 h3
        have h3'' : (k2 != 3) = true := bne_iff_ne.2 h3
        clear hlk fl2
        obtain ⟨fin, hfin⟩ : ∃ fin, fin = (⟨k2, x.f1, x.f2 - 1⟩ :: t : List S118) := ⟨_, rfl⟩
        have HFL : Aside0 (fin.length = t.length + 1) := ⟨by rw [hfin]; rfl⟩
        have HF0 : Aside0 (fin.take 1 = [⟨k2, x.f1, x.f2 - 1⟩]) := ⟨by rw [hfin]; rfl⟩
        have HFI : Aside0 (∀ i, 1 ≤ i → r118 (x :: t) i = r118 fin i) := ⟨fun i hi => by rw [hfin]; exact r118_tail _ _ _ _ hi⟩
        rw [← hfin] at HS
        clear hfin
        go_wp2_with (first | ((with_reducible refine gate_builtin (b := .append) (xs := #[.tmp 49, .tmp 58]) rfl ?_); at_builtin; refine Kd.R_append k118 (w0 := w4) w4.heap.size rfl (.tmp 49) (.tmp 58) 23 118 (.agg #[(.int .i64 0), (.int .i64 0), (.int .i64 0)]) 24 rfl Try.underlying23 info118 rfl (by decide) (by omega) (.slice none 0 0) [] (⟨k2, x.f1, x.f2 - 1⟩ : S118) [.int .i64 k2, .int .i64 x.f1, .int .i64 (x.f2 - 1)] (fun _ => True) (fun _ => False) rfl rfl (k118_mkM _ _ _ (⟨k2, x.f1, x.f2 - 1⟩ : S118)) (fun _ hk => hk.elim) (fun _ _ => trivial) (Kd.R_nil _ _ _ _ _) (Below.refl _ _) (Nat.le_refl _) (by decide) ?_; intro v5 w5 ho hb5 hg5 hat5; have HO5 := Aside0.mk ho; have HB5 := Aside0.mk hb5; clear ho hb5 hg5 hat5))
        have HM5 := Aside0.mk (HM.out.below HB5.out)
        have HPA5 := Aside0.mk (HPA4.out.below HB5.out)
        have ls5 : w4.heap.size ≤ w5.heap.size := HB5.out.size
        have HO5' : Aside0 (Kd.R k118 118 w5 w4.heap.size (fun _ => True) v5 (fin.take 1)) := ⟨by rw [HF0.out]; exact HO5.out⟩
        clear p0 p1 p2 p3 p4 p5 p6 p7 q0 q1 q2 q3 q4 q5 q6 q7 e0 e1 e2 m0 m1 m2 HO5 HF0
        go_loopw [10, 11] (fun v10 v11 wr => ∃ i : Nat, 1 ≤ i ∧ i ≤ t.length + 1 ∧ v11 = .int .i64 i ∧ Aside0 (Kd.R k118 118 wr w4.heap.size (fun _ => True) v10 (fin.take i)) ∧ Aside0 (Below w4.heap.size w4 wr)) (fun _ v11 _ => t.length + 1 - (intOf v11).toNat)
        case atStart => exact ⟨1, Nat.le_refl _, by omega, rfl, HO5', HB5⟩
        case round =>
          obtain ⟨i, hi1, hi2, rfl, HR, HBr⟩ := hrel
          have HMr := Aside0.mk (HM.out.below HBr.out)
          have lsr : w4.heap.size ≤ wr.heap.size := HBr.out.size
          obtain ⟨⟨p0, p1, p2, p3, p4, p5, p6, p7⟩, ⟨q0, q1, q2, q3, q4, q5, q6, q7⟩, ⟨e0, e1, e2⟩, ⟨m0, m1, m2⟩⟩ := HMr.out.all
          by_cases hlt : i < t.length + 1
          · have hlt' : (i : Int) < (t.length : Int) + 1 := by omega
            have hwi : IntKind.i64.wrap ((i : Int) + 1) = (i : Int) + 1 := IntWalk.i64_in _ (by omega)
            obtain ⟨_, e, x0, x1, x2⟩ := at118 HPA4.out.st HBr.out i (by simp; omega)
            cases e
            have hel := HFI.out i hi1
            rw [hel] at x0 x1 x2
            have HTS := Aside0.mk (take_snoc fin i (by rw [HFL.out]; omega))
            have HLT : Aside0 ((fin.take i).length = i) := ⟨by rw [List.length_take, HFL.out]; omega⟩
            by_cases hi : i = 1
            · subst hi
              simp [Addr.add] at x0 x1 x2
              have z2 : ∀ o, (wr.alloc o).cell? ⟨w3.heap.size, 2, none⟩ = some (.int .i64 k2) := fun o => Lib.cell?_alloc_some _ m2
              go_wp2_with (first | ((with_reducible refine gate_builtin (b := .append) (xs := #[.tmp 86, .tmp 88]) rfl ?_); at_builtin; refine Kd.R_append k118 (w0 := w4) w4.heap.size rfl (.tmp 86) (.tmp 88) 23 118 (.agg #[(.int .i64 0), (.int .i64 0), (.int .i64 0)]) 24 rfl Try.underlying23 info118 rfl (by decide) (by omega) u10 (fin.take 1) (r118 fin 1) [.int .i64 (r118 fin 1).f0, .int .i64 (r118 fin 1).f1, .int .i64 (r118 fin 1).f2] (fun _ => True) (fun _ => False) rfl (by simp [Act.eval]) (k118_mkM _ _ _ (r118 fin 1)) (fun _ hk => hk.elim) (fun _ _ => trivial) (Kd.R_below HR.out ((Below.refl _ _).alloc (Nat.le_refl _) _)) (HBr.out.alloc HBr.out.size _) (Nat.le_trans HBr.out.size (by simp)) (by rw [HLT.out]; omega) ?_; intro v6 w6 ho hb6 hg6 hat6; rw [← HTS.out] at ho; have HO6 := Aside0.mk ho; have HB6 := Aside0.mk hb6; clear ho hb6 hg6 hat6))
              go_roundw
              case rel => exact ⟨2, by omega, by omega, rfl, HO6, HB6⟩
              case measure => simp [intOf]; omega
            · have hi' : ¬ ((i : Int) = 1) := by omega
              go_wp2_with (first | ((with_reducible refine gate_builtin (b := .append) (xs := #[.tmp 86, .tmp 88]) rfl ?_); at_builtin; refine Kd.R_append k118 (w0 := w4) w4.heap.size rfl (.tmp 86) (.tmp 88) 23 118 (.agg #[(.int .i64 0), (.int .i64 0), (.int .i64 0)]) 24 rfl Try.underlying23 info118 rfl (by decide) (by omega) u10 (fin.take i) (r118 fin i) [.int .i64 (r118 fin i).f0, .int .i64 (r118 fin i).f1, .int .i64 (r118 fin i).f2] (fun _ => True) (fun _ => False) rfl (by simp [Act.eval]) (k118_mkM _ _ _ (r118 fin i)) (fun _ hk => hk.elim) (fun _ _ => trivial) (Kd.R_below HR.out ((Below.refl _ _).alloc (Nat.le_refl _) _)) (HBr.out.alloc HBr.out.size _) (Nat.le_trans HBr.out.size (by simp)) (by rw [HLT.out]; omega) ?_; intro v6 w6 ho hb6 hg6 hat6; rw [← HTS.out] at ho; have HO6 := Aside0.mk ho; have HB6 := Aside0.mk hb6; clear ho hb6 hg6 hat6))
              go_roundw
              case rel => exact ⟨i + 1, by omega, by omega, rfl, HO6, HB6⟩
              case measure => simp [intOf]; omega
          · have hie : i = t.length + 1 := by omega
            subst hie
            have hR := HR.out
            rw [← HFL.out, List.take_length] at hR
            obtain ⟨Af, cf, hue, hcf, _⟩ := Kd.R_reads hR
            rw [HFL.out] at hue
            subst hue
            have HRF := Aside0.mk hR
            clear hR hcf
            go_upto_region 24 with fail
            obtain ⟨wz, hwz⟩ : ∃ wz, wz = wr.setCell ⟨w.heap.size + 1, 0, none⟩ (.slice Af (t.length + 1) cf) := ⟨_, rfl⟩
            rw [← hwz]
            have hcz : Chg (fun k => k = w.heap.size + 1) wr wz := by rw [hwz]; exact Chg.one wr _ 0 _
            have HRZ := Aside0.mk (R_chg HRF.out hcz (b' := w4.heap.size) (fun k h1 _ e => by omega) (Nat.le_refl _))
            have HMZ : Aside0 (MemS w wz w1.heap.size w3.heap.size (.slice Af (t.length + 1) cf) (.int .i64 tun) (.int .i64 ttl) (.string pay) (.int .i64 x.f0) (.int .i64 x.f1) (.int .i64 x.f2) (.int .i64 k0) (.int .i64 k1) (.int .i64 k2)) :=
              ⟨⟨HMr.out.bel.trans (hcz.below (by omega) (fun k hk => by omega)), by rw [hwz]; exact blk_set HMr.out.p 0 _, blk_kept hcz HMr.out.q (by omega), blk_kept hcz HMr.out.e (by omega), blk_kept hcz HMr.out.m (by omega)⟩⟩
            clear hwz hcz p0 p1 p2 p3 p4 p5 p6 p7 q0 q1 q2 q3 q4 q5 q6 q7 e0 e1 e2 m0 m1 m2
            obtain ⟨⟨p0, p1, p2, p3, p4, p5, p6, p7⟩, ⟨q0, q1, q2, q3, q4, q5, q6, q7⟩, _, ⟨m0, m1, m2⟩⟩ := HMZ.out.all
            go_region
            all_goals go_wp2
            refine bodyPost_ret (results_tct rfl _ _ (w.heap.size + 2) 25 #[.slice Af (t.length + 1) cf, .int .i64 tun, .int .i64 ttl, .string pay] (0, 0) _ rfl (blk_set (blk_set (blk_set (blk_set HMZ.out.q 0 _) 1 _) 2 _) 3 _) Try.underlying25 rfl (by kernel_rfl)) rfl ?_
            rw [HS.out]
            exact ⟨_, rfl, R_chg HRZ.out (chg_four wz (w.heap.size + 2) _ _ _ _).drew (fun k h1 h2 e => by omega) (by omega), HMZ.out.bel.trans ((chg_four wz (w.heap.size + 2) _ _ _ _).drew.below (by have := HMZ.out.bel.size; omega) (fun k hk => by omega))⟩

/-- The document's step. -/
theorem rstep_any (B1 B2 : Option Addr) (d1 d2 : Nat) (L T : List S95) (most : Int) (A : Option Addr) (c : Nat) (p : Pkt) (w : World)
    (h1 : Kd.C k144 w B1 L.length (L.map toR)) (c1 : L.length ≤ d1) (hL : L.length ≤ 64) (h2 : Kd.C k144 w B2 T.length (T.map toR)) (c2 : T.length ≤ d2) (hT : T.length ≤ 64) (hp : PktAt w A c p) (hpl : p.st.length ≤ 100) :
    Calls Try.prog 54 #[.agg #[.slice B1 L.length d1, .slice B2 T.length d2, .int .i64 most], .agg #[.slice A p.st.length c, .int .i64 p.tun, .int .i64 p.ttl, .string p.pay]] w (RStep (stepP L T p) w) := by
  by_cases hv : validP p = true
  · obtain ⟨st, tun, ttl, pay⟩ := p
    cases st with
    | nil => exact rstep_nofull B1 B2 d1 d2 L T most A c _ w h1 c1 h2 c2 hT hp hpl (.inr rfl)
    | cons x t => exact rstep_full B1 B2 d1 d2 L T most A c x t tun ttl pay w h1 c1 hL hp hv
  · exact rstep_nofull B1 B2 d1 d2 L T most A c p w h1 c1 h2 c2 hT hp hpl (.inl (by simpa using hv))
end Go.Proofs.Ytmnpmjphhkiedaa.LF
