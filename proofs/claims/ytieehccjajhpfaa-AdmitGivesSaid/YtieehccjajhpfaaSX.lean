/-
  What the law does.
-/
import Derived.Test.YtieehccjajhpfaaCAL
import Derived.Test.YtieehccjajhpfaaS4
set_option linter.unusedSimpArgs false
set_option linter.unusedVariables false
/- The law AdmitGives. -/
namespace Go.Proofs.Ytieehccjajhpfaa.AC
open Go Go.AI Go.Proofs Go.Proofs.Ytieehccjajhpfaa.AQ
set_option linter.unusedVariables false
set_option linter.unusedSimpArgs false
theorem doesP_else {size : Nat} {l : List En} {x : At} (h : (doesP size l x).2.2 ≠ 0) : (doesP size l x).1 = l ∧ (doesP size l x).2.1 = [] := by
  unfold doesP at h ⊢
  by_cases hd : x.drop = true
  · rw [if_pos hd] at h ⊢
    unfold dropP at h ⊢
    by_cases hk : hasK l x.k = true
    · rw [if_pos hk] at h; exact absurd rfl h
    · rw [if_neg hk]; exact ⟨rfl, rfl⟩
  · rw [if_neg hd] at h ⊢
    exact admP_else h
theorem doesP_drop {size : Nat} {l : List En} {x : At} (hd : x.drop = true) : (doesP size l x).2.1 = [] := by unfold doesP; rw [if_pos hd]
theorem doesP_adm {size : Nat} {l : List En} {x : At} (hd : x.drop = false) : doesP size l x = admP size l x.k x.w := by unfold doesP; rw [if_neg (by rw [hd]; simp)]
theorem gives_gone {size : Nat} {l now : List En} {k : Key} {w : Wt} (hs : SrtE l) (hk : ¬ hasK l k = true) (ha : adm size k w.setup ⟨k, w⟩ l = some now) : ∀ g ∈ goneK l now, hasK l g = true ∧ hasK (insE now ⟨k, w⟩) g = false ∧ g.kin k = false ∧ ∃ u, lookE l g = some u ∧ w.setup < u.hold := by
  intro g hg
  unfold goneK at hg
  have hobt := List.mem_map.1 hg
  obtain ⟨y, hy, rfl⟩ := hobt
  have hobt := List.mem_filter.1 hy
  obtain ⟨hy1, hy2⟩ := hobt
  have hno : hasK now y.k = false := by simpa using hy2
  have hobt := adm_gone _ _ _ _ _ hs ha y hy1 hno
  obtain ⟨h1, h2⟩ := hobt
  refine ⟨(hasK_iff _ _).2 ⟨y, hy1, rfl⟩, ?_, h1, y.w, lookE_of hs hy1, h2⟩
  rw [insE_hasK, hno]
  have : k ≠ y.k := fun e => no_key hk y hy1 e.symm
  simp [this]
set_option maxHeartbeats 8000000 in
theorem admitGives_walk {A : AH} {m c : Nat} {a : Option Addr} {L : List At} (hm : m < 18446744073709551616) (hl : Sl A 35 12 a (L.map At.enc)) (ho : ActsOk L) : ACall Try.prog 6 [.int .u64 m, .slice a L.length c] A fun v A' => v = .bool true := by
  refine code6.call (by simp) fun hwf => ?_
  unfold c6
  simp
  refine CN.use (alive_ok A) ?_
  rintro _ A1 hw1 hn1 ⟨rfl, x1⟩
  simp
  refine CN.use (ps_new hm A1) ?_
  rintro _ A2 hw2 hn2 ⟨rfl, t2, x2⟩
  have x02 := x1.trans (by omega) x2
  simp
  have hobx : ∃ tb, tb = A1.next := ⟨_, rfl⟩
  obtain ⟨tb, htb⟩ := hobx
  rw [← htb] at t2
  have t2' := t2.now hw2
  refine LN.use (fun d E A' => ∃ (i : Nat) (lst : List En), d + i = L.length ∧ Ext A A' ∧ A.next ≤ A'.next ∧ PS A.next A'.next A' tb m lst ∧ E.get 0 = .int .u64 m ∧ E.get 1 = .slice a L.length c ∧ E.get 5 = .pointer (some ⟨tb, 0, none⟩) ∧ E.get 6 = .int .i64 i) L.length
    ⟨0, [], by omega, x02, by omega, t2'.wide (by omega) (Nat.le_refl _), by simp, by simp, by simp [htb], by simp⟩ ?_
  rintro d E A3 hw3 hn3 ⟨i, lst, hi, x3, n3, ps3, E0, E1, E5, E6⟩
  by_cases hlt : i < L.length
  rotate_left
  · have hlt' : ¬ (i : Int) < L.length := by omega
    simp [E1, E6, hlt, hlt']
    exact DN.of rfl
  have hlt' : (i : Int) < L.length := by omega
  by_cases h80 : i < 80
  rotate_left
  · have h80' : ¬ (i : Int) < 80 := by omega
    simp [E1, E6, hlt, hlt', h80, h80']
    exact DN.of rfl
  have h80' : (i : Int) < 80 := by omega
  have hgi : IntKind.i64.wrap ((i : Int) + 1) = ((i + 1 : Nat) : Int) := by rw [i64_in (by omega) (by omega)]; simp
  have hobt := at_of hl hlt hwf x3
  obtain ⟨b, o, cs, q, x, hx, rfl, g1, g2, g3⟩ := hobt
  have hxo : x.w.bw < 18446744073709551616 := by rw [hx]; exact ho _ (List.getElem_mem hlt)
  have hok := ps3.ok
  have hlen := hok.len
  have hobt := x.cells
  obtain ⟨c1, c2, c3, c4, c5, c6, c7⟩ := hobt
  have c8 : x.enc[0]'(by omega) = .bool x.drop := rfl
  have c9 : x.enc[7]'(by omega) = .int .i64 x.w.setup := rfl
  have hobx : ∃ A4, A4 = A3.alloc (.row x.enc 35 false) := ⟨_, rfl⟩
  obtain ⟨A4, hA4⟩ := hobx
  have w4 : A4.wf := by rw [hA4]; exact AH.wf_alloc hw3 _
  have n4 : A4.next = A3.next + 1 := by rw [hA4]; rfl
  have x34 : Ext A3 A4 := by rw [hA4]; exact Ext.alloc A3 _
  have r4 : A4.get A3.next = some (.row x.enc 35 false) := by rw [hA4, AH.get_new]
  simp [E0, E1, E5, E6, hlt, hlt', h80, h80', g1, g2, g3, c1, c5, ← hA4]
  refine ⟨c2, ?_⟩
  refine CN.use (ps_entries (ps3.ext hw3 x34)) ?_
  rintro _ A5 hw5 hn5 ⟨x5, ea, ec, rfl, es5, hea⟩
  have r5 := x5.get w4 r4
  have x35 := x34.trans (by omega) x5
  simp [E5, r5, c1, c5]
  refine CN.use (psk_does (ps3.ext hw3 x35).psk x hxo) ?_
  rintro _ A6 hw6 hn6 ⟨ps6, sn6, ga, gc, rfl, gs6, hga⟩
  have hok6 := ps6.ok
  have hlen6 := hok6.len
  have r6 : A6.get A3.next = some (.row x.enc 35 false) := by rw [sn6 _ (by omega) (Or.inl (by omega)), r5]
  have es6 : Sl A6 63 10 ea (lst.map En.enc) := es5.kept fun b o x e hb => sn6 b (hw5 _ _ hb) (Or.inl (by have := hea b o e; omega))
  have x06 : Ext A A6 := fun b hb => by rw [sn6 b (by omega) (Or.inl (by omega)), x35 b (by omega), x3 b hb]
  have hobx : ∃ r, r = doesP m lst x := ⟨_, rfl⟩
  obtain ⟨r, hr⟩ := hobx
  rw [← hr] at ps6 hok6 hlen6 gs6
  simp only [← hr]
  simp [E5]
  refine CN.use (psk_entries ps6) ?_
  rintro _ A7 hw7 hn7 ⟨x7, na, nc, rfl, ns7, hna⟩
  have r7 := x7.get hw6 r6
  have es7 := es6.ext hw6 x7
  have gs7 := gs6.ext hw6 x7
  have ps7 := ps6.ext hw6 x7
  have x07 := x06.trans (by omega) x7
  have fin : ∀ B : AH, B.wf → Ext A7 B → A7.next ≤ B.next → (Ext A B ∧ A.next ≤ B.next ∧ PS A.next B.next B tb m r.1) := fun B hB hx hn =>
    ⟨x07.trans (by omega) hx, by omega, (ps7.ext hw7 hx).ps hB fun b hb => by rcases hb with hb | hb <;> omega⟩
  by_cases he : r.2.2 = 0
  rotate_left
  · have hel := doesP_else (size := m) (l := lst) (x := x) (by rw [← hr]; exact he)
    rw [← hr] at hel
    obtain ⟨e1, e2⟩ := hel
    simp [he, e2]
    refine CN.use (ours_ok es7 (by omega)) ?_
    rintro v2 B2 hu2 hk2 ⟨y2, rd2⟩
    simp
    refine CN.use (ours_ok (ns7.ext hw7 y2) (by omega)) ?_
    rintro v3 B3 hu3 hk3 ⟨y3, rd3⟩
    rw [e1] at rd3
    simp
    refine CN.use (same_ok (rd2.ext hu2 y3) rd3 (by omega)) ?_
    rintro _ B4 hu4 hk4 ⟨rfl, rfl⟩
    have y23 := y2.trans (by omega) y3
    have r8 := y23.get hw7 r7
    have hfin := fin _ hu4 y23 (by omega)
    obtain ⟨f1, f2, f3⟩ := hfin
    simp
    refine LN.use (fun d' E A' => A' = B4 ∧ E.get 0 = .int .u64 m ∧ E.get 1 = .slice (some ⟨b, o, none⟩) L.length c ∧ E.get 5 = .pointer (some ⟨tb, 0, none⟩) ∧ E.get 6 = .int .i64 i ∧ E.get 7 = .pointer (some ⟨A3.next, 0, none⟩) ∧ E.get 10 = .int .i64 r.2.2 ∧ E.get 66 = .int .i64 0 ∧ E.get 67 = .int .i64 0) 0
      ⟨rfl, by simp [E0], by simp [E1], by simp [E5], by simp [E6], by simp, by simp, by simp [e2], by simp⟩ ?_
    clear E0 E1 E5 E6
    rintro d5 E _ hw9 hn9 ⟨rfl, E0, E1, E5, E6, E7, E10, E66, E67⟩
    have hbool := Bool.eq_false_or_eq_true x.drop
    rcases hbool with hd | hd
    · simp [E6, E7, E10, E66, E67, r8, c1, c8, hd, hgi]
      exact NX.of ⟨d - 1, by omega, i + 1, r.1, by omega, f1, f2, f3, by simp [E0], by simp [E1], by simp [E5], by simp⟩
    · simp [E6, E7, E10, E66, E67, r8, c1, c8, hd, he, hgi]
      exact NX.of ⟨d - 1, by omega, i + 1, r.1, by omega, f1, f2, f3, by simp [E0], by simp [E1], by simp [E5], by simp⟩
  have hbool := Bool.eq_false_or_eq_true x.drop
  rcases hbool with hd | hd
  · have e2 : r.2.1 = [] := by rw [hr]; exact doesP_drop hd
    have hfin := fin _ hw7 (Ext.refl _) (Nat.le_refl _)
    obtain ⟨f1, f2, f3⟩ := hfin
    simp [he, e2]
    refine LN.use (fun d' E A' => A' = A7 ∧ E.get 0 = .int .u64 m ∧ E.get 1 = .slice (some ⟨b, o, none⟩) L.length c ∧ E.get 5 = .pointer (some ⟨tb, 0, none⟩) ∧ E.get 6 = .int .i64 i ∧ E.get 7 = .pointer (some ⟨A3.next, 0, none⟩) ∧ E.get 66 = .int .i64 0 ∧ E.get 67 = .int .i64 0) 0
      ⟨rfl, by simp [E0], by simp [E1], by simp [E5], by simp [E6], by simp, by simp [e2], by simp⟩ ?_
    clear E0 E1 E5 E6
    rintro d5 E _ hw9 hn9 ⟨rfl, E0, E1, E5, E6, E7, E66, E67⟩
    simp [E6, E7, E66, E67, r7, c1, c8, hd, hgi]
    exact NX.of ⟨d - 1, by omega, i + 1, r.1, by omega, f1, f2, f3, by simp [E0], by simp [E1], by simp [E5], by simp⟩
  rw [doesP_adm hd] at hr
  have hz := admP_zero (size := m) (l := lst) (k := x.k) (w := x.w) (by rw [← hr]; exact he)
  obtain ⟨q1, q2, q3, now, q4, q5⟩ := hz
  rw [← hr] at q5
  have hsub := (adm_some _ _ _ q4).1
  have hgv := gives_gone hok.srt q2 q4
  have hglen := gone_len hok.srt hsub
  have hgo : r.2.1 = goneK lst now := by rw [q5]
  have hr1 : r.1 = insE now ⟨x.k, x.w⟩ := by rw [q5]
  have hr1l : r.1.length = now.length + 1 := by rw [hr1, insE_len]
  rw [hgo] at gs7
  rw [← hgo] at hglen
  rw [← hgo] at hgv
  rw [← hgo] at gs7
  have hgl1000 : r.2.1.length ≤ 64 := by omega
  simp [he]
  refine LN.use (fun d' E A' => ∃ j : Nat, d' + j = r.2.1.length ∧ Ext A7 A' ∧ A7.next ≤ A'.next ∧ E.get 0 = .int .u64 m ∧ E.get 1 = .slice (some ⟨b, o, none⟩) L.length c ∧ E.get 5 = .pointer (some ⟨tb, 0, none⟩) ∧ E.get 6 = .int .i64 i ∧ E.get 7 = .pointer (some ⟨A3.next, 0, none⟩) ∧ E.get 8 = .slice ea lst.length ec ∧ E.get 9 = .slice ga r.2.1.length gc ∧ E.get 10 = .int .i64 0 ∧ E.get 11 = .slice na r.1.length nc ∧ E.get 65 = .slice ga r.2.1.length gc ∧ E.get 66 = .int .i64 r.2.1.length ∧ E.get 67 = .int .i64 j) r.2.1.length
    ⟨0, by omega, Ext.refl _, Nat.le_refl _, by simp [E0], by simp [E1], by simp [E5], by simp [E6], by simp, by simp, by simp, by simp, by simp, by simp, by simp, by simp⟩ ?_
  clear E0 E1 E5 E6
  rintro d5 E A8 hw8 hn8 ⟨j, hj, x8, n8, E0, E1, E5, E6, E7, E8, E9, E10, E11, E65, E66, E67⟩
  have r8 := x8.get hw7 r7
  have es8 := es7.ext hw7 x8
  have ns8 := ns7.ext hw7 x8
  have gs8 := gs7.ext hw7 x8
  by_cases hjl : j < r.2.1.length
  · have hjl' : (j : Int) < r.2.1.length := by omega
    have hgj : IntKind.i64.wrap ((j : Int) + 1) = ((j + 1 : Nat) : Int) := by rw [i64_in (by omega) (by omega)]; simp
    have hobt := gs8.at (i := j) (by simpa using hjl)
    obtain ⟨b1, o1, cs1, qq, hga1, u1, u2, u3⟩ := hobt
    rw [List.getElem_map] at u3
    have hobx : ∃ g, g = r.2.1[j]'hjl := ⟨_, rfl⟩
    obtain ⟨g, hg⟩ := hobx
    rw [← hg] at u3
    have hgm : g ∈ r.2.1 := by rw [hg]; exact List.getElem_mem hjl
    have hgg := hgv g hgm
    obtain ⟨p1, p2, p3, fw, p4, p5⟩ := hgg
    have hobx : ∃ A9, A9 = A8.alloc (.row g.enc 23 false) := ⟨_, rfl⟩
    obtain ⟨A9, hA9⟩ := hobx
    have w9 : A9.wf := by rw [hA9]; exact AH.wf_alloc hw8 _
    have n9 : A9.next = A8.next + 1 := by rw [hA9]; rfl
    have x89 : Ext A8 A9 := by rw [hA9]; exact Ext.alloc A8 _
    have k9 : A9.get A8.next = some (.row g.enc 23 false) := by rw [hA9, AH.get_new]
    simp [E5, E6, E7, E8, E9, E11, E65, E66, E67, hjl, hjl', hga1, u1, u2, u3, ← hA9, k9]
    refine CN.use (lfind_ok (es8.ext hw8 x89) (by omega) g) ?_
    rintro _ B1 hu1 hk1 ⟨y1, rfl⟩
    have hfw : (lookE lst g).getD wantZ = fw := by rw [p4]; rfl
    have hwl : fw.enc.length = 6 := rfl
    have hwt : fw.enc.take 6 = fw.enc := rfl
    have hwo : ∀ v ∈ fw.enc, oneB v = true := List.all_eq_true.1 (rfl : fw.enc.all oneB = true)
    have hw2' : fw.enc[2]'(by rw [hwl]; omega) = .int .i64 fw.hold := rfl
    have hobx : ∃ B2, B2 = B1.alloc (.row fw.enc 33 false) := ⟨_, rfl⟩
    obtain ⟨B2, hB2⟩ := hobx
    have v2 : B2.wf := by rw [hB2]; exact AH.wf_alloc hu1 _
    have m2 : B2.next = B1.next + 1 := by rw [hB2]; rfl
    have y12 : Ext B1 B2 := by rw [hB2]; exact Ext.alloc B1 _
    have f2 : B2.get B1.next = some (.row fw.enc 33 false) := by rw [hB2, AH.get_new]
    have y92 := y1.trans (by omega) y12
    have k2 := y92.get w9 k9
    simp only [hfw]
    simp [p1, hwl, hwt, ← hB2, E11, k2]
    refine ⟨hwo, ?_⟩
    refine CN.use (lfind_ok (ns8.ext hw8 (x89.trans (by omega) y92)) (by omega) g) ?_
    rintro _ B3 hu3 hk3 ⟨y3, rfl⟩
    have hno : hasK r.1 g = false := by rw [hr1]; exact p2
    have k3 := y3.get v2 k2
    have f3 := y3.get v2 f2
    have r3 := y3.get v2 (y92.get w9 (x89.get hw8 r8))
    have hobx : ∃ fz : Wt, fz = (lookE r.1 g).getD wantZ := ⟨_, rfl⟩
    obtain ⟨fz, hfz⟩ := hobx
    have hzl : fz.enc.length = 6 := rfl
    have hzt : fz.enc.take 6 = fz.enc := rfl
    have hzo : ∀ v ∈ fz.enc, oneB v = true := List.all_eq_true.1 (rfl : fz.enc.all oneB = true)
    have hobx : ∃ B4, B4 = B3.alloc (.row fz.enc 33 false) := ⟨_, rfl⟩
    obtain ⟨B4, hB4⟩ := hobx
    have v4 : B4.wf := by rw [hB4]; exact AH.wf_alloc hu3 _
    have m4 : B4.next = B3.next + 1 := by rw [hB4]; rfl
    have y34 : Ext B3 B4 := by rw [hB4]; exact Ext.alloc B3 _
    have k4 := y34.get hu3 k3
    have f4 := y34.get hu3 f3
    have r4' := y34.get hu3 r3
    simp only [← hfz]
    simp [hno, hzl, hzt, ← hB4, E7, k4, r4', c1, c3]
    refine ⟨hzo, ?_⟩
    refine CN.use (rkin_ok g x.k B4) ?_
    rintro _ B5 hu5 hk5 ⟨rfl, y5⟩
    have f5 := y5.get v4 f4
    have r5' := y5.get v4 r4'
    have hle : ¬ fw.hold ≤ x.w.setup := by omega
    simp [p3, f5, hwl, hw2', E7, r5', c1, c9, hle, E67, hgj]
    exact NX.of ⟨d5 - 1, by omega, j + 1, by omega, x8.trans (by omega) (x89.trans (by omega) (y92.trans (by omega) (y3.trans (by omega) (y34.trans (by omega) y5)))), by omega, by simp [E0], by simp [E1], by simp [E5], by simp [E6], by simp [E7], by simp [E8], by simp [E9, hga1], by simp [E10], by simp [E11], by simp [E65, hga1], by simp [E66], by simp⟩
  · have hjl' : ¬ (j : Int) < r.2.1.length := by omega
    have hlw : IntKind.i64.wrap (IntKind.i64.wrap ((lst.length : Int) + 1) - r.2.1.length) = (r.1.length : Int) := by
      rw [i64_in (x := (lst.length : Int) + 1) (by omega) (by omega), i64_in (by omega) (by omega)]; omega
    have hobx : ∃ y : En, y = ⟨x.k, x.w⟩ := ⟨_, rfl⟩
    obtain ⟨y, hy⟩ := hobx
    have hz1 : (spl [Value.int .i64 0, .int .i64 0, .int .i64 0, .int .i64 0, .int .u64 0, .int .i64 0, .int .i64 0, .int .u32 0, .int .u32 0, .int .u32 0] 0 x.k.enc).length = 10 := rfl
    have hz2 : spl (spl [Value.int .i64 0, .int .i64 0, .int .i64 0, .int .i64 0, .int .u64 0, .int .i64 0, .int .i64 0, .int .u32 0, .int .u32 0, .int .u32 0] 0 x.k.enc) 4 x.w.enc = y.enc := by rw [hy]; rfl
    have hxwl : x.w.enc.length = 6 := rfl
    have hxwt : x.w.enc.take 6 = x.w.enc := rfl
    have hobt := y.cells
    obtain ⟨hyl, hyo, hy4, hy6, hyt⟩ := hobt
    have happ := own_all (y := 72) (c := ec) (Own.nil A8.next A8 63 10) (Nat.le_refl _) es8 (by omega) (by omega) (by simp; omega)
    obtain ⟨v9, A9, p1, p2, p3, p4⟩ := happ
    rw [List.length_map] at p1
    rw [List.nil_append] at p2
    have w9 : A9.wf := appW_wf p1 hw8
    have x89 : Ext A8 A9 := p4
    have r9 := x89.get hw8 r8
    have hpush := en_push (x := y) p2 w9 p3 (by omega)
    obtain ⟨v10, A10, s1, s2, s3, s4, s5⟩ := hpush
    have hobt := own_slm s2
    obtain ⟨ha10, hc10, hv10, hs10, -, -⟩ := hobt
    have x9A : Ext A8 A10 := fun b hb => by rw [s4 b hb, x89 b hb]
    simp [E6, E7, E8, E9, E10, E11, E66, E67, hjl', r8, c1, c8, hd, he, hlw, p1, r9, c3, c4, hz1, hz2, hxwl, hxwt, hyl, hyt, s1]
    have hsi := insE_srt hok.srt (x := y) (by rw [hy]; exact no_key q2)
    have hperm : (lst ++ [y]).Perm (insE lst y) := (List.perm_append_comm).trans (insE_perm lst y).symm
    have hhn : heldN (lst ++ [y]) = tot (grp (insE lst y)) := held_perm hsi hperm
    have hx10 := x8.trans (by omega) x9A
    have hfin := fin A10 s5 hx10 (by omega)
    obtain ⟨f1, f2, f3⟩ := hfin
    subst hv10
    refine CN.use (held_ok hs10 (by simp; omega) (fun z hz => ?_)) ?_
    · rcases List.mem_append.1 hz with hz | hz
      · exact (hok.ok z hz).2
      · rw [List.mem_singleton.1 hz, hy]; exact hxo
    rintro _ B1 hu1 hk1 ⟨y1, rfl⟩
    have hfin2 := fin B1 hu1 (hx10.trans (by omega) y1) (by omega)
    obtain ⟨k1, k2, k3⟩ := hfin2
    have hcond : (0 < r.2.1.length) = ¬ (heldN (lst ++ [y]) ≤ m) := by
      apply propext
      rw [hhn]
      constructor
      · intro h1 h2
        rw [hy] at h2
        have h3 := adm_fit (size := m) (l := lst) (k := x.k) (w := x.w) h2
        rw [q4] at h3; injection h3 with h3
        rw [hgo, h3, gone_self] at h1; simp at h1
      · intro h1
        rcases Nat.eq_zero_or_pos r.2.1.length with h2 | h2
        · exfalso
          have h3 : now = lst := gone_nil hok.srt hsub (by rw [← hgo]; exact List.eq_nil_of_length_eq_zero h2)
          have h4 := (adm_some _ _ _ q4).2
          rw [h3, ← hy] at h4
          exact h1 h4
        · exact h2
    by_cases h64 : heldN (lst ++ [y]) < 18446744073709551616
    · by_cases hle : heldN (lst ++ [y]) ≤ m
      · have hle' : ((heldN (lst ++ [y]) : Nat) : Int) ≤ (m : Nat) := by omega
        have hg0 : r.2.1.length = 0 := by
          rcases Nat.eq_zero_or_pos r.2.1.length with h2 | h2
          · exact h2
          · exact absurd hle (Eq.mp hcond h2)
        have hg0' : r.2.1 = [] := List.eq_nil_of_length_eq_zero hg0
        simp [h64, hle, hle', E0, E6, E9, hg0, hg0', hgi]
        exact NX.of ⟨d - 1, by omega, i + 1, r.1, by omega, k1, k2, k3, by simp [E0], by simp [E1], by simp [E5], by simp⟩
      · have hle' : ¬ ((heldN (lst ++ [y]) : Nat) : Int) ≤ (m : Nat) := by omega
        have hg0 : 0 < r.2.1.length := by rw [hcond]; exact hle
        have hg0' : (0 : Int) < r.2.1.length := by omega
        simp [h64, hle, hle', E0, E6, E9, hg0, hg0', hgi]
        exact NX.of ⟨d - 1, by omega, i + 1, r.1, by omega, k1, k2, k3, by simp [E0], by simp [E1], by simp [E5], by simp⟩
    · have hle : ¬ heldN (lst ++ [y]) ≤ m := by omega
      have hg0 : 0 < r.2.1.length := by rw [hcond]; exact hle
      have hg0' : (0 : Int) < r.2.1.length := by omega
      simp [h64, E0, E6, E9, hg0, hg0', hgi]
      exact NX.of ⟨d - 1, by omega, i + 1, r.1, by omega, k1, k2, k3, by simp [E0], by simp [E1], by simp [E5], by simp⟩
end Go.Proofs.Ytieehccjajhpfaa.AC
