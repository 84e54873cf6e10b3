/-
  What the law does.
-/
import Derived.Test.YtieehccjajhpfaaCAL
import Derived.Test.YtieehccjajhpfaaS4
set_option linter.unusedSimpArgs false
set_option linter.unusedVariables false
/- The law AdmitRefused. -/
namespace Go.Proofs.Ytieehccjajhpfaa.AC
open Go Go.AI Go.Proofs Go.Proofs.Ytieehccjajhpfaa.AQ
set_option linter.unusedVariables false
set_option linter.unusedSimpArgs false
def stayP (l : List En) (k : Key) (s : Int) (y : En) : Bool := y.k.kin k || decide (holdG (l.filter fun z => y.k.kin z.k) ≤ s)
theorem part_of {m f : List En} (hs : SrtE m) (hf : f ∈ grp m) {y : En} (hy : y.k.kin (gkey f) = true) : (m.filter fun z => y.k.kin z.k) = f := by
  refine Eq.trans (List.filter_congr fun z hz => ?_) (GG.part hs hf)
  rw [kin_comm y.k z.k, kin_cong' hy]
theorem refused : ∀ (n : Nat) (m : List En) (size : Nat) (s : Int) (x : En), SrtE m → m.length < n → admL size x.k s x n m = none → size < tot (grp (insE (m.filter (stayP m x.k s)) x)) := by
  intro n
  induction n with
  | zero => intro m size s x _ h; omega
  | succ n ih =>
    intro m size s x hs hn h
    simp only [admL] at h
    split at h
    · cases h
    · rename_i hf
      split at h
      · rename_i hb
        have hc : (grp m).filter (candB x.k s) = [] := by
          rcases bst_spec ((grp m).filter (candB x.k s)) with ⟨h1, _⟩ | ⟨c, h1, _⟩
          · exact h1
          · rw [hb] at h1; cases h1
        have : m.filter (stayP m x.k s) = m := List.filter_eq_self.2 fun y hy => by
          rw [← grp_flat m] at hy
          have hobt := List.mem_flatten.1 hy
          obtain ⟨g, hg, hyg⟩ := hobt
          have hk := (grp_gg hs).kin g hg y hyg
          rw [kin_comm] at hk
          have h1 := part_of hs hg hk
          have h2 := List.filter_eq_nil_iff.1 hc g hg
          unfold stayP
          rw [h1, kin_cong hk]
          cases h3 : (gkey g).kin x.k with
          | true => rfl
          | false =>
            simp [candB, h3] at h2
            simp [h2]
        rw [this]; omega
      · rename_i f hb
        have hobt := List.mem_filter.1 (bst_mem hb)
        obtain ⟨hf1, hf2⟩ := hobt
        simp only [candB, Bool.and_eq_true, decide_eq_true_iff] at hf2
        have h1 := ih (rmv m f) size s x (rmv_srt hs f) (by have := rmv_lt hb; omega) h
        have h2 : m.filter (stayP m x.k s) = (rmv m f).filter (stayP (rmv m f) x.k s) := by
          unfold rmv
          rw [List.filter_filter]
          apply List.filter_congr
          intro y hy
          cases hyf : y.k.kin (gkey f) with
          | true =>
            have h3 := part_of hs hf1 hyf
            have h4 : y.k.kin x.k = false := by rw [kin_cong hyf]; simpa using hf2.1
            unfold stayP
            rw [h3, h4]; simp; omega
          | false =>
            have h3 : ((m.filter fun z => !z.k.kin (gkey f)).filter fun z => y.k.kin z.k) = m.filter fun z => y.k.kin z.k := by
              rw [List.filter_filter]
              apply List.filter_congr
              intro z hz
              cases hyz : y.k.kin z.k with
              | false => rfl
              | true => rw [← kin_cong hyz, hyf]; rfl
            unfold stayP
            rw [h3]; simp
        rw [h2]; exact h1
def minF (h : Int) (g : List En) : Int := g.foldl (fun a z => min a z.w.hold) h
theorem minF_snoc (h : Int) (g : List En) (z : En) : minF h (g ++ [z]) = min (minF h g) z.w.hold := by simp [minF]
theorem minF_le (h : Int) (g : List En) : minF h g ≤ h ∧ ∀ z ∈ g, minF h g ≤ z.w.hold := by
  induction g using snoc_ind with
  | h0 => exact ⟨Int.le_refl _, by simp⟩
  | h1 g x ih =>
    rw [minF_snoc]
    refine ⟨by have := ih.1; omega, fun z hz => ?_⟩
    rcases List.mem_append.1 hz with hz | hz
    · have := ih.2 z hz; omega
    · obtain rfl : z = x := by simpa using hz
      omega
theorem minF_in (h : Int) (g : List En) : minF h g = h ∨ ∃ z ∈ g, minF h g = z.w.hold := by
  induction g using snoc_ind with
  | h0 => exact Or.inl rfl
  | h1 g x ih =>
    rw [minF_snoc]
    rcases Int.le_total (minF h g) x.w.hold with h1 | h1
    · rw [Int.min_eq_left h1]
      rcases ih with e | ⟨z, hz, e⟩
      · exact Or.inl e
      · exact Or.inr ⟨z, by simp [hz], e⟩
    · rw [Int.min_eq_right h1]; exact Or.inr ⟨x, by simp, rfl⟩
theorem minF_hold {g : List En} {y : En} (hy : y ∈ g) : minF y.w.hold g = holdG g := by
  apply Int.le_antisymm
  · obtain ⟨z, hz, e⟩ := holdG_in (g := g) (by intro e; rw [e] at hy; cases hy)
    rw [e]; exact (minF_le _ _).2 z hz
  · rcases minF_in y.w.hold g with e | ⟨z, hz, e⟩
    · rw [e]; exact hold_le hy
    · rw [e]; exact hold_le hz
set_option maxHeartbeats 8000000 in
theorem admitRefused_walk {A : AH} {m c : Nat} {a : Option Addr} {L : List At} (hm : m < 18446744073709551616) (hl : Sl A 35 12 a (L.map At.enc)) (ho : ActsOk L) : ACall Try.prog 7 [.int .u64 m, .slice a L.length c] A fun v A' => v = .bool true := by
  refine code7.call (by simp) fun hwf => ?_
  unfold c7
  simp
  refine CN.use (alive_ok A) ?_
  rintro _ A1 hw1 hn1 ⟨rfl, x1⟩
  simp
  refine CN.use (ps_new hm A1) ?_
  rintro _ A2 hw2 hn2 ⟨rfl, t2, x2⟩
  have x02 := x1.trans (by omega) x2
  simp
  have hobx : ∃ tb, tb = A1.next := ⟨_, rfl⟩
  obtain ⟨tb, htb⟩ := hobx
  rw [← htb] at t2
  have t2' := t2.now hw2
  refine LN.use (fun d E A' => ∃ (i : Nat) (lst : List En), d + i = L.length ∧ Ext A A' ∧ A.next ≤ A'.next ∧ PS A.next A'.next A' tb m lst ∧ E.get 0 = .int .u64 m ∧ E.get 1 = .slice a L.length c ∧ E.get 5 = .pointer (some ⟨tb, 0, none⟩) ∧ E.get 6 = .int .i64 i) L.length
    ⟨0, [], by omega, x02, by omega, t2'.wide (by omega) (Nat.le_refl _), by simp, by simp, by simp [htb], by simp⟩ ?_
  rintro d E A3 hw3 hn3 ⟨i, lst, hi, x3, n3, ps3, E0, E1, E5, E6⟩
  by_cases hlt : i < L.length
  rotate_left
  · have hlt' : ¬ (i : Int) < L.length := by omega
    simp [E1, E6, hlt, hlt']
    exact DN.of rfl
  have hlt' : (i : Int) < L.length := by omega
  by_cases h80 : i < 80
  rotate_left
  · have h80' : ¬ (i : Int) < 80 := by omega
    simp [E1, E6, hlt, hlt', h80, h80']
    exact DN.of rfl
  have h80' : (i : Int) < 80 := by omega
  have hgi : IntKind.i64.wrap ((i : Int) + 1) = ((i + 1 : Nat) : Int) := by rw [i64_in (by omega) (by omega)]; simp
  have hobt := at_of hl hlt hwf x3
  obtain ⟨b, o, cs, q, x, hx, rfl, g1, g2, g3⟩ := hobt
  have hxo : x.w.bw < 18446744073709551616 := by rw [hx]; exact ho _ (List.getElem_mem hlt)
  have hok := ps3.ok
  have hlen := hok.len
  have hobt := x.cells
  obtain ⟨c1, c2, c3, c4, c5, c6, c7⟩ := hobt
  have c8 : x.enc[0]'(by omega) = .bool x.drop := rfl
  have c9 : x.enc[7]'(by omega) = .int .i64 x.w.setup := rfl
  have hobx : ∃ A4, A4 = A3.alloc (.row x.enc 35 false) := ⟨_, rfl⟩
  obtain ⟨A4, hA4⟩ := hobx
  have w4 : A4.wf := by rw [hA4]; exact AH.wf_alloc hw3 _
  have n4 : A4.next = A3.next + 1 := by rw [hA4]; rfl
  have x34 : Ext A3 A4 := by rw [hA4]; exact Ext.alloc A3 _
  have r4 : A4.get A3.next = some (.row x.enc 35 false) := by rw [hA4, AH.get_new]
  simp [E0, E1, E5, E6, hlt, hlt', h80, h80', g1, g2, g3, c1, c5, ← hA4]
  refine ⟨c2, ?_⟩
  refine CN.use (ps_entries (ps3.ext hw3 x34)) ?_
  rintro _ A5 hw5 hn5 ⟨x5, ea, ec, rfl, es5, hea⟩
  have r5 := x5.get w4 r4
  have x35 := x34.trans (by omega) x5
  simp [E5, r5, c1, c5]
  refine CN.use (psk_does (ps3.ext hw3 x35).psk x hxo) ?_
  rintro _ A6 hw6 hn6 ⟨ps6, sn6, ga, gc, rfl, gs6, hga⟩
  have hok6 := ps6.ok
  have r6 : A6.get A3.next = some (.row x.enc 35 false) := by rw [sn6 _ (by omega) (Or.inl (by omega)), r5]
  have es6 : Sl A6 63 10 ea (lst.map En.enc) := es5.kept fun b o x e hb => sn6 b (hw5 _ _ hb) (Or.inl (by have := hea b o e; omega))
  have x06 : Ext A A6 := fun b hb => by rw [sn6 b (by omega) (Or.inl (by omega)), x35 b (by omega), x3 b hb]
  have hobx : ∃ r, r = doesP m lst x := ⟨_, rfl⟩
  obtain ⟨r, hr⟩ := hobx
  rw [← hr] at ps6 hok6 gs6
  simp only [← hr]
  have fin : ∀ B : AH, B.wf → Ext A6 B → A6.next ≤ B.next → (Ext A B ∧ A.next ≤ B.next ∧ PS A.next B.next B tb m r.1) := fun B hB hx hn =>
    ⟨x06.trans (by omega) hx, by omega, (ps6.ext hw6 hx).ps hB fun b hb => by rcases hb with hb | hb <;> omega⟩
  by_cases he : r.2.2 = 14
  rotate_left
  · have hfin := fin _ hw6 (Ext.refl _) (Nat.le_refl _)
    obtain ⟨f1, f2, f3⟩ := hfin
    simp [he, E6, hgi]
    exact NX.of ⟨d - 1, by omega, i + 1, r.1, by omega, f1, f2, f3, by simp [E0], by simp [E1], by simp [E5], by simp⟩
  have hd : x.drop = false := by
    rw [← Bool.not_eq_true]; intro hd
    rw [hr] at he; unfold doesP at he; rw [if_pos hd] at he
    unfold dropP at he; split at he <;> cases he
  have hr' := hr
  unfold doesP at hr'
  rw [if_neg (by rw [hd]; simp)] at hr'
  have hz := admP_room (size := m) (l := lst) (k := x.k) (w := x.w) (by rw [← hr']; exact he)
  obtain ⟨q1, q2, q3, q4⟩ := hz
  have hobx : ∃ y : En, y = ⟨x.k, x.w⟩ := ⟨_, rfl⟩
  obtain ⟨y, hy⟩ := hobx
  have hrf := refused (lst.length + 1) lst m x.w.setup y hok.srt (Nat.lt_succ_self _) (by rw [hy]; exact q4)
  have hyk : y.k = x.k := by rw [hy]
  rw [hyk] at hrf
  have hobx : ∃ P, P = stayP lst x.k x.w.setup := ⟨_, rfl⟩
  obtain ⟨P, hP⟩ := hobx
  rw [← hP] at hrf
  have hz1 : (spl [Value.int .i64 0, .int .i64 0, .int .i64 0, .int .i64 0, .int .u64 0, .int .i64 0, .int .i64 0, .int .u32 0, .int .u32 0, .int .u32 0] 0 x.k.enc).length = 10 := rfl
  have hz2 : spl (spl [Value.int .i64 0, .int .i64 0, .int .i64 0, .int .i64 0, .int .u64 0, .int .i64 0, .int .i64 0, .int .u32 0, .int .u32 0, .int .u32 0] 0 x.k.enc) 4 x.w.enc = y.enc := by rw [hy]; rfl
  have hxwl : x.w.enc.length = 6 := rfl
  have hxwt : x.w.enc.take 6 = x.w.enc := rfl
  have hobt := y.cells
  obtain ⟨hyl, hyo, hy4, hy6, hyt⟩ := hobt
  have hobx : ∃ A7, A7 = A6.alloc (.row y.enc 63 false) := ⟨_, rfl⟩
  obtain ⟨A7, hA7⟩ := hobx
  have w7 : A7.wf := by rw [hA7]; exact AH.wf_alloc hw6 _
  have n7 : A7.next = A6.next + 1 := by rw [hA7]; rfl
  have x67 : Ext A6 A7 := by rw [hA7]; exact Ext.alloc A6 _
  have r7 : A7.get A6.next = some (.row y.enc 63 false) := by rw [hA7, AH.get_new]
  have l7 : Lst A7 63 10 (some A6.next) (.slice (some ⟨A6.next, 0, none⟩) 1 1) ([y].map En.enc) := ⟨enc_rw [y], Or.inr ⟨A6.next, 1, [], rfl, rfl, by rw [r7]; simp, Or.inr ⟨by unfold UNK; omega, by simp, by simp [hyl]⟩⟩⟩
  simp [he, r6, c1, c3, c4, hz1, hz2, hxwl, hxwt, hyl, hyt, ← hA7]
  refine LN.use (fun d' E A' => ∃ (j : Nat) (ob : Option Nat) (v : Value), d' + j = lst.length ∧ Ext A6 A' ∧ A6.next ≤ A'.next ∧ Lst A' 63 10 ob v ((y :: (lst.take j).filter P).map En.enc) ∧ (∀ b, ob = some b → A6.next ≤ b) ∧ E.get 0 = .int .u64 m ∧ E.get 1 = .slice (some ⟨b, o, none⟩) L.length c ∧ E.get 5 = .pointer (some ⟨tb, 0, none⟩) ∧ E.get 6 = .int .i64 i ∧ E.get 7 = .pointer (some ⟨A3.next, 0, none⟩) ∧ E.get 8 = .slice ea lst.length ec ∧ E.get 11 = v ∧ E.get 55 = .slice ea lst.length ec ∧ E.get 56 = .int .i64 lst.length ∧ E.get 57 = .int .i64 j) lst.length
    ⟨0, some A6.next, _, by omega, x67, by omega, by simpa using l7, fun b hb => by injection hb with hb; omega, by simp [E0], by simp [E1], by simp [E5], by simp [E6], by simp, by simp, by simp, by simp, by simp, by simp⟩ ?_
  clear E0 E1 E5 E6
  rintro d5 E A8 hw8 hn8 ⟨j, ob, v, hj, x8, n8, l8, fob, E0, E1, E5, E6, E7, E8, E11, E55, E56, E57⟩
  have r8 := x8.get hw6 r6
  have es8 := es6.ext hw6 x8
  by_cases hjl : j < lst.length
  rotate_left
  · have hjl' : ¬ (j : Int) < lst.length := by omega
    rw [List.take_of_length_le (by omega)] at l8
    have hobt := l8.slm
    obtain ⟨sa, sc, hv, ss8⟩ := hobt
    subst hv
    have hfl := List.length_filter_le P lst
    simp [E11, E56, E57, hjl']
    refine CN.use (held_ok (l := y :: lst.filter P) ss8 (by simp; omega) (fun z hz => ?_)) ?_
    · rcases List.mem_cons.1 hz with e | hz
      · rw [e, hy]; exact hxo
      · exact (hok.ok z (List.mem_filter.1 hz).1).2
    rintro _ A9 hw9 hn9 ⟨x9, rfl⟩
    have hsf : SrtE (lst.filter P) := hok.srt.sublist List.filter_sublist
    have hhn : heldN (y :: lst.filter P) = tot (grp (insE (lst.filter P) y)) := held_perm (insE_srt hsf fun z hz => by rw [hyk]; exact no_key q2 z (List.mem_filter.1 hz).1) (insE_perm _ _).symm
    have hgt : m < heldN (y :: lst.filter P) := by rw [hhn]; exact hrf
    have r9 := x9.get hw8 r8
    have hfin := fin
    have hng : ¬ ((heldN (y :: lst.filter P) : Nat) : Int) ≤ (m : Nat) := by omega
    have hng' : ¬ heldN (y :: lst.filter P) ≤ m := by omega
    by_cases h64 : heldN (y :: lst.filter P) < 18446744073709551616 <;> simp [h64, hng, hng', E0, E7, r9, c1, c4]
    all_goals
      refine CN.use (rright_ok x.w A9) ?_
      rintro _ B hwB hnB ⟨rfl, xB⟩
      have hfin := fin B hwB (x8.trans (by omega) (x9.trans (by omega) xB)) (by omega)
      obtain ⟨f1, f2, f3⟩ := hfin
      simp [q1, E6, hgi]
      exact NX.of ⟨d - 1, by omega, i + 1, r.1, by omega, f1, f2, f3, by simp [E0], by simp [E1], by simp [E5], by simp⟩
  have hjl' : (j : Int) < lst.length := by omega
  have hgj : IntKind.i64.wrap ((j : Int) + 1) = ((j + 1 : Nat) : Int) := by rw [i64_in (by omega) (by omega)]; simp
  have hobt := es8.at (i := j) (by simpa using hjl)
  obtain ⟨b1, o1, cs1, qq, hea1, u1, u2, u3⟩ := hobt
  rw [List.getElem_map] at u3
  have hobx : ∃ z, z = lst[j]'hjl := ⟨_, rfl⟩
  obtain ⟨z, hzz⟩ := hobx
  rw [← hzz] at u3
  have hzm : z ∈ lst := by rw [hzz]; exact List.getElem_mem hjl
  have hobt := z.cells
  obtain ⟨hzl, hzo, hz4, hz6, hzt⟩ := hobt
  have hzh : z.enc[6]'(by omega) = .int .i64 z.w.hold := rfl
  have hobx : ∃ A9, A9 = A8.alloc (.row z.enc 63 false) := ⟨_, rfl⟩
  obtain ⟨A9, hA9⟩ := hobx
  have w9 : A9.wf := by rw [hA9]; exact AH.wf_alloc hw8 _
  have n9 : A9.next = A8.next + 1 := by rw [hA9]; rfl
  have x89 : Ext A8 A9 := by rw [hA9]; exact Ext.alloc A8 _
  have z9 : A9.get A8.next = some (.row z.enc 63 false) := by rw [hA9, AH.get_new]
  have l9 := l8.kept (A' := A9) fun b hb => x89 b (l8.lt hw8 hb)
  simp [E5, E6, E7, E8, E11, E55, E56, E57, hjl, hjl', hea1, u1, u2, u3, hzl, hzt, ← hA9, z9, hzh]
  refine ⟨hzo, ?_⟩
  refine LN.use (fun d' E A' => ∃ (p : Nat), d' + p = lst.length ∧ Ext A9 A' ∧ A9.next ≤ A'.next ∧ E.get 0 = .int .u64 m ∧ E.get 1 = .slice (some ⟨b, o, none⟩) L.length c ∧ E.get 5 = .pointer (some ⟨tb, 0, none⟩) ∧ E.get 6 = .int .i64 i ∧ E.get 7 = .pointer (some ⟨A3.next, 0, none⟩) ∧ E.get 8 = .slice ea lst.length ec ∧ E.get 11 = v ∧ E.get 13 = .pointer (some ⟨A8.next, 0, none⟩) ∧ E.get 14 = .int .i64 (minF z.w.hold ((lst.take p).filter fun t => z.k.kin t.k)) ∧ E.get 55 = .slice ea lst.length ec ∧ E.get 56 = .int .i64 lst.length ∧ E.get 57 = .int .i64 j ∧ E.get 64 = .slice ea lst.length ec ∧ E.get 65 = .int .i64 lst.length ∧ E.get 66 = .int .i64 p) lst.length
    ⟨0, by omega, Ext.refl _, Nat.le_refl _, by simp [E0], by simp [E1], by simp [E5], by simp [E6], by simp [E7], by simp [E8, hea1], by simp [E11], by simp, by simp [minF], by simp [E55, hea1], by simp [E56], by simp [E57], by simp [hea1], by simp, by simp⟩ ?_
  clear E0 E1 E5 E6 E7 E8 E11 E55 E56 E57
  rintro d6 E B hwB hnB ⟨p, hp, xB, nB, E0, E1, E5, E6, E7, E8, E11, E13, E14, E55, E56, E57, E64, E65, E66⟩
  have x8B := x89.trans (by omega) xB
  have zB := xB.get w9 z9
  have rB := x8B.get hw8 r8
  by_cases hpl : p < lst.length
  · have hpl' : (p : Int) < lst.length := by omega
    have hgp : IntKind.i64.wrap ((p : Int) + 1) = ((p + 1 : Nat) : Int) := by rw [i64_in (by omega) (by omega)]; simp
    have hobt := (es8.ext hw8 x8B).at (i := p) (by simpa using hpl)
    obtain ⟨b2, o2, cs2, q2', hea2, v1, v2, v3⟩ := hobt
    rw [List.getElem_map] at v3
    have hobx : ∃ t, t = lst[p]'hpl := ⟨_, rfl⟩
    obtain ⟨t, htt⟩ := hobx
    rw [← htt] at v3
    have hobt := t.cells
    obtain ⟨htl, hto, ht4, ht6, htt'⟩ := hobt
    have hth : t.enc[6]'(by omega) = .int .i64 t.w.hold := rfl
    have hobx : ∃ B2, B2 = B.alloc (.row t.enc 63 false) := ⟨_, rfl⟩
    obtain ⟨B2, hB2⟩ := hobx
    have wB2 : B2.wf := by rw [hB2]; exact AH.wf_alloc hwB _
    have nB2 : B2.next = B.next + 1 := by rw [hB2]; rfl
    have xB2 : Ext B B2 := by rw [hB2]; exact Ext.alloc B _
    have tB2 : B2.get B.next = some (.row t.enc 63 false) := by rw [hB2, AH.get_new]
    have zB2 := xB2.get hwB zB
    have htf := take_filter (p := fun t : En => z.k.kin t.k) hpl
    rw [← htt] at htf
    simp [E13, E14, E64, E65, E66, hpl, hpl', hea2, v1, v2, v3, htl, htt', ← hB2, zB2, tB2, hzl, hz4, ht4]
    refine ⟨hto, ?_⟩
    refine CN.use (rkin_ok z.k t.k B2) ?_
    rintro _ B3 hwB3 hnB3 ⟨rfl, xB3⟩
    have tB3 := xB3.get wB2 tB2
    have x93 := xB.trans (by omega) (xB2.trans (by omega) xB3)
    have hbool := Bool.eq_false_or_eq_true (z.k.kin t.k)
    rcases hbool with hk | hk
    · rw [hk, if_pos rfl] at htf
      have hobx : ∃ mn, mn = minF z.w.hold ((lst.take p).filter fun t => z.k.kin t.k) := ⟨_, rfl⟩
      obtain ⟨mn, hmn⟩ := hobx
      have hmn2 : minF z.w.hold ((lst.take (p + 1)).filter fun t => z.k.kin t.k) = min mn t.w.hold := by rw [htf, minF_snoc, hmn]
      have hif : (if t.w.hold < mn then t.w.hold else mn) = min mn t.w.hold := by
        split
        · rw [Int.min_eq_right (by omega)]
        · rw [Int.min_eq_left (by omega)]
      rw [← hmn] at E14
      simp [hk, E14, E66, tB3, htl, hth, hif, hgp]
      exact NX.of ⟨d6 - 1, by omega, p + 1, by omega, x93, by omega, by simp [E0], by simp [E1], by simp [E5], by simp [E6], by simp [E7], by simp [E8, hea2], by simp [E11], by simp [E13], by rw [hmn2]; simp, by simp [E55, hea2], by simp [E56], by simp [E57], by simp [E64, hea2], by simp [E65], by simp⟩
    · rw [hk] at htf
      simp at htf
      simp [hk, E66, hgp]
      exact NX.of ⟨d6 - 1, by omega, p + 1, by omega, x93, by omega, by simp [E0], by simp [E1], by simp [E5], by simp [E6], by simp [E7], by simp [E8, hea2], by simp [E11], by simp [E13], by simp [E14, htf], by simp [E55, hea2], by simp [E56], by simp [E57], by simp [E64, hea2], by simp [E65], by simp⟩
  · have hpl' : ¬ (p : Int) < lst.length := by omega
    rw [List.take_of_length_le (by omega), minF_hold (List.mem_filter.2 ⟨hzm, kin_refl _⟩)] at E14
    have htf := take_filter (p := P) hjl
    rw [← hzz] at htf
    have hPz : P z = (z.k.kin x.k || decide (holdG (lst.filter fun t => z.k.kin t.k) ≤ x.w.setup)) := by rw [hP]; rfl
    have lB := l9.kept (A' := B) fun b hb => xB b (l9.lt w9 hb)
    have hfl := List.length_filter_le P (lst.take j)
    rw [List.length_take] at hfl
    simp [E7, E11, E13, E14, E57, E65, E66, hpl', zB, hzl, hz4, rB, c1, c3]
    refine CN.use (rkin_ok z.k x.k B) ?_
    rintro _ B3 hwB3 hnB3 ⟨rfl, xB3⟩
    have l3 := lB.kept (A' := B3) fun b hb => xB3 b (lB.lt hwB hb)
    have z3 := xB3.get hwB zB
    have r3 := xB3.get hwB rB
    have x63 := x8.trans (by omega) (x8B.trans (by omega) xB3)
    have hpush := l3.push (y := 72) hwB3 (r := z.enc) ⟨hzl, List.all_eq_true.2 hzo⟩ (by omega) (by omega) (by simp; omega) (by simp; omega)
    obtain ⟨v5, B4, ob5, p1, p2, p3, p4, p5⟩ := hpush
    have x64 : Ext A6 B4 := fun b hb => by rw [p3 b (by omega) (fun e => by have := fob b e; omega), x63 b hb]
    have hob5 : ∀ b, ob5 = some b → A6.next ≤ b := fun b hb => by
      rcases p4 with e | e
      · exact fob b (by rw [← e]; exact hb)
      · rw [e] at hb; injection hb with hb; omega
    have p2' : Lst B4 63 10 ob5 v5 ((y :: ((lst.take j).filter P ++ [z])).map En.enc) := by simpa using p2
    have hbool := Bool.eq_false_or_eq_true (z.k.kin x.k)
    rcases hbool with hk | hk
    · rw [hk] at hPz
      rw [hPz, if_pos (by simp)] at htf
      simp [hk, E11, E13, E57, z3, hzl, hzt, p1, hgj]
      exact NX.of ⟨d5 - 1, by omega, j + 1, ob5, v5, by omega, x64, by omega, by rw [htf]; exact p2', hob5, by simp [E0], by simp [E1], by simp [E5], by simp [E6], by simp [E7], by simp [E8], by simp, by simp [E55], by simp [E56], by simp⟩
    · by_cases hh : holdG (lst.filter fun t => z.k.kin t.k) ≤ x.w.setup
      · rw [hk] at hPz
        rw [hPz, if_pos (by simp [hh])] at htf
        simp [hk, hh, E7, E11, E13, E14, E57, r3, c1, c9, z3, hzl, hzt, p1, hgj]
        exact NX.of ⟨d5 - 1, by omega, j + 1, ob5, v5, by omega, x64, by omega, by rw [htf]; exact p2', hob5, by simp [E0], by simp [E1], by simp [E5], by simp [E6], by simp [E7], by simp [E8], by simp, by simp [E55], by simp [E56], by simp⟩
      · rw [hk] at hPz
        have hPf : P z = false := by rw [hPz]; simp [hh]
        rw [hPf] at htf
        simp at htf
        simp [hk, hh, E7, E11, E13, E14, E57, r3, c1, c9, hgj]
        exact NX.of ⟨d5 - 1, by omega, j + 1, ob, v, by omega, x63, by omega, by rw [htf]; exact l3, fob, by simp [E0], by simp [E1], by simp [E5], by simp [E6], by simp [E7], by simp [E8], by simp [E11], by simp [E55], by simp [E56], by simp⟩
end Go.Proofs.Ytieehccjajhpfaa.AC
