/-
  What the law does.
-/
import Derived.Test.YtieehccjajhpfaaCAL
import Derived.Test.YtieehccjajhpfaaS4
set_option linter.unusedSimpArgs false
set_option linter.unusedVariables false
/- The law AdmitShares. -/
namespace Go.Proofs.Ytieehccjajhpfaa.AC
open Go Go.AI Go.Proofs Go.Proofs.Ytieehccjajhpfaa.AQ
set_option linter.unusedVariables false
set_option linter.unusedSimpArgs false
set_option maxHeartbeats 4000000 in
theorem admitShares_walk {A : AH} {m c : Nat} {a : Option Addr} {L : List At} (hm : m < 18446744073709551616) (hl : Sl A 35 12 a (L.map At.enc)) (ho : ActsOk L) (k : Key) : ACall Try.prog 8 [.int .u64 m, .slice a L.length c, .agg k.enc.toArray] A fun v A' => v = .bool true := by
  refine ACall.wf fun hwf => ?_
  have hobx : ∃ A0, A0 = A.alloc (.row k.enc 23 false) := ⟨_, rfl⟩
  obtain ⟨A0, hA0⟩ := hobx
  have w0 : A0.wf := by rw [hA0]; exact AH.wf_alloc hwf _
  have n0 : A0.next = A.next + 1 := by rw [hA0]; rfl
  have x0 : Ext A A0 := by rw [hA0]; exact Ext.alloc A _
  have b0 : A0.get A.next = some (.row k.enc 23 false) := by rw [hA0, AH.get_new]
  have hl0 := hl.ext hwf x0
  refine code8.call (by simp) fun hwf => ?_
  unfold c8
  simp [← hA0]
  refine CN.use (alive_ok A0) ?_
  rintro _ A1 hw1 hn1 ⟨rfl, x1⟩
  simp
  refine CN.use (ps_new hm A1) ?_
  rintro _ A2 hw2 hn2 ⟨rfl, t2, x2⟩
  have x02 := x1.trans (by omega) x2
  simp
  have hobx : ∃ tb, tb = A1.next := ⟨_, rfl⟩
  obtain ⟨tb, htb⟩ := hobx
  rw [← htb] at t2
  have t2' := t2.now hw2
  refine LN.join 0 (fun d E A' => ∃ (i : Nat) (lst : List En), d + i = L.length ∧ Ext A0 A' ∧ A0.next ≤ A'.next ∧ PS A0.next A'.next A' tb m lst ∧ E.get 1 = .slice a L.length c ∧ E.get 5 = .pointer (some ⟨A.next, 0, none⟩) ∧ E.get 7 = .pointer (some ⟨tb, 0, none⟩) ∧ E.get 8 = .int .i64 i) L.length
    (fun E A' => A'.wf ∧ ∃ (lst : List En), Ext A0 A' ∧ A0.next ≤ A'.next ∧ PS A0.next A'.next A' tb m lst ∧ E.get 5 = .pointer (some ⟨A.next, 0, none⟩) ∧ E.get 7 = .pointer (some ⟨tb, 0, none⟩))
    ⟨0, [], by omega, x02, by omega, t2'.wide (by omega) (Nat.le_refl _), by simp, by simp, by simp [htb], by simp⟩ ?_ ?_
  · rintro d E A3 hw3 hn3 ⟨i, lst, hi, x3, n3, ps3, E1, E5, E7, E8⟩
    by_cases hlt : i < L.length
    rotate_left
    · have hlt' : ¬ (i : Int) < L.length := by omega
      simp [E1, E8, hlt, hlt']
      exact NX.of ⟨hw3, lst, x3, n3, ps3, by simp [E5], by simp [E7]⟩
    have hlt' : (i : Int) < L.length := by omega
    by_cases h80 : i < 80
    rotate_left
    · have h80' : ¬ (i : Int) < 80 := by omega
      simp [E1, E8, hlt, hlt', h80, h80']
      exact NX.of ⟨hw3, lst, x3, n3, ps3, by simp [E5], by simp [E7]⟩
    have h80' : (i : Int) < 80 := by omega
    have hgi : IntKind.i64.wrap ((i : Int) + 1) = ((i + 1 : Nat) : Int) := by rw [i64_in (by omega) (by omega)]; simp
    have hobt := at_of hl0 hlt w0 x3
    obtain ⟨b, o, cs, q, x, hx, rfl, g1, g2, g3⟩ := hobt
    have hxo : x.w.bw < 18446744073709551616 := by rw [hx]; exact ho _ (List.getElem_mem hlt)
    simp [E1, E5, E7, E8, hlt, hlt', h80, h80', g1, g2, g3]
    refine CN.use (ps_does ps3 (Nat.le_refl _) x hxo) ?_
    rintro _ A4 hw4 hn4 ⟨ps4, sn4, ga, gc, rfl, -, -⟩
    simp [E8, hgi]
    exact NX.of ⟨d - 1, by omega, i + 1, _, by omega, fun b hb => by rw [sn4.low hb (by omega), x3 b hb], by omega, ps4, by simp [E1], by simp [E5], by simp [E7], by simp⟩
  · rintro E A3 ⟨hw3, lst, x3, n3, ps3, E5, E7⟩
    have hok := ps3.ok
    have hlen := hok.len
    simp [E7]
    refine CN.use (ps_entries ps3) ?_
    rintro _ A4 hw4 hn4 ⟨x4, ea, ec, rfl, es4, hea⟩
    have b4 : A4.get A.next = some (.row k.enc 23 false) := by rw [x4 _ (by omega), x3 _ (by omega), b0]
    simp [E5, E7, b4]
    refine CN.use (lfind_ok es4 (by omega) k) ?_
    rintro _ A5 hw5 hn5 ⟨x5, rfl⟩
    have hobx : ∃ fw : Wt, fw = (lookE lst k).getD wantZ := ⟨_, rfl⟩
    obtain ⟨fw, hfw⟩ := hobx
    have hwl : fw.enc.length = 6 := rfl
    have hwt : fw.enc.take 6 = fw.enc := rfl
    have hwo : ∀ v ∈ fw.enc, oneB v = true := List.all_eq_true.1 (rfl : fw.enc.all oneB = true)
    have hobx : ∃ A6, A6 = A5.alloc (.row fw.enc 33 false) := ⟨_, rfl⟩
    obtain ⟨A6, hA6⟩ := hobx
    have w6 : A6.wf := by rw [hA6]; exact AH.wf_alloc hw5 _
    have n6 : A6.next = A5.next + 1 := by rw [hA6]; rfl
    have x56 : Ext A5 A6 := by rw [hA6]; exact Ext.alloc A5 _
    have x46 := x5.trans (by omega) x56
    have x36 := x4.trans (by omega) x46
    have b6 := x46.get hw4 b4
    have es6 := es4.ext hw4 x46
    have ps6 := ps3.ext hw3 x36
    have heb : ∀ b o, ea = some ⟨b, o, none⟩ → lst ≠ [] → b < A4.next := fun b o e hne => by
      have hobt := es4.2.2 (by intro e2; exact hne (List.map_eq_nil_iff.1 e2))
      obtain ⟨b', o', cs', q', e1, e2, -⟩ := hobt
      rw [e] at e1; injection e1 with e1; injection e1 with e1; subst e1
      exact hw4 _ _ e2
    by_cases hk : hasK lst k = true
    · simp only [← hfw]
      simp [hk, hwl, hwt, ← hA6]
      refine ⟨hwo, ?_⟩
      exact DN.of rfl
    by_cases h64 : 64 ≤ lst.length
    · have h64' : (64 : Int) ≤ lst.length := by omega
      simp only [← hfw]
      simp [hk, hwl, hwt, ← hA6, h64, h64']
      refine ⟨hwo, ?_⟩
      exact DN.of rfl
    have h64' : ¬ (64 : Int) ≤ lst.length := by omega
    simp only [← hfw]
    simp [hk, hwl, hwt, ← hA6, h64, h64']
    refine ⟨hwo, ?_⟩
    refine LN.use (fun d E A' => ∃ (i : Nat), d + i = lst.length ∧ Ext A6 A' ∧ A6.next ≤ A'.next ∧ E.get 5 = .pointer (some ⟨A.next, 0, none⟩) ∧ E.get 7 = .pointer (some ⟨tb, 0, none⟩) ∧ E.get 9 = .slice ea lst.length ec ∧ E.get 56 = .slice ea lst.length ec ∧ E.get 57 = .int .i64 lst.length ∧ E.get 58 = .int .i64 i) lst.length
      ⟨0, by omega, Ext.refl _, Nat.le_refl _, by simp [E5], by simp [E7], by simp, by simp, by simp, by simp⟩ ?_
    clear E5 E7
    rintro d E A7 hw7 hn7 ⟨i, hi, x7, n7, E5, E7, E9, E56, E57, E58⟩
    by_cases hlt : i < lst.length
    rotate_left
    · have hlt' : ¬ (i : Int) < lst.length := by omega
      simp [E57, E58, hlt, hlt']
      exact DN.of rfl
    have hlt' : (i : Int) < lst.length := by omega
    have hgi : IntKind.i64.wrap ((i : Int) + 1) = ((i + 1 : Nat) : Int) := by rw [i64_in (by omega) (by omega)]; simp
    have es7 := es6.ext w6 x7
    have hobt := es7.at (i := i) (by simpa using hlt)
    obtain ⟨b, o, cs, q, hee, g1, g2, g3⟩ := hobt
    rw [List.getElem_map] at g3
    have hobx : ∃ y, y = lst[i]'hlt := ⟨_, rfl⟩
    obtain ⟨y, hy⟩ := hobx
    rw [← hy] at g3
    have hym : y ∈ lst := by rw [hy]; exact List.getElem_mem hlt
    have hobt := y.cells
    obtain ⟨hyl, hyo, hy4, hy6, hyt⟩ := hobt
    have y4 : y.enc[4]'(by omega) = .int .u64 y.w.bw := rfl
    have hobx : ∃ A8, A8 = A7.alloc (.row y.enc 63 false) := ⟨_, rfl⟩
    obtain ⟨A8, hA8⟩ := hobx
    have w8 : A8.wf := by rw [hA8]; exact AH.wf_alloc hw7 _
    have n8 : A8.next = A7.next + 1 := by rw [hA8]; rfl
    have x78 : Ext A7 A8 := by rw [hA8]; exact Ext.alloc A7 _
    have r8 : A8.get A7.next = some (.row y.enc 63 false) := by rw [hA8, AH.get_new]
    have x68 := x7.trans (by omega) x78
    have b8 := x68.get w6 b6
    simp [E5, E7, E9, E56, E57, E58, hlt, hlt', hee, g1, g2, g3, hyl, hyt, ← hA8, r8, hy4, b8]
    refine ⟨hyo, ?_⟩
    refine CN.use (rkin_ok y.k k A8) ?_
    rintro _ A9 hw9 hn9 ⟨rfl, x9⟩
    have x69 := x68.trans (by omega) x9
    have hbool := Bool.eq_false_or_eq_true (y.k.kin k)
    rcases hbool with hkn | hkn
    rotate_left
    · simp [hkn, E58, hgi]
      exact NX.of ⟨d - 1, by omega, i + 1, by omega, x69, by omega, by simp [E5], by simp [E7], by simp [E9, hee], by simp [E56, hee], by simp [E57], by simp⟩
    have hsh := shares_is hok hk (by omega) hym hkn
    have hti := tot_kin hok.srt hk hym hkn (w := ⟨y.w.bw, 7, 7, 0, 0, 0⟩) rfl
    have hobx : ∃ w7 : Wt, w7 = ⟨y.w.bw, 7, 7, 0, 0, 0⟩ := ⟨_, rfl⟩
    obtain ⟨w7, hw7'⟩ := hobx
    rw [← hw7'] at hsh hti
    have hz1 : spl (spl (spl [Value.int .u64 0, .int .i64 0, .int .i64 0, .int .u32 0, .int .u32 0, .int .u32 0] 0 [.int .u64 y.w.bw]) 1 [.int .i64 7]) 2 [.int .i64 7] = w7.enc := by rw [hw7']; rfl
    have hz2 : [Value.int .u64 y.w.bw, .int .i64 7, .int .i64 7, .int .u32 0, .int .u32 0, .int .u32 0] = w7.enc := by rw [hw7']; rfl
    have es9 := es6.ext w6 x69
    have b9 := x69.get w6 b6
    have r9 := x9.get w8 r8
    simp [hkn, E9, hee]
    rw [hee] at es9
    refine CN.use (held_ok es9 (by omega) (fun y hy => (hok.ok y hy).2)) ?_
    rintro _ B1 hv1 hm1 ⟨y1, rfl⟩
    have x6B := x69.trans (by omega) y1
    have bB := y1.get hw9 b9
    have rB := y1.get hw9 r9
    simp [E5, E7, bB, rB, hyl, y4, hz2]
    refine CN.use (psk_admit (ps6.ext w6 x6B).psk k w7 (by rw [hw7']; exact (hok.ok y hym).2)) ?_
    rintro _ B2 hv2 hm2 ⟨psB2, snB2, ga, gc, rfl, gs2⟩
    have hg1 : (admP m lst k w7).1 = insE lst ⟨k, w7⟩ := by rw [hsh]
    have hg2 : (admP m lst k w7).2.1 = [] := by rw [hsh]
    have hg3 : (admP m lst k w7).2.2 = 0 := by rw [hsh]
    rw [hg1] at psB2
    have hokB := psB2.ok
    have hlenB := hokB.len
    have bB2 : B2.get A.next = some (.row k.enc 23 false) := by rw [snB2 _ (by omega) (Or.inl (by omega)), bB]
    have esB2 : Sl B2 63 10 ea (lst.map En.enc) := by
      rw [hee]
      refine (es9.ext hw9 y1).kept fun b' o' x e hb => snB2 b' (hv1 _ _ hb) (Or.inl ?_)
      have h1 := hea b' o' (by rw [hee]; exact e)
      omega
    simp [hg2, hg3, E7]
    refine CN.use (psk_entries psB2) ?_
    rintro _ B3 hv3 hm3 ⟨y3, fa, fc, rfl, fs3, -⟩
    simp
    refine CN.use (held_ok fs3 (by omega) (fun y hy => (hokB.ok y hy).2)) ?_
    rintro _ B4 hv4 hm4 ⟨y4', rfl⟩
    have hh1 : heldN lst = tot (grp lst) := held_grp hok.srt
    have hh2 : heldN (insE lst ⟨k, w7⟩) = tot (grp lst) := by rw [held_grp hokB.srt, hti]
    have hlt64 : tot (grp lst) < 18446744073709551616 := by have := hok.fits; have := hok.sz; omega
    have y24 := y3.trans (by omega) y4'
    have bB4 := y24.get hv2 bB2
    simp [hg2, hg3, hh1, hh2, hlt64, E5, E7, bB4]
    have hdrop := insE_drop (w := w7) hok.srt hk
    refine CN.use (psk_drop (psB2.ext hv2 y24) k) ?_
    rintro _ B5 hv5 hm5 ⟨psB5, snB5, rfl⟩
    rw [hdrop] at psB5
    have hd2 : (dropP (insE lst ⟨k, w7⟩) k).2 = 0 := by rw [hdrop]
    have esB5 : Sl B5 63 10 ea (lst.map En.enc) := by
      have hne : lst ≠ [] := by intro e; rw [e] at hym; cases hym
      exact (esB2.ext hv2 y24).kept fun b' o' x e hb => snB5 b' (hv4 _ _ hb) (Or.inl (by have := hea b' o' e; have := heb b' o' e hne; omega))
    simp [hd2, E7]
    refine CN.use (psk_entries psB5) ?_
    rintro _ C1 hu1 hk1 ⟨c1, fa2, fc2, rfl, fs1, -⟩
    simp
    refine CN.use (ours_ok fs1 (by omega)) ?_
    rintro v2 C2 hu2 hk2 ⟨c2, rd2⟩
    have esC := esB5.ext hv5 (c1.trans (by omega) c2)
    rw [hee] at esC
    simp [E9, hee]
    refine CN.use (ours_ok esC (by omega)) ?_
    rintro v3 C3 hu3 hk3 ⟨c3, rd3⟩
    simp
    refine CN.use (same_ok (rd2.ext hu2 c3) rd3 (by omega)) ?_
    rintro _ C4 hu4 hk4 ⟨rfl, rfl⟩
    simp
    exact DN.of rfl
end Go.Proofs.Ytieehccjajhpfaa.AC
