/-
  What the law does.
-/
import Derived.Test.YtieehccjajhpfaaCAL
import Derived.Test.YtieehccjajhpfaaS4
set_option linter.unusedSimpArgs false
set_option linter.unusedVariables false
/- The law AdmitBack. -/
namespace Go.Proofs.Ytieehccjajhpfaa.AC
open Go Go.AI Go.Proofs Go.Proofs.Ytieehccjajhpfaa.AQ
set_option linter.unusedVariables false
set_option linter.unusedSimpArgs false
@[simp high] theorem want_neq (A : AH) (x y : Wt) : aBin Try.prog A .neq 33 (.agg x.enc.toArray) (.agg y.enc.toArray) = some (.bool (!decide (x = y))) := by
  rw [aBin_neq_agg A _ _ _ eg33]
  have : aEq Try.prog A 20 33 (.agg x.enc.toArray) (.agg y.enc.toArray) = some (decide (x = y)) := by
    rcases x with ⟨b1, b2, b3, b4, b5, b6⟩
    rcases y with ⟨d1, d2, d3, d4, d5, d6⟩
    simp [Wt.enc]
    grind
  rw [this]; rfl
set_option maxHeartbeats 4000000 in
theorem admitBack_walk {A : AH} {m c : Nat} {a : Option Addr} {L : List At} (hm : m < 18446744073709551616) (hl : Sl A 35 12 a (L.map At.enc)) (ho : ActsOk L) (z : At) (hz : z.w.bw < 18446744073709551616) : ACall Try.prog 9 [.int .u64 m, .slice a L.length c, .agg z.enc.toArray] A fun v A' => v = .bool true := by
  have hobt := z.cells
  obtain ⟨z1, z2, z3, z4, z5, z6, z7⟩ := hobt
  refine ACall.wf fun hwf => ?_
  have hobx : ∃ A0, A0 = A.alloc (.row z.enc 35 false) := ⟨_, rfl⟩
  obtain ⟨A0, hA0⟩ := hobx
  have w0 : A0.wf := by rw [hA0]; exact AH.wf_alloc hwf _
  have n0 : A0.next = A.next + 1 := by rw [hA0]; rfl
  have x0 : Ext A A0 := by rw [hA0]; exact Ext.alloc A _
  have b0 : A0.get A.next = some (.row z.enc 35 false) := by rw [hA0, AH.get_new]
  have hl0 := hl.ext hwf x0
  refine code9.call (by simp) fun hwf => ?_
  unfold c9
  simp [z1, z5, ← hA0]
  refine CN.use (alive_ok A0) ?_
  rintro _ A1 hw1 hn1 ⟨rfl, x1⟩
  simp
  refine CN.use (ps_new hm A1) ?_
  rintro _ A2 hw2 hn2 ⟨rfl, t2, x2⟩
  have x02 := x1.trans (by omega) x2
  simp
  have hobx : ∃ tb, tb = A1.next := ⟨_, rfl⟩
  obtain ⟨tb, htb⟩ := hobx
  rw [← htb] at t2
  have t2' := t2.now hw2
  refine LN.join 0 (fun d E A' => ∃ (i : Nat) (lst : List En), d + i = L.length ∧ Ext A0 A' ∧ A0.next ≤ A'.next ∧ PS A0.next A'.next A' tb m lst ∧ E.get 1 = .slice a L.length c ∧ E.get 5 = .pointer (some ⟨A.next, 0, none⟩) ∧ E.get 7 = .pointer (some ⟨tb, 0, none⟩) ∧ E.get 8 = .int .i64 i) L.length
    (fun E A' => A'.wf ∧ ∃ (lst : List En), Ext A0 A' ∧ A0.next ≤ A'.next ∧ PS A0.next A'.next A' tb m lst ∧ E.get 5 = .pointer (some ⟨A.next, 0, none⟩) ∧ E.get 7 = .pointer (some ⟨tb, 0, none⟩))
    ⟨0, [], by omega, x02, by omega, t2'.wide (by omega) (Nat.le_refl _), by simp, by simp, by simp [htb], by simp⟩ ?_ ?_
  · rintro d E A3 hw3 hn3 ⟨i, lst, hi, x3, n3, ps3, E1, E5, E7, E8⟩
    by_cases hlt : i < L.length
    rotate_left
    · have hlt' : ¬ (i : Int) < L.length := by omega
      simp [E1, E8, hlt, hlt']
      exact NX.of ⟨hw3, lst, x3, n3, ps3, by simp [E5], by simp [E7]⟩
    have hlt' : (i : Int) < L.length := by omega
    by_cases h80 : i < 80
    rotate_left
    · have h80' : ¬ (i : Int) < 80 := by omega
      simp [E1, E8, hlt, hlt', h80, h80']
      exact NX.of ⟨hw3, lst, x3, n3, ps3, by simp [E5], by simp [E7]⟩
    have h80' : (i : Int) < 80 := by omega
    have hgi : IntKind.i64.wrap ((i : Int) + 1) = ((i + 1 : Nat) : Int) := by rw [i64_in (by omega) (by omega)]; simp
    have hobt := at_of hl0 hlt w0 x3
    obtain ⟨b, o, cs, q, x, hx, rfl, g1, g2, g3⟩ := hobt
    have hxo : x.w.bw < 18446744073709551616 := by rw [hx]; exact ho _ (List.getElem_mem hlt)
    simp [E1, E5, E7, E8, hlt, hlt', h80, h80', g1, g2, g3]
    refine CN.use (ps_does ps3 (Nat.le_refl _) x hxo) ?_
    rintro _ A4 hw4 hn4 ⟨ps4, sn4, ga, gc, rfl, -, -⟩
    simp [E8, hgi]
    exact NX.of ⟨d - 1, by omega, i + 1, _, by omega, fun b hb => by rw [sn4.low hb (by omega), x3 b hb], by omega, ps4, by simp [E1], by simp [E5], by simp [E7], by simp⟩
  · rintro E A3 ⟨hw3, lst, x3, n3, ps3, E5, E7⟩
    have hok := ps3.ok
    have hlen := hok.len
    simp [E7]
    refine CN.use (ps_entries ps3) ?_
    rintro _ A4 hw4 hn4 ⟨x4, ea, ec, rfl, es4, hea⟩
    have b4 : A4.get A.next = some (.row z.enc 35 false) := by rw [x4 _ (by omega), x3 _ (by omega), b0]
    have z8 : z.enc.length = 12 := z1
    simp [E5, E7, b4, z1, z3, z4]
    refine CN.use (psk_admit (ps3.ext hw3 x4).psk z.k z.w hz) ?_
    rintro _ A5 hw5 hn5 ⟨ps5, sn5, ga, gc, rfl, gs5⟩
    have b5 : A5.get A.next = some (.row z.enc 35 false) := by rw [sn5 _ (by omega) (Or.inl (by omega)), b4]
    have es5 : Sl A5 63 10 ea (lst.map En.enc) := es4.kept fun b o x e hb => sn5 b (hw4 _ _ hb) (Or.inl (by have := hea b o e; omega))
    have hobx : ∃ r, r = admP m lst z.k z.w := ⟨_, rfl⟩
    obtain ⟨r, hr⟩ := hobx
    rw [← hr] at ps5
    simp only [← hr]
    by_cases he : r.2.2 = 0
    rotate_left
    · simp [he]
      exact DN.of rfl
    by_cases hg : r.2.1 = []
    rotate_left
    · have hgl : 0 < r.2.1.length := List.length_pos_iff.2 hg
      have hgl' : (0 : Int) < r.2.1.length := by omega
      simp [he, hgl, hgl']
      exact DN.of rfl
    have hz0 := admP_zero (size := m) (l := lst) (k := z.k) (w := z.w) (by rw [← hr]; exact he)
    obtain ⟨q1, q2, q3, now, q4, q5⟩ := hz0
    rw [← hr] at q5
    have hnow : now = lst := gone_nil hok.srt (adm_some _ _ _ q4).1 (by rw [q5] at hg; exact hg)
    rw [hnow] at q5
    have hr1 : r.1 = insE lst ⟨z.k, z.w⟩ := by rw [q5]
    rw [hr1] at ps5
    have hok5 := ps5.ok
    have hlen5 := hok5.len
    have hgl0 : r.2.1.length = 0 := by rw [hg]; rfl
    simp [he, hg, b5, z1, z3, E5, E7]
    refine CN.use (psk_entries ps5) ?_
    rintro _ A6 hw6 hn6 ⟨x6, fa, fc, rfl, fs6, -⟩
    have b6 := x6.get hw5 b5
    simp [b5, b6, z1, z3, E5, E7]
    refine CN.use (lfind_ok fs6 (by omega) z.k) ?_
    rintro _ A7 hw7 hn7 ⟨x7, rfl⟩
    have hlook := insE_look (w := z.w) hok.srt q2
    have hhas : hasK (insE lst ⟨z.k, z.w⟩) z.k = true := by rw [insE_hasK]; simp
    have hdrop := insE_drop (w := z.w) hok.srt q2
    have x57 := x6.trans (by omega) x7
    have b7 := x57.get hw5 b5
    have hgd : (lookE (insE lst ⟨z.k, z.w⟩) z.k).getD wantZ = z.w := by rw [hlook]; rfl
    have hwl : z.w.enc.length = 6 := rfl
    have hwt : z.w.enc.take 6 = z.w.enc := rfl
    have hwo : ∀ v ∈ z.w.enc, oneB v = true := List.all_eq_true.1 (rfl : z.w.enc.all oneB = true)
    have hobx : ∃ A8, A8 = A7.alloc (.row z.w.enc 33 false) := ⟨_, rfl⟩
    obtain ⟨A8, hA8⟩ := hobx
    have w8 : A8.wf := by rw [hA8]; exact AH.wf_alloc hw7 _
    have n8 : A8.next = A7.next + 1 := by rw [hA8]; rfl
    have x78 : Ext A7 A8 := by rw [hA8]; exact Ext.alloc A7 _
    have b8 := x78.get hw7 b7
    have v8 : A8.get A7.next = some (.row z.w.enc 33 false) := by rw [hA8, AH.get_new]
    simp only [hgd]
    simp [hhas, hwl, hwt, ← hA8, v8, b8, z1, z3, z4, E5, E7]
    refine ⟨hwo, ?_⟩
    have x58 := x57.trans (by omega) x78
    refine CN.use (psk_drop (ps5.ext hw5 x58) z.k) ?_
    rintro _ A9 hw9 hn9 ⟨ps9, sn9, rfl⟩
    rw [hdrop] at ps9
    have hd2 : (dropP (insE lst ⟨z.k, z.w⟩) z.k).2 = 0 := by rw [hdrop]
    have es9 : Sl A9 63 10 ea (lst.map En.enc) := by
      have heb : ∀ b o, ea = some ⟨b, o, none⟩ → lst ≠ [] → b < A4.next := fun b o e hne => by
        have hobt := es4.2.2 (by intro e2; exact hne (List.map_eq_nil_iff.1 e2))
        obtain ⟨b', o', cs', q', e1, e2, -⟩ := hobt
        rw [e] at e1; injection e1 with e1; injection e1 with e1; subst e1
        exact hw4 _ _ e2
      by_cases hne : lst = []
      · subst hne; exact Sl.nil es4.2.1 _ _ _
      · exact (es5.ext hw5 x58).kept fun b o x e hb => sn9 b (w8 _ _ hb) (Or.inl (by have := hea b o e; have := heb b o e hne; omega))
    simp [hd2, E7]
    refine CN.use (psk_entries ps9) ?_
    rintro _ B1 hv1 hm1 ⟨y1, fa2, fc2, rfl, fs1, -⟩
    simp
    refine CN.use (ours_ok fs1 (by omega)) ?_
    rintro v2 B2 hv2 hm2 ⟨y2, rd2⟩
    simp
    refine CN.use (ours_ok (es9.ext hw9 (y1.trans (by omega) y2)) (by omega)) ?_
    rintro v3 B3 hv3 hm3 ⟨y3, rd3⟩
    simp
    refine CN.use (same_ok (rd2.ext hv2 y3) rd3 (by omega)) ?_
    rintro _ B4 hv4 hm4 ⟨rfl, rfl⟩
    simp
    exact DN.of rfl
end Go.Proofs.Ytieehccjajhpfaa.AC
