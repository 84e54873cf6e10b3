/-
  What the law does.
-/
import Derived.Test.YtieehccjajhpfaaCAL
import Derived.Test.YtieehccjajhpfaaS4
set_option linter.unusedSimpArgs false
set_option linter.unusedVariables false
/- The law AdmitRight. -/
namespace Go.Proofs.Ytieehccjajhpfaa.AC
open Go Go.AI Go.Proofs Go.Proofs.Ytieehccjajhpfaa.AQ
set_option linter.unusedVariables false
set_option linter.unusedSimpArgs false
set_option maxHeartbeats 4000000 in
theorem admitRight_walk {A : AH} {m c : Nat} {a : Option Addr} {L : List At} (hm : m < 18446744073709551616) (hl : Sl A 35 12 a (L.map At.enc)) (ho : ActsOk L) : ACall Try.prog 5 [.int .u64 m, .slice a L.length c] A fun v A' => v = .bool true := by
  refine code5.call (by simp) fun hwf => ?_
  unfold c5
  simp
  refine CN.use (alive_ok A) ?_
  rintro _ A1 hw1 hn1 ⟨rfl, x1⟩
  simp
  refine CN.use (ps_new hm A1) ?_
  rintro _ A2 hw2 hn2 ⟨rfl, t2, x2⟩
  have x02 := x1.trans (by omega) x2
  simp
  have hobx : ∃ tb, tb = A1.next := ⟨_, rfl⟩
  obtain ⟨tb, htb⟩ := hobx
  rw [← htb] at t2
  have t2' := t2.now hw2
  refine LN.use (fun d E A' => ∃ (i : Nat) (lst : List En), d + i = L.length ∧ Ext A A' ∧ A.next ≤ A'.next ∧ PS A.next A'.next A' tb m lst ∧ E.get 0 = .int .u64 m ∧ E.get 1 = .slice a L.length c ∧ E.get 5 = .pointer (some ⟨tb, 0, none⟩) ∧ E.get 6 = .int .i64 i) L.length
    ⟨0, [], by omega, x02, by omega, t2'.wide (by omega) (Nat.le_refl _), by simp, by simp, by simp [htb], by simp⟩ ?_
  rintro d E A3 hw3 hn3 ⟨i, lst, hi, x3, n3, ps3, E0, E1, E5, E6⟩
  by_cases hlt : i < L.length
  rotate_left
  · have hlt' : ¬ (i : Int) < L.length := by omega
    simp [E1, E6, hlt, hlt']
    exact DN.of rfl
  have hlt' : (i : Int) < L.length := by omega
  by_cases h80 : i < 80
  rotate_left
  · have h80' : ¬ (i : Int) < 80 := by omega
    simp [E1, E6, hlt, hlt', h80, h80']
    exact DN.of rfl
  have h80' : (i : Int) < 80 := by omega
  have hgi : IntKind.i64.wrap ((i : Int) + 1) = ((i + 1 : Nat) : Int) := by rw [i64_in (by omega) (by omega)]; simp
  have hobt := at_of hl hlt hwf x3
  obtain ⟨b, o, cs, q, x, hx, rfl, g1, g2, g3⟩ := hobt
  have hxo : x.w.bw < 18446744073709551616 := by rw [hx]; exact ho _ (List.getElem_mem hlt)
  have hok := ps3.ok.does x hxo
  simp [E0, E1, E5, E6, hlt, hlt', h80, h80', g1, g2, g3]
  refine CN.use (ps_does ps3 (Nat.le_refl _) x hxo) ?_
  rintro _ A4 hw4 hn4 ⟨ps4, sn4, ga, gc, rfl, -, -⟩
  have hobx : ∃ lst2, lst2 = (doesP m lst x).1 := ⟨_, rfl⟩
  obtain ⟨lst2, hlst2⟩ := hobx
  rw [← hlst2] at hok ps4
  have hlen2 := hok.len
  have x04 : Ext A A4 := fun b hb => by rw [sn4.low hb (by omega), x3 b hb]
  simp [E5]
  refine CN.use (ps_entries ps4) ?_
  rintro _ A5 hw5 hn5 ⟨x5, ea, ec, rfl, es5, -⟩
  simp
  refine CN.use (held_ok es5 (by omega) (fun y hy => (hok.ok y hy).2)) ?_
  rintro _ A6 hw6 hn6 ⟨x6, rfl⟩
  have x46 := x5.trans (by omega) x6
  simp [E5]
  refine CN.use (ps_ledger (ps4.ext hw4 x46)) ?_
  rintro _ A7 hw7 hn7 ⟨rfl, x7⟩
  have hobt := grp_ok hok.ok
  obtain ⟨ho1, ho2⟩ := hobt
  have hlw := ldg_wf ho1 hok.sz hok.fits
  have hlf := ldg_facts m (grp lst2) ho1
  have hhn : heldN lst2 = tot (grp lst2) := held_grp hok.srt
  have hfits := hok.fits
  have hn64 : tot (grp lst2) < 18446744073709551616 := by omega
  have hngt : ¬ m < tot (grp lst2) := by omega
  have hobx : ∃ Lx, Lx = ldg m (grp lst2) := ⟨_, rfl⟩
  obtain ⟨Lx, hLx⟩ := hobx
  rw [← hLx] at hlw hlf
  obtain ⟨hcap, hl8, hsum⟩ := hlf
  have hl9 : Lx.enc.length = 9 := by simp [Ld.enc, hl8]
  have ho9 : ∀ v ∈ Lx.enc, oneB v = true := List.all_eq_true.1 (by simp [Ld.enc])
  have ht9 : Lx.enc.take 9 = Lx.enc := List.take_of_length_le (by omega)
  have h0 : Lx.enc[0]'(by omega) = .int .u64 m := by rw [← hcap]; rfl
  have h8 : Lx.enc.tail.take 8 = Lx.held.map fun n : Nat => .int .u64 n := by simp [Ld.enc, List.take_of_length_le, hl8]
  have hz1 : spl [Value.int .u64 0, .int .u64 0, .int .u64 0, .int .u64 0, .int .u64 0, .int .u64 0, .int .u64 0, .int .u64 0, .int .u64 0] 0 [.int .u64 m] = [Value.int .u64 m, .int .u64 0, .int .u64 0, .int .u64 0, .int .u64 0, .int .u64 0, .int .u64 0, .int .u64 0, .int .u64 0] := rfl
  have hz2 : spl [Value.int .u64 m, .int .u64 0, .int .u64 0, .int .u64 0, .int .u64 0, .int .u64 0, .int .u64 0, .int .u64 0, .int .u64 0] 1 (Lx.held.map fun n : Nat => .int .u64 n) = Lx.enc := by
    unfold spl
    rw [List.drop_eq_nil_of_le (by simp [hl8])]
    simp [Ld.enc, hcap]
  have hz3 : spl [Value.int .u64 0, .int .u64 0, .int .u64 0, .int .u64 0, .int .u64 0, .int .u64 0, .int .u64 0, .int .u64 0] 0 (Lx.held.map fun n : Nat => .int .u64 n) = Lx.held.map fun n : Nat => .int .u64 n := by
    unfold spl
    rw [List.drop_eq_nil_of_le (by simp [hl8])]
    simp
  have hcons : Value.int .u64 m :: (Lx.held.map fun n : Nat => Value.int .u64 n) = Lx.enc := by rw [← hcap]; rfl
  have hsb : sumB Lx.held = (tot (grp lst2), true) := by unfold sumB; rw [if_pos (by omega), hsum]
  have hobx : ∃ A8, A8 = A7.alloc (.row Lx.enc 48 false) := ⟨_, rfl⟩
  obtain ⟨A8, hA8⟩ := hobx
  have w8 : A8.wf := by rw [hA8]; exact AH.wf_alloc hw7 _
  have n8 : A8.next = A7.next + 1 := by rw [hA8]; rfl
  have x78 : Ext A7 A8 := by rw [hA8]; exact Ext.alloc A7 _
  have r8 : A8.get A7.next = some (.row Lx.enc 48 false) := by rw [hA8, AH.get_new]
  have x48 := x46.trans (by omega) (x7.trans (by omega) x78)
  have es8 := es5.ext hw5 (x6.trans (by omega) (x7.trans (by omega) x78))
  simp only [← hLx]
  simp [hl9, ht9, ← hA8, r8, h0, h8, hz1, hz2, hz3, hl8, hcons]
  refine ⟨ho9, ?_⟩
  refine CN.use (rsum_ok Lx hlw A8) ?_
  rintro _ A9 hw9 hn9 ⟨rfl, x9⟩
  have es9 := es8.ext w8 x9
  have r9 := x9.get w8 r8
  have x49 := x48.trans (by omega) x9
  have h64 : ¬ (64 : Int) < lst2.length := by omega
  have hngt' : ¬ ((m : Nat) : Int) < (tot (grp lst2) : Nat) := by omega
  simp [hhn, hn64, hsb, E0, hngt, hngt', r9, h0, hl9, h64]
  refine LN.use (fun d E A' => ∃ (k : Nat), d + k = lst2.length + 1 ∧ 1 ≤ k ∧ Ext A9 A' ∧ A9.next ≤ A'.next ∧ E.get 0 = .int .u64 m ∧ E.get 1 = .slice (some ⟨b, o, none⟩) L.length c ∧ E.get 5 = .pointer (some ⟨tb, 0, none⟩) ∧ E.get 6 = .int .i64 i ∧ E.get 7 = .slice ea lst2.length ec ∧ E.get 13 = .int .i64 k) lst2.length
    ⟨1, by omega, Nat.le_refl _, Ext.refl _, Nat.le_refl _, by simp [E0], by simp [E1], by simp [E5], by simp [E6], by simp, by simp⟩ ?_
  clear E0 E1 E5 E6
  rintro d5 E B hwB hnB ⟨k, hk, hk1, xB, nB, E0, E1, E5, E6, E7, E13⟩
  have x4B := x49.trans (by omega) xB
  by_cases hkl : k < lst2.length
  · have hkl' : (k : Int) < lst2.length := by omega
    have hgk : IntKind.i64.wrap ((k : Int) + 1) = ((k + 1 : Nat) : Int) := by rw [i64_in (by omega) (by omega)]; simp
    obtain ⟨k', hk'⟩ : ∃ k', k = k' + 1 := ⟨k - 1, by omega⟩
    have hgk2 : IntKind.i64.wrap ((k : Int) - 1) = ((k' : Nat) : Int) := by rw [i64_in (by omega) (by omega)]; omega
    have esB := es9.ext hw9 xB
    have hobt := esB.at (i := k) (by simpa using hkl)
    obtain ⟨b1, o1, cs1, q1, hea, u1, u2, u3⟩ := hobt
    have hobt := esB.at (i := k') (by simp; omega)
    obtain ⟨b2, o2, cs2, q2, hea2, v1, v2, v3⟩ := hobt
    subst hea
    injection hea2 with hea2; injection hea2 with hb2 ho2 _; subst hb2; subst ho2
    rw [u1] at v1; injection v1 with v1; injection v1 with v1 _ _; subst v1
    rw [List.getElem_map] at u3 v3
    have u4 := at_key u3
    have v4 := at_key v3
    have hbf := hok.srt.lt (i := k') (j := k) (by omega) hkl
    have l1 : o1 + k * 10 + 4 ≤ cs1.length := by omega
    have l2 : o1 + k' * 10 + 4 ≤ cs1.length := by omega
    have hk'l : k' < lst2.length := by omega
    simp [E7, E13, hkl, hkl', hgk2, hk'l, u1, u4, v4, l1, l2]
    refine CN.use (rbefore_ok (lst2[k']'hk'l).k (lst2[k]'hkl).k B) ?_
    rintro _ C hwC hnC ⟨rfl, xC⟩
    simp [hbf, E13, hgk]
    exact NX.of ⟨d5 - 1, by omega, k + 1, by omega, by omega, xB.trans (by omega) xC, by omega, by simp [E0], by simp [E1], by simp [E5], by simp [E6], by simp [E7], by simp⟩
  · have hkl' : ¬ (k : Int) < lst2.length := by omega
    simp [E6, E7, E13, hkl, hkl', hgi]
    exact NX.of ⟨d - 1, by omega, i + 1, lst2, by omega, x04.trans (by omega) x4B, by omega, (ps4.ext hw4 x4B).wide (Nat.le_refl _) (by omega), by simp [E0], by simp [E1], by simp [E5], by simp⟩
end Go.Proofs.Ytieehccjajhpfaa.AC
