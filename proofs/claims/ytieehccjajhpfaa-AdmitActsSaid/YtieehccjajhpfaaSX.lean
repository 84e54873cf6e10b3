/-
  What the law does.
-/
import Derived.Test.YtieehccjajhpfaaCAL
import Derived.Test.YtieehccjajhpfaaS4
set_option linter.unusedSimpArgs false
set_option linter.unusedVariables false
/- The law AdmitActs. -/
namespace Go.Proofs.Ytieehccjajhpfaa.AC
open Go Go.AI Go.Proofs Go.Proofs.Ytieehccjajhpfaa.AQ
set_option linter.unusedVariables false
set_option linter.unusedSimpArgs false
theorem items_same {f : Nat → Option Bool} : ∀ (l : List Nat), (∀ i ∈ l, f i = some true) → aEqItems f l = some true
  | [], _ => rfl
  | i :: l, h => by
    simp only [aEqItems]
    rw [h i (by simp)]
    exact items_same l fun j hj => h j (by simp [hj])
theorem arr_neq {A : AH} (L : List Nat) (hL : L.length = 8) : aBin Try.prog A .neq 46 (.agg (L.map fun n : Nat => Value.int .u64 n).toArray) (.agg (L.map fun n : Nat => Value.int .u64 n).toArray) = some (.bool false) := by
  rw [aBin_neq_agg A _ _ _ (by kernel_rfl)]
  have : aEq Try.prog A 20 46 (.agg (L.map fun n : Nat => Value.int .u64 n).toArray) (.agg (L.map fun n : Nat => Value.int .u64 n).toArray) = some true := by
    unfold aEq
    rw [Try.underlying46]
    simp only []
    have hsz : szOf Try.prog 26 = some 1 := by kernel_rfl
    have hag : aggOf Try.prog 26 = some false := by kernel_rfl
    rw [hsz]
    simp only []
    refine items_same _ fun i hi => ?_
    rw [List.mem_range] at hi
    have hg : (L.map fun n : Nat => Value.int .u64 n)[i * 1]? = some (.int .u64 (L[i]'(by omega) : Nat)) := by rw [Nat.mul_one, List.getElem?_map, List.getElem?_eq_getElem (by omega)]; rfl
    simp only [aPart_eq, hsz, hag, partAt_one, List.toList_toArray, hg, Option.bind_some]
    rw [aEq_int (by kernel_rfl)]; simp
  rw [this]; rfl
theorem acts_eq {size : Nat} {l : List En} (a : At) : doesP size l a = if a.drop = true then ((dropP l a.k).1, [], (dropP l a.k).2) else admP size l a.k a.w := rfl
set_option maxHeartbeats 4000000 in
theorem admitActs_walk {A : AH} {m c : Nat} {a : Option Addr} {L : List At} (hm : m < 18446744073709551616) (hl : Sl A 35 12 a (L.map At.enc)) (ho : ActsOk L) : ACall Try.prog 4 [.int .u64 m, .slice a L.length c] A fun v A' => v = .bool true := by
  refine code4.call (by simp) fun hwf => ?_
  unfold c4
  simp
  refine CN.use (alive_ok A) ?_
  rintro _ A1 hw1 hn1 ⟨rfl, x1⟩
  simp
  refine CN.use (ps_new hm A1) ?_
  rintro _ A2 hw2 hn2 ⟨rfl, t2, x2⟩
  have x02 := x1.trans (by omega) x2
  simp
  have hobx : ∃ tb, tb = A1.next := ⟨_, rfl⟩
  obtain ⟨tb, htb⟩ := hobx
  rw [← htb] at t2
  have t2' := t2.now hw2
  refine LN.use (fun d E A' => ∃ (i : Nat) (lst : List En) (lv : Value), d + i = L.length ∧ Ext A A' ∧ A.next ≤ A'.next ∧ PS A.next A'.next A' tb m lst ∧ RdE A' lv lst ∧ E.get 0 = .int .u64 m ∧ E.get 1 = .slice a L.length c ∧ E.get 5 = .pointer (some ⟨tb, 0, none⟩) ∧ E.get 6 = lv ∧ E.get 7 = .int .i64 i) L.length
    ⟨0, [], _, by omega, x02, by omega, t2'.wide (by omega) (Nat.le_refl _), RdE.nil _, by simp, by simp, by simp [htb], by simp, by simp⟩ ?_
  rintro d E A3 hw3 hn3 ⟨i, lst, lv, hi, x3, n3, ps3, rd3, E0, E1, E5, E6, E7⟩
  by_cases hlt : i < L.length
  rotate_left
  · have hlt' : ¬ (i : Int) < L.length := by omega
    simp [E1, E7, hlt, hlt']
    exact DN.of rfl
  have hlt' : (i : Int) < L.length := by omega
  by_cases h80 : i < 80
  rotate_left
  · have h80' : ¬ (i : Int) < 80 := by omega
    simp [E1, E7, hlt, hlt', h80, h80']
    exact DN.of rfl
  have h80' : (i : Int) < 80 := by omega
  have hgi : IntKind.i64.wrap ((i : Int) + 1) = ((i + 1 : Nat) : Int) := by rw [i64_in (by omega) (by omega)]; simp
  have hobt := at_of hl hlt hwf x3
  obtain ⟨b, o, cs, q, x, hx, rfl, g1, g2, g3⟩ := hobt
  have hxo : x.w.bw < 18446744073709551616 := by rw [hx]; exact ho _ (List.getElem_mem hlt)
  have hobt := x.cells
  obtain ⟨c1, c2, c3, c4, c5, c6, c7⟩ := hobt
  have c8 : x.enc[0]'(by omega) = .bool x.drop := rfl
  have hobx : ∃ A4, A4 = A3.alloc (.row x.enc 35 false) := ⟨_, rfl⟩
  obtain ⟨A4, hA4⟩ := hobx
  have w4 : A4.wf := by rw [hA4]; exact AH.wf_alloc hw3 _
  have n4 : A4.next = A3.next + 1 := by rw [hA4]; rfl
  have x34 : Ext A3 A4 := by rw [hA4]; exact Ext.alloc A3 _
  have r4 : A4.get A3.next = some (.row x.enc 35 false) := by rw [hA4, AH.get_new]
  have ps4 := ps3.ext hw3 x34
  have rd4 := rd3.ext hw3 x34
  have hlen := ps3.ok.len
  -- what comes behind the calls
  have hok := ps3.ok.does x hxo
  simp [E0, E1, E5, E6, E7, hlt, hlt', h80, h80', g1, g2, g3, c1, c5, ← hA4, r4, c8]
  refine ⟨c2, ?_⟩
  have hbool := Bool.eq_false_or_eq_true x.drop
  rcases hbool with hd | hd
  · have hdp : doesP m lst x = ((dropP lst x.k).1, [], (dropP lst x.k).2) := by unfold doesP; rw [if_pos hd]
    rw [hdp] at hok
    simp [hd, r4, c1, c3, E0, E1, E5, E6, E7]
    refine CN.use (rdrop_ok rd4 (by omega) x.k) ?_
    rintro _ A5 hw5 hn5 ⟨x5, lv5, rfl, rd5⟩
    simp [E5, x5.get w4 r4, c1, c3]
    refine CN.use (ps_drop (ps4.ext w4 x5) (by omega) x.k) ?_
    rintro _ A6 hw6 hn6 ⟨ps6, sn6, rfl⟩
    have rd6 := sn6.rde hw5 rd5
    have x06 : Ext A A6 := fun b hb => by rw [sn6.low hb (by omega), x5 b (by omega), x34 b (by omega), x3 b hb]
    have hobx : ∃ lst2, lst2 = (dropP lst x.k).1 := ⟨_, rfl⟩
    obtain ⟨lst2, hlst2⟩ := hobx
    rw [← hlst2] at hok ps6 rd6
    have hlen2 := hok.len
    simp [E0, E1, E5, E6, E7]
    refine CN.use (ps_ledger ps6) ?_
    rintro _ A7 hw7 hn7 ⟨rfl, x7⟩
    have hobt := grp_ok hok.ok
    obtain ⟨ho1, ho2⟩ := hobt
    have hlw := ldg_wf ho1 hok.sz hok.fits
    have htt : tot (grp lst2) < 18446744073709551616 := by have := hok.fits; have := hok.sz; omega
    have hobx : ∃ Lx, Lx = ldg m (grp lst2) := ⟨_, rfl⟩
    obtain ⟨Lx, hLx⟩ := hobx
    have hl9 : Lx.enc.length = 9 := by rw [hLx]; simp [Ld.enc, hlw.1]
    have hl8 : Lx.held.length = 8 := by rw [hLx]; exact hlw.1
    have ho9 : ∀ v ∈ Lx.enc, oneB v = true := List.all_eq_true.1 (by simp [Ld.enc])
    have ht9 : Lx.enc.take 9 = Lx.enc := List.take_of_length_le (by omega)
    have h0 : Lx.enc[0]'(by omega) = .int .u64 Lx.cap := rfl
    have h8 : Lx.enc.tail.take 8 = Lx.held.map fun n : Nat => .int .u64 n := by simp [Ld.enc, List.take_of_length_le, hl8]
    have harr := fun A => arr_neq (A := A) Lx.held hl8
    have hobx : ∃ A8, A8 = A7.alloc (.row Lx.enc 48 false) := ⟨_, rfl⟩
    obtain ⟨A8, hA8⟩ := hobx
    have w8 : A8.wf := by rw [hA8]; exact AH.wf_alloc hw7 _
    have n8 : A8.next = A7.next + 1 := by rw [hA8]; rfl
    have x78 : Ext A7 A8 := by rw [hA8]; exact Ext.alloc A7 _
    have r8 : A8.get A7.next = some (.row Lx.enc 48 false) := by rw [hA8, AH.get_new]
    have x68 := x7.trans (by omega) x78
    have rd8 := rd6.ext hw6 x68
    obtain ⟨ra, rc, hlv, rs8, -⟩ := rd8
    subst hlv
    simp only [← hLx]
    simp [hl9, ht9, E0, E6, ← hA8]
    refine ⟨ho9, ?_⟩
    refine CN.use (rledger_ok rs8 (by omega) hm hok.ok) ?_
    rintro _ A9 hw9 hn9 ⟨x9, bl, hb8, rfl, hbl⟩
    have hbl2 := hbl htt
    rw [← hLx] at hbl2
    subst hbl2
    have hobx : ∃ B9, B9 = A9.alloc (.row bl.enc 50 false) := ⟨_, rfl⟩
    obtain ⟨B9, hB9⟩ := hobx
    have wB9 : B9.wf := by rw [hB9]; exact AH.wf_alloc hw9 _
    have nB9 : B9.next = A9.next + 1 := by rw [hB9]; rfl
    have xB9 : Ext A9 B9 := by rw [hB9]; exact Ext.alloc A9 _
    have sB9 : B9.get A9.next = some (.row bl.enc 50 false) := by rw [hB9, AH.get_new]
    have x8B := x9.trans (by omega) xB9
    have x6B := x68.trans (by omega) x8B
    have rB9 := x8B.get w8 r8
    have psB := ps6.ext hw6 x6B
    simp [htt, hl9, ht9, E5, E6, ← hB9]
    refine ⟨ho9, ?_⟩
    refine CN.use (ps_entries psB) ?_
    rintro _ C1 hv1 hm1 ⟨y1, ea, ec, rfl, es1, -⟩
    simp
    refine CN.use (ours_ok es1 (by omega)) ?_
    rintro ov C2 hv2 hm2 ⟨y2, rdo⟩
    have y12 := y1.trans (by omega) y2
    have x6C := x6B.trans (by omega) y12
    have rdC := rd6.ext hw6 x6C
    have rC := y12.get wB9 rB9
    have sC := y12.get wB9 sB9
    simp [E6]
    refine CN.use (same_ok rdo rdC (by omega)) ?_
    rintro _ C3 hv3 hm3 ⟨rfl, rfl⟩
    simp [rC, sC, hl9, h0, h8, harr, E7, hgi]
    exact NX.of ⟨d - 1, by omega, i + 1, lst2, _, by omega, x06.trans (by omega) x6C, by omega, (ps6.ext hw6 x6C).wide (Nat.le_refl _) (by omega), rdC, by simp [E0], by simp [E1], by simp [E5], by simp, by simp⟩
  · have hdp : doesP m lst x = admP m lst x.k x.w := by unfold doesP; rw [if_neg (by rw [hd]; simp)]
    rw [hdp] at hok
    simp [hd, r4, c1, c3, c4, E0, E1, E5, E6, E7]
    refine CN.use (ps_admit ps4 (by omega) x.k x.w hxo) ?_
    rintro _ A5 hw5 hn5 ⟨ps5, sn5, ga, gc, rfl, gs5⟩
    have rd5 := sn5.rde w4 rd4
    have r5 : A5.get A3.next = some (.row x.enc 35 false) := by rw [sn5.high (Nat.le_refl _) (by omega), r4]
    have x05 : Ext A A5 := fun b hb => by rw [sn5.low hb (by omega), x34 b (by omega), x3 b hb]
    simp [E0, E6, r5, c1, c3, c4]
    refine CN.use (radmit_ok rd5 ps3.ok x.k x.w hxo) ?_
    rintro _ A6 hw6 hn6 ⟨x6, lv6, gv6, rfl, rd6, rk6⟩
    have x06 := x05.trans (by omega) x6
    have ps6 := ps5.ext hw5 x6
    have hgl : (admP m lst x.k x.w).2.1.length ≤ 1000 := by
      unfold admP
      split
      · simp
      · split
        · simp
        · split
          · simp
          · split
            · simp
            · exact Nat.le_trans (by unfold goneK; rw [List.length_map]; exact List.length_filter_le _ _) (show lst.length ≤ 1000 by omega)
    simp
    refine CN.use (keys_ok ⟨ga, gc, rfl, gs5.ext hw5 x6⟩ rk6 hgl) ?_
    rintro _ A6' hw6' hn6' ⟨rfl, rfl⟩
    have hobx : ∃ lst2, lst2 = (admP m lst x.k x.w).1 := ⟨_, rfl⟩
    obtain ⟨lst2, hlst2⟩ := hobx
    rw [← hlst2] at hok ps6 rd6
    have hlen2 := hok.len
    simp [E0, E1, E5, E6, E7]
    refine CN.use (ps_ledger ps6) ?_
    rintro _ A7 hw7 hn7 ⟨rfl, x7⟩
    have hobt := grp_ok hok.ok
    obtain ⟨ho1, ho2⟩ := hobt
    have hlw := ldg_wf ho1 hok.sz hok.fits
    have htt : tot (grp lst2) < 18446744073709551616 := by have := hok.fits; have := hok.sz; omega
    have hobx : ∃ Lx, Lx = ldg m (grp lst2) := ⟨_, rfl⟩
    obtain ⟨Lx, hLx⟩ := hobx
    have hl9 : Lx.enc.length = 9 := by rw [hLx]; simp [Ld.enc, hlw.1]
    have hl8 : Lx.held.length = 8 := by rw [hLx]; exact hlw.1
    have ho9 : ∀ v ∈ Lx.enc, oneB v = true := List.all_eq_true.1 (by simp [Ld.enc])
    have ht9 : Lx.enc.take 9 = Lx.enc := List.take_of_length_le (by omega)
    have h0 : Lx.enc[0]'(by omega) = .int .u64 Lx.cap := rfl
    have h8 : Lx.enc.tail.take 8 = Lx.held.map fun n : Nat => .int .u64 n := by simp [Ld.enc, List.take_of_length_le, hl8]
    have harr := fun A => arr_neq (A := A) Lx.held hl8
    have hobx : ∃ A8, A8 = A7.alloc (.row Lx.enc 48 false) := ⟨_, rfl⟩
    obtain ⟨A8, hA8⟩ := hobx
    have w8 : A8.wf := by rw [hA8]; exact AH.wf_alloc hw7 _
    have n8 : A8.next = A7.next + 1 := by rw [hA8]; rfl
    have x78 : Ext A7 A8 := by rw [hA8]; exact Ext.alloc A7 _
    have r8 : A8.get A7.next = some (.row Lx.enc 48 false) := by rw [hA8, AH.get_new]
    have x68 := x7.trans (by omega) x78
    have rd8 := rd6.ext hw6 x68
    obtain ⟨ra, rc, hlv, rs8, -⟩ := rd8
    subst hlv
    simp only [← hLx]
    simp [hl9, ht9, E0, E6, ← hA8]
    refine ⟨ho9, ?_⟩
    refine CN.use (rledger_ok rs8 (by omega) hm hok.ok) ?_
    rintro _ A9 hw9 hn9 ⟨x9, bl, hb8, rfl, hbl⟩
    have hbl2 := hbl htt
    rw [← hLx] at hbl2
    subst hbl2
    have hobx : ∃ B9, B9 = A9.alloc (.row bl.enc 50 false) := ⟨_, rfl⟩
    obtain ⟨B9, hB9⟩ := hobx
    have wB9 : B9.wf := by rw [hB9]; exact AH.wf_alloc hw9 _
    have nB9 : B9.next = A9.next + 1 := by rw [hB9]; rfl
    have xB9 : Ext A9 B9 := by rw [hB9]; exact Ext.alloc A9 _
    have sB9 : B9.get A9.next = some (.row bl.enc 50 false) := by rw [hB9, AH.get_new]
    have x8B := x9.trans (by omega) xB9
    have x6B := x68.trans (by omega) x8B
    have rB9 := x8B.get w8 r8
    have psB := ps6.ext hw6 x6B
    simp [htt, hl9, ht9, E5, E6, ← hB9]
    refine ⟨ho9, ?_⟩
    refine CN.use (ps_entries psB) ?_
    rintro _ C1 hv1 hm1 ⟨y1, ea, ec, rfl, es1, -⟩
    simp
    refine CN.use (ours_ok es1 (by omega)) ?_
    rintro ov C2 hv2 hm2 ⟨y2, rdo⟩
    have y12 := y1.trans (by omega) y2
    have x6C := x6B.trans (by omega) y12
    have rdC := rd6.ext hw6 x6C
    have rC := y12.get wB9 rB9
    have sC := y12.get wB9 sB9
    simp [E6]
    refine CN.use (same_ok rdo rdC (by omega)) ?_
    rintro _ C3 hv3 hm3 ⟨rfl, rfl⟩
    simp [rC, sC, hl9, h0, h8, harr, E7, hgi]
    exact NX.of ⟨d - 1, by omega, i + 1, lst2, _, by omega, x06.trans (by omega) x6C, by omega, (ps6.ext hw6 x6C).wide (Nat.le_refl _) (by omega), rdC, by simp [E0], by simp [E1], by simp [E5], by simp, by simp⟩
end Go.Proofs.Ytieehccjajhpfaa.AC
