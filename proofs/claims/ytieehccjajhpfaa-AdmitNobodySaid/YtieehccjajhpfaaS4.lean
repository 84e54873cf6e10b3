/-
  What the functions of the program, and those of the law, do.
-/
import Derived.Test.YtieehccjajhpfaaS3
import Derived.Test.YtieehccjajhpfaaP3
set_option linter.unusedSimpArgs false
set_option linter.unusedVariables false
/- The reference: Admit, Drop. -/
namespace Go.Proofs.Ytieehccjajhpfaa.AC
open Go Go.AI Go.Proofs Go.Proofs.Ytieehccjajhpfaa.AQ
set_option linter.unusedVariables false
set_option linter.unusedSimpArgs false
def TyOk (A : AH) (a : Option Addr) (T : TypeId) : Prop := ∀ b o, a = some ⟨b, o, none⟩ → ∃ cs ro, A.get b = some (.row cs T ro)
theorem TyOk.ext {A A' : AH} {a : Option Addr} {T : TypeId} (h : TyOk A a T) (hw : A.wf) (hx : Ext A A') : TyOk A' a T := fun b o e => by
  have hobt := h b o e
  obtain ⟨cs, ro, h⟩ := hobt
  exact ⟨cs, ro, hx.get hw h⟩
def RdE (A : AH) (v : Value) (l : List En) : Prop := ∃ a c, v = .slice a l.length c ∧ Sl A 78 10 a (l.map En.enc) ∧ TyOk A a 78
def RdK (A : AH) (v : Value) (l : List Key) : Prop := ∃ a c, v = .slice a l.length c ∧ Sl A 23 4 a (l.map Key.enc)
theorem RdE.ext {A A' : AH} {v : Value} {l : List En} (h : RdE A v l) (hw : A.wf) (hx : Ext A A') : RdE A' v l := by
  obtain ⟨a, c, h1, h2, h3⟩ := h
  exact ⟨a, c, h1, h2.ext hw hx, h3.ext hw hx⟩
theorem RdE.kept {A A' : AH} {v : Value} {l : List En} (h : RdE A v l) (hk : ∀ b cs ro, A.get b = some (.row cs 78 ro) → A'.get b = A.get b) : RdE A' v l := by
  obtain ⟨a, c, h1, h2, h3⟩ := h
  refine ⟨a, c, h1, h2.kept fun b o x e hx => ?_, fun b o e => ?_⟩
  · obtain ⟨cs, ro, g⟩ := h3 b o e
    exact hk b cs ro g
  · obtain ⟨cs, ro, g⟩ := h3 b o e
    exact ⟨cs, ro, (hk b cs ro g).trans g⟩
theorem own_ty {n0 : Nat} {A : AH} {e : TypeId} {z : Nat} {v : Value} {L : List (List Value)} (h : Own n0 A e z v L) {a : Option Addr} {n c : Nat} (hv : v = .slice a n c) : TyOk A a e := fun b o hb => by
  rcases h.2 with ⟨h1, _⟩ | ⟨b', h1, _, h3⟩
  · rw [hv] at h1; injection h1 with h1; rw [h1] at hb; cases hb
  · rw [hv] at h1; injection h1 with h1; rw [h1] at hb; injection hb with hb; injection hb with hb; subst hb; exact ⟨_, _, h3⟩
theorem RdK.ext {A A' : AH} {v : Value} {l : List Key} (h : RdK A v l) (hw : A.wf) (hx : Ext A A') : RdK A' v l := by
  obtain ⟨a, c, h1, h2⟩ := h
  exact ⟨a, c, h1, h2.ext hw hx⟩
theorem RdK.nil (A : AH) : RdK A (.slice none 0 0) [] := ⟨none, 0, rfl, Sl.nil Pla.no _ _ _⟩
theorem RdE.nil (A : AH) : RdE A (.slice none 0 0) [] := ⟨none, 0, rfl, Sl.nil Pla.no _ _ _, fun b o e => by cases e⟩
theorem own_rde {n0 : Nat} {A : AH} {v : Value} {l : List En} (h : Own n0 A 78 10 v (l.map En.enc)) : RdE A v l := by
  have hobt := own_slm h
  obtain ⟨a, c, h1, h2, -, -⟩ := hobt
  exact ⟨a, c, h1, h2, own_ty h h1⟩
theorem own_rdk {n0 : Nat} {A : AH} {v : Value} {l : List Key} (h : Own n0 A 23 4 v (l.map Key.enc)) : RdK A v l := by
  have hobt := own_slm h
  obtain ⟨a, c, h1, h2, -, -⟩ := hobt
  exact ⟨a, c, h1, h2⟩
theorem take_filter {α : Type} {p : α → Bool} {l : List α} {i : Nat} (hi : i < l.length) : (l.take (i + 1)).filter p = (l.take i).filter p ++ if p l[i] = true then [l[i]] else [] := by
  rw [List.take_succ_eq_append_getElem hi, List.filter_append, List.filter_cons]
  split <;> simp
theorem rdrop_ok {A : AH} {v : Value} {l : List En} (h : RdE A v l) (hn : l.length ≤ 1000) (k : Key) : ACall Try.prog 17 [v, .agg k.enc.toArray] A fun r A' => Ext A A' ∧ ∃ lv, r = .tuple #[lv, .int .i64 (dropP l k).2] ∧ RdE A' lv (dropP l k).1 := by
  obtain ⟨a, c, rfl, hs, hty⟩ := h
  refine ACall.wf fun hwf => ?_
  have x1 := Ext.alloc A (.row k.enc 23 false)
  have r1 := AH.get_new A (.row k.enc 23 false)
  have w1 := AH.wf_alloc hwf (.row k.enc 23 false)
  refine code17.call (by simp) fun hwf => ?_
  unfold c17
  simp
  refine CN.use (rhas_ok (hs.ext hwf x1) hn k) ?_
  rintro _ A2 hw2 hn2 ⟨rfl, x2⟩
  have x02 := x1.trans (by simp) x2
  have r2 := x2.get w1 r1
  have hbool := Bool.eq_false_or_eq_true (hasK l k)
  rcases hbool with hk | hk
  rotate_left
  · have hd : dropP l k = (l, 8) := by unfold dropP; rw [if_neg (by rw [hk]; simp)]
    simp [hk]
    rw [hd]
    exact DN.of ⟨x02, _, rfl, a, c, rfl, hs.ext hwf x02, hty.ext hwf x02⟩
  · have hd : dropP l k = (l.filter (fun y => decide (y.k ≠ k)), 0) := by unfold dropP; rw [if_pos hk]
    simp only [AH.next_alloc] at hn2
    simp [hk]
    refine LN.use (fun m E A' => ∃ (i : Nat) (v : Value), m + i = l.length ∧ Ext A A' ∧ A.next + 1 ≤ A'.next ∧ A'.get A.next = some (.row k.enc 23 false) ∧ Own (A.next + 1) A' 78 10 v (((l.take i).filter (fun y => decide (y.k ≠ k))).map En.enc) ∧ E.get 0 = .slice a l.length c ∧ E.get 3 = .pointer (some ⟨A.next, 0, none⟩) ∧ E.get 6 = v ∧ E.get 7 = .int .i64 i) l.length
      ⟨0, _, by omega, x02, by omega, r2, by simpa using Own.nil _ _ _ _, by simp, by simp, by simp, by simp⟩ ?_
    rintro m E A3 hw3 hn3 ⟨i, v, hi, x3, n3, r3, ow, E0, E3, E6, E7⟩
    by_cases hlt : i < l.length
    rotate_left
    · have hlt' : ¬ (i : Int) < l.length := by omega
      rw [List.take_of_length_le (by omega)] at ow
      simp [E0, E3, E6, E7, hlt, hlt']
      rw [hd]
      exact DN.of ⟨x3, _, rfl, own_rde ow⟩
    have hlt' : (i : Int) < l.length := by omega
    have hgi : IntKind.i64.wrap ((i : Int) + 1) = ((i + 1 : Nat) : Int) := by rw [i64_in (by omega) (by omega)]; simp
    have htf := take_filter (p := fun y : En => decide (y.k ≠ k)) hlt
    have hobt := (hs.ext hwf x3).at (i := i) (by simpa using hlt)
    obtain ⟨b, o, cs, q, rfl, g1, g2, g3⟩ := hobt
    rw [List.getElem_map] at g3
    have hobx : ∃ y, y = l[i]'hlt := ⟨_, rfl⟩
    obtain ⟨y, hy⟩ := hobx
    rw [← hy] at g3 htf
    have g4 := at_key g3
    have g2' : o + i * 10 + 4 ≤ cs.length := by omega
    by_cases e : y.k = k
    · simp [e] at htf
      simp [E0, E3, E6, E7, hlt, hlt', g1, g2', g4, r3, e, hgi]
      exact NX.of ⟨m - 1, by omega, i + 1, v, by omega, x3, n3, r3, by simpa [htf] using ow, by simp [E0], by simp [E3], by simp [E6], by simp⟩
    · obtain ⟨hyl, hyo, -, -, hyt⟩ := y.cells
      have hfl := List.length_filter_le (fun y : En => decide (y.k ≠ k)) (l.take i)
      rw [List.length_take] at hfl
      have hobt := en_push (x := y) ow hw3 n3 (by omega)
      obtain ⟨v4, A4, p1, p2, p3, p4, p5⟩ := hobt
      rw [if_pos (by simpa using e)] at htf
      simp [E0, E3, E6, E7, hlt, hlt', g1, g2', g2, g3, g4, r3, e, hgi, hyl, hyt, p1]
      exact NX.of ⟨m - 1, by omega, i + 1, v4, by omega, fun b hb => by rw [p4 b (by omega), x3 b hb], by omega, by rw [p4 _ (by omega)]; exact r3, by rw [htf]; exact p2, by simp [E0], by simp [E3], by simp, by simp⟩
theorem EnOk.ins {l : List En} {x : En} (h : ∀ y ∈ l, EnOk y) (hx : EnOk x) : ∀ y ∈ insE l x, EnOk y := fun y hy => by
  rcases (insE_mem _ _ _).1 hy with e | hy
  · rw [e]; exact hx
  · exact h y hy
set_option maxHeartbeats 4000000 in
theorem radmit_ok {A : AH} {v : Value} {size : Nat} {l : List En} (hR : RdE A v l) (h : TOk size l) (k : Key) (w : Wt) (hbw : w.bw < 18446744073709551616) :
    ACall Try.prog 20 [.int .u64 size, v, .agg k.enc.toArray, .agg w.enc.toArray] A fun r A' => Ext A A' ∧ ∃ lv gv, r = .tuple #[lv, gv, .int .i64 (admP size l k w).2.2] ∧ RdE A' lv (admP size l k w).1 ∧ RdK A' gv (admP size l k w).2.1 := by
  have hlen := h.len
  obtain ⟨a, c, rfl, hs, hty⟩ := hR
  refine ACall.wf fun hwf => ?_
  have hobx : ∃ A1, A1 = (A.alloc (.row k.enc 23 false)).alloc (.row w.enc 33 false) := ⟨_, rfl⟩
  obtain ⟨A1, hA1⟩ := hobx
  have w1 : A1.wf := by rw [hA1]; exact AH.wf_alloc (AH.wf_alloc hwf _) _
  have n1 : A1.next = A.next + 2 := by rw [hA1]; rfl
  have x1 : Ext A A1 := by rw [hA1]; exact (Ext.alloc A _).app (by simp) _
  have k1 : A1.get A.next = some (.row k.enc 23 false) := by rw [hA1, AH.get_alloc, if_neg (by simp), AH.get_new]
  have r1 : A1.get (A.next + 1) = some (.row w.enc 33 false) := by rw [hA1, AH.get_alloc, if_pos (by simp)]
  have s1 := hs.ext hwf x1
  have hwl : w.enc.length = 6 := rfl
  have hwt : w.enc.take 6 = w.enc := rfl
  have hwo : w.enc.all oneB = true := rfl
  have hbr := Bool.eq_false_or_eq_true (rightB w)
  rcases hbr with hr | hr
  rotate_left
  · have hadm : admP size l k w = (l, [], 2) := by unfold admP; rw [if_pos hr]
    refine code20.call (by simp) fun hwf => ?_
    unfold c20
    simp [hwl, hwt, ← hA1, r1]
    refine CN.use (rright_ok w _) ?_
    rintro _ A3 hw3 hn3 ⟨rfl, x3⟩
    simp [hr]
    rw [hadm]
    have x03 := x1.trans (by omega) x3
    exact DN.of ⟨x03, _, _, rfl, ⟨a, c, rfl, hs.ext hwf x03, hty.ext hwf x03⟩, RdK.nil _⟩
  by_cases hk : hasK l k = true
  · have hadm : admP size l k w = (l, [], 9) := by unfold admP; rw [if_neg (by rw [hr]; simp), if_pos hk]
    refine code20.call (by simp) fun hwf => ?_
    unfold c20
    simp [hwl, hwt, ← hA1, r1]
    refine CN.use (rright_ok w _) ?_
    rintro _ A3 hw3 hn3 ⟨rfl, x3⟩
    simp [hr, x3.get w1 k1]
    refine CN.use (rhas_ok (s1.ext w1 x3) (by omega) k) ?_
    rintro _ A4 hw4 hn4 ⟨rfl, x4⟩
    simp [hk]
    rw [hadm]
    have x04 := x1.trans (by omega) (x3.trans (by omega) x4)
    exact DN.of ⟨x04, _, _, rfl, ⟨a, c, rfl, hs.ext hwf x04, hty.ext hwf x04⟩, RdK.nil _⟩
  by_cases hl : 64 ≤ l.length
  · have hadm : admP size l k w = (l, [], 7) := by unfold admP; rw [if_neg (by rw [hr]; simp), if_neg hk, if_pos hl]
    have hl' : (64 : Int) ≤ l.length := by omega
    refine code20.call (by simp) fun hwf => ?_
    unfold c20
    simp [hwl, hwt, ← hA1, r1]
    refine CN.use (rright_ok w _) ?_
    rintro _ A3 hw3 hn3 ⟨rfl, x3⟩
    simp [hr, x3.get w1 k1]
    refine CN.use (rhas_ok (s1.ext w1 x3) (by omega) k) ?_
    rintro _ A4 hw4 hn4 ⟨rfl, x4⟩
    simp [hk, hl']
    rw [hadm]
    have x04 := x1.trans (by omega) (x3.trans (by omega) x4)
    exact DN.of ⟨x04, _, _, rfl, ⟨a, c, rfl, hs.ext hwf x04, hty.ext hwf x04⟩, RdK.nil _⟩
  have hadN : adm size k w.setup ⟨k, w⟩ l = none → admP size l k w = (l, [], 14) := fun e => by unfold admP; rw [if_neg (by rw [hr]; simp), if_neg hk, if_neg hl, e]
  have hadS : ∀ now, adm size k w.setup ⟨k, w⟩ l = some now → admP size l k w = (insE now ⟨k, w⟩, goneK l now, 0) := fun now e => by unfold admP; rw [if_neg (by rw [hr]; simp), if_neg hk, if_neg hl, e]
  have hl' : ¬ (64 : Int) ≤ l.length := by omega
  have hz1 : (spl [Value.int .i64 0, .int .i64 0, .int .i64 0, .int .i64 0, .int .u64 0, .int .i64 0, .int .i64 0, .int .u32 0, .int .u32 0, .int .u32 0] 0 k.enc).length = 10 := rfl
  have hobx : ∃ x : En, x = ⟨k, w⟩ := ⟨_, rfl⟩
  obtain ⟨x, hx⟩ := hobx
  have hxk : x.k = k := by rw [hx]
  have hxw : x.w = w := by rw [hx]
  have hxo : EnOk x := ⟨by rw [hxw]; exact hr, by rw [hxw]; exact hbw⟩
  rw [← hx] at hadN hadS
  have hz2 : spl (spl [Value.int .i64 0, .int .i64 0, .int .i64 0, .int .i64 0, .int .u64 0, .int .i64 0, .int .i64 0, .int .u32 0, .int .u32 0, .int .u32 0] 0 k.enc) 4 w.enc = x.enc := by rw [hx]; rfl
  have hobt := x.cells
  obtain ⟨hxl, hxo1, -, -, hxt⟩ := hobt
  have hk' := hk
  simp at hk'
  refine code20.call (by simp) fun hwf => ?_
  unfold c20
  simp [hwl, hwt, ← hA1, r1]
  refine CN.use (rright_ok w _) ?_
  rintro _ A3 hw3 hn3 ⟨rfl, x3⟩
  have k3 := x3.get w1 k1
  have r3 := x3.get w1 r1
  simp [hr, k3]
  refine CN.use (rhas_ok (s1.ext w1 x3) (by omega) k) ?_
  rintro _ A4 hw4 hn4 ⟨rfl, x4⟩
  have k4 := x4.get hw3 k3
  have r4 := x4.get hw3 r3
  have x04 := x1.trans (by omega) (x3.trans (by omega) x4)
  simp [hk', hl']
  refine LN.use (fun m E A' => ∃ (now : List En) (nv : Value), m = now.length ∧ now.Sublist l ∧ adm size k w.setup x l = adm size k w.setup x now ∧ Ext A A' ∧ A.next + 2 ≤ A'.next ∧ A'.get A.next = some (.row k.enc 23 false) ∧ A'.get (A.next + 1) = some (.row w.enc 33 false) ∧ RdE A' nv now ∧ E.get 0 = .int .u64 size ∧ E.get 1 = .slice a l.length c ∧ E.get 6 = .pointer (some ⟨A.next, 0, none⟩) ∧ E.get 7 = .pointer (some ⟨A.next + 1, 0, none⟩) ∧ E.get 11 = nv) l.length
    ⟨l, _, rfl, List.Sublist.refl _, rfl, x04, by omega, k4, r4, ⟨a, c, rfl, hs.ext hwf x04, hty.ext hwf x04⟩, by simp, by simp, by simp, by simp, by simp⟩ ?_
  rintro m E A5 hw5 hn5 ⟨now, nv, rfl, hsub, hadeq, x5, n5, k5, r5, rd5, E0, E1, E6, E7, E11⟩
  have hnl := hsub.length_le
  have hns : SrtE now := h.srt.sublist hsub
  obtain ⟨na, nc, rfl, ns, -⟩ := rd5
  simp [E0, E1, E6, E7, E11, k5, r5, hwl, hwt, hz1, hz2, hxl, hxt]
  refine CN.use (rwith_ok ns (by omega) x) ?_
  rintro wv A6 hw6 hn6 ⟨ow6, x6⟩
  have hobt := own_slm ow6
  obtain ⟨wa, wc, rfl, ws6, -, -⟩ := hobt
  have hil := insE_len now x
  simp [E0]
  refine CN.use (rfits_ok ws6 (by omega) h.sz (EnOk.ins (fun y hy => h.ok y (hsub.subset hy)) hxo)) ?_
  rintro _ A7 hw7 hn7 ⟨rfl, x7⟩
  have x57 := x6.trans (by omega) x7
  have x07 := x5.trans (by omega) x57
  have k7 := x57.get hw5 k5
  have r7 := x57.get hw5 r5
  have ns7 := ns.ext hw5 x57
  have hae := adm_eq size k w.setup x now
  by_cases hfit : tot (grp (insE now x)) ≤ size
  · rw [if_pos hfit, ← hadeq] at hae
    have hadm := hadS now hae
    simp [hfit]
    refine LN.use (fun m E A' => ∃ (i : Nat) (gv : Value), m + i = l.length ∧ Ext A A' ∧ A7.next ≤ A'.next ∧ (∀ b, b < A7.next → A'.get b = A7.get b) ∧ Own A7.next A' 23 4 gv ((goneK (l.take i) now).map Key.enc) ∧ E.get 1 = .slice a l.length c ∧ E.get 6 = .pointer (some ⟨A.next, 0, none⟩) ∧ E.get 7 = .pointer (some ⟨A.next + 1, 0, none⟩) ∧ E.get 11 = .slice na now.length nc ∧ E.get 16 = gv ∧ E.get 17 = .int .i64 i) l.length
      ⟨0, _, by omega, x07, Nat.le_refl _, fun _ _ => rfl, by simpa [goneK] using Own.nil _ _ _ _, by simp [E1], by simp [E6], by simp [E7], by simp [E11], by simp, by simp⟩ ?_
    clear E0 E1 E6 E7 E11
    rintro m E A8 hw8 hn8 ⟨i, gv, hi, x8, n8, e8, og, E1, E6, E7, E11, E16, E17⟩
    have x78 : Ext A7 A8 := e8
    by_cases hlt : i < l.length
    · have hlt' : (i : Int) < l.length := by omega
      have hgi : IntKind.i64.wrap ((i : Int) + 1) = ((i + 1 : Nat) : Int) := by rw [i64_in (by omega) (by omega)]; simp
      have htf := take_filter (p := fun y : En => !hasK now y.k) hlt
      have hobt := (hs.ext hwf x8).at (i := i) (by simpa using hlt)
      obtain ⟨b, o, cs, q, rfl, g1, g2, g3⟩ := hobt
      rw [List.getElem_map] at g3
      have hobx : ∃ y, y = l[i]'hlt := ⟨_, rfl⟩
      obtain ⟨y, hy⟩ := hobx
      rw [← hy] at g3 htf
      have g4 := at_key g3
      have g2' : o + i * 10 + 4 ≤ cs.length := by omega
      simp [E1, E6, E7, E11, E16, E17, hlt, hlt', g1, g2', g4]
      refine CN.use (rhas_ok (ns7.ext hw7 x78) (by omega) y.k) ?_
      rintro _ A9 hw9 hn9 ⟨rfl, x9⟩
      have e9 : ∀ b, b < A7.next → A9.get b = A7.get b := fun b hb => by rw [x9 b (by omega), e8 b hb]
      have hbool := Bool.eq_false_or_eq_true (hasK now y.k)
      rcases hbool with hy1 | hy1
      · rw [hy1] at htf
        simp at htf
        simp [hy1, E17, hgi]
        exact NX.of ⟨m - 1, by omega, i + 1, gv, by omega, x8.trans (by omega) x9, by omega, e9, by rw [goneK, htf]; exact og.ext hw8 x9, by simp [E1], by simp [E6], by simp [E7], by simp [E11], by simp [E16], by simp⟩
      · rw [hy1, if_pos (show (!false) = true from rfl)] at htf
        have hgl : (goneK (l.take i) now).length ≤ l.length := by
          unfold goneK
          rw [List.length_map]
          have := List.length_filter_le (fun y : En => !hasK now y.k) (l.take i)
          rw [List.length_take] at this; omega
        have hobt := own_push (y := 32) (og.ext hw8 x9) hw9 (by omega) (r := y.k.enc) ⟨rfl, rfl⟩ (by omega) (by omega) (by rw [List.length_map]; omega)
        obtain ⟨v10, A10, p1, p2, p3, p4⟩ := hobt
        have g19 := x9.get hw8 g1
        simp [hy1, E1, E16, E17, hgi, hlt, hlt', g19, g2', g4, p1]
        exact NX.of ⟨m - 1, by omega, i + 1, v10, by omega, fun b hb => by rw [p4 b (by omega), x9 b (by omega), x8 b hb], by omega, fun b hb => by rw [p4 b hb, e9 b hb], by rw [goneK, htf, List.map_append, List.map_append]; exact p2, by simp [E1], by simp [E6], by simp [E7], by simp [E11], by simp, by simp⟩
    · have hlt' : ¬ (i : Int) < l.length := by omega
      rw [List.take_of_length_le (by omega)] at og
      have k8 := x78.get hw7 k7
      have r8 := x78.get hw7 r7
      simp [E1, E6, E7, E11, E16, E17, hlt, hlt', k8, r8, hwl, hwt, hz1, hz2, hxl, hxt]
      refine CN.use (rwith_ok (ns7.ext hw7 x78) (by omega) x) ?_
      rintro wv9 A9 hw9 hn9 ⟨ow9, x9⟩
      simp
      rw [hadm]
      exact DN.of ⟨x8.trans (by omega) x9, _, _, rfl, own_rde ow9, by rw [E16]; exact (own_rdk og).ext hw8 x9⟩
  · rw [if_neg hfit] at hae
    have hw1' : w.enc[1]'(by rw [hwl]; omega) = .int .i64 w.setup := rfl
    simp [hfit, E1, E6, E7, E11, k7, r7, hwl, hw1']
    refine CN.use (rvictim_ok ns7 (by omega) k w.setup) ?_
    rintro _ A8 hw8 hn8 ⟨rfl, x8⟩
    have x08 := x07.trans (by omega) x8
    have hbc : bst (List.filter (candB k w.setup) (grp now)) = none ∨ ∃ f, bst (List.filter (candB k w.setup) (grp now)) = some f := by cases bst (List.filter (candB k w.setup) (grp now)) with
      | none => exact Or.inl rfl
      | some f => exact Or.inr ⟨f, rfl⟩
    rcases hbc with hB | ⟨f, hB⟩
    · rw [hB] at hae
      have hadm := hadN (by rw [hadeq, hae])
      have n6 := famO_len none
      obtain ⟨nl, no, nt⟩ := n6
      simp [hB, nl, nt, E1]
      refine ⟨no, ?_⟩
      rw [hadm]
      have x09 : Ext A (A8.alloc (.row (famO none) 99 false)) := x08.app (by omega) _
      exact DN.of ⟨x09, _, _, rfl, ⟨a, c, rfl, hs.ext hwf x09, hty.ext hwf x09⟩, RdK.nil _⟩
    · rw [hB] at hae
      have hx2 : adm size k w.setup x now = adm size k w.setup x (rmv now f) := hae
      have hlt2 := rmv_lt hB
      have hobt := famE_facts f
      obtain ⟨fl, fo, ft, f6, -, -⟩ := hobt
      have hfe : famO (some f) = famE f := rfl
      have hobx : ∃ B8, B8 = A8.alloc (.row (famE f) 99 false) := ⟨_, rfl⟩
      obtain ⟨B8, hB8⟩ := hobx
      have wB8 : B8.wf := by rw [hB8]; exact AH.wf_alloc hw8 _
      have nB8 : B8.next = A8.next + 1 := by rw [hB8]; rfl
      have xB8 : Ext A8 B8 := by rw [hB8]; exact Ext.alloc A8 _
      have fB8 : B8.get A8.next = some (.row (famE f) 99 false) := by rw [hB8, AH.get_new]
      have x78 := x8.trans (by omega) xB8
      simp [hB, hfe, fl, f6, ← hB8]
      refine ⟨fo, ?_⟩
      refine LN.use (fun m E A' => ∃ (i : Nat) (v : Value), m + i = now.length ∧ B8.next ≤ A'.next ∧ (∀ b, b < B8.next → A'.get b = B8.get b) ∧ Own B8.next A' 78 10 v (((now.take i).filter fun y => !y.k.kin (gkey f)).map En.enc) ∧ E.get 0 = .int .u64 size ∧ E.get 1 = .slice a l.length c ∧ E.get 6 = .pointer (some ⟨A.next, 0, none⟩) ∧ E.get 7 = .pointer (some ⟨A.next + 1, 0, none⟩) ∧ E.get 11 = .slice na now.length nc ∧ E.get 12 = .pointer (some ⟨A8.next, 0, none⟩) ∧ E.get 14 = v ∧ E.get 15 = .int .i64 i) now.length
        ⟨0, _, by omega, Nat.le_refl _, fun _ _ => rfl, by simpa using Own.nil _ _ _ _, by simp [E0], by simp [E1], by simp [E6], by simp [E7], by simp [E11], by simp, by simp, by simp⟩ ?_
      clear E0 E1 E6 E7 E11
      rintro m E A9 hw9 hn9 ⟨i, gv, hi, n9, e9, og, E0, E1, E6, E7, E11, E12, E14, E15⟩
      have x9 : Ext B8 A9 := e9
      have x79 := x78.trans (by omega) x9
      have x09 := x07.trans (by omega) x79
      by_cases hlt : i < now.length
      · have hlt' : (i : Int) < now.length := by omega
        have hgi : IntKind.i64.wrap ((i : Int) + 1) = ((i + 1 : Nat) : Int) := by rw [i64_in (by omega) (by omega)]; simp
        have htf := take_filter (p := fun y : En => !y.k.kin (gkey f)) hlt
        have hobt := (ns7.ext hw7 x79).at (i := i) (by simpa using hlt)
        obtain ⟨b, o, cs, q, rfl, g1, g2, g3⟩ := hobt
        rw [List.getElem_map] at g3
        have hobx : ∃ y, y = now[i]'hlt := ⟨_, rfl⟩
        obtain ⟨y, hy⟩ := hobx
        rw [← hy] at g3 htf
        have g4 := at_key g3
        have g2' : o + i * 10 + 4 ≤ cs.length := by omega
        have f9 := x9.get wB8 fB8
        simp [E1, E6, E7, E11, E12, E14, E15, hlt, hlt', g1, g2', g4, f9, fl, ft]
        refine CN.use (rkin_ok y.k (gkey f) _) ?_
        rintro _ A10 hw10 hn10 ⟨rfl, x10⟩
        have e10 : ∀ b, b < B8.next → A10.get b = B8.get b := fun b hb => by rw [x10 b (by omega), e9 b hb]
        have hbool := Bool.eq_false_or_eq_true (y.k.kin (gkey f))
        rcases hbool with hy1 | hy1
        · rw [hy1] at htf
          simp at htf
          simp [hy1, E15, hgi]
          exact NX.of ⟨m - 1, by omega, i + 1, gv, by omega, by omega, e10, by rw [htf]; exact og.ext hw9 x10, by simp [E0], by simp [E1], by simp [E6], by simp [E7], by simp [E11], by simp [E12], by simp [E14], by simp⟩
        · rw [hy1] at htf
          have hobt := y.cells
          obtain ⟨hyl, hyo, -, -, hyt⟩ := hobt
          have hfl := List.length_filter_le (fun y : En => !y.k.kin (gkey f)) (now.take i)
          rw [List.length_take] at hfl
          have hobt := en_push (x := y) (og.ext hw9 x10) hw10 (by omega) (by omega)
          obtain ⟨v11, A11, p1, p2, p3, p4, p5⟩ := hobt
          have g1' := x10.get hw9 g1
          simp [hy1, E11, E14, E15, hgi, hlt, hlt', g1', g2, g3, hyl, hyt, p1]
          refine NX.of ⟨m - 1, by omega, i + 1, v11, by omega, by omega, fun b hb => by rw [p4 b hb, e10 b hb], ?_, by simp [E0], by simp [E1], by simp [E6], by simp [E7], by simp [E11], by simp [E12], by simp, by simp⟩
          rw [htf]; exact p2
      · have hlt' : ¬ (i : Int) < now.length := by omega
        rw [List.take_of_length_le (by omega)] at og
        simp [E11, E14, E15, hlt, hlt']
        exact NX.of ⟨(rmv now f).length, by omega, rmv now f, gv, rfl, List.filter_sublist.trans hsub, by rw [hadeq, hx2], x09, by omega, x79.get hw7 k7, x79.get hw7 r7, own_rde og, by simp [E0], by simp [E1], by simp [E6], by simp [E7], by simp⟩
theorem en_aEq (A : AH) (x y : En) : aEq Try.prog A 20 78 (.agg x.enc.toArray) (.agg y.enc.toArray) = some (decide (x = y)) := by
  rcases x with ⟨⟨a1, a2, a3, a4⟩, ⟨b1, b2, b3, b4, b5, b6⟩⟩
  rcases y with ⟨⟨c1, c2, c3, c4⟩, ⟨d1, d2, d3, d4, d5, d6⟩⟩
  simp [En.enc, Key.enc, Wt.enc]
  grind
@[simp high] theorem en_neq (A : AH) (x y : En) : aBin Try.prog A .neq 78 (.agg x.enc.toArray) (.agg y.enc.toArray) = some (.bool (!decide (x = y))) := by
  rw [aBin_neq_agg A _ _ _ eg78, en_aEq]; rfl
theorem ours_ok {A : AH} {a : Option Addr} {c : Nat} {l : List En} (h : Sl A 63 10 a (l.map En.enc)) (hn : l.length ≤ 1000) : ACall Try.prog 25 [.slice a l.length c] A fun v A' => Ext A A' ∧ RdE A' v l := by
  refine code25.call (by simp) fun hwf => ?_
  unfold c25
  simp
  refine LN.use (fun m E A' => ∃ (i : Nat) (v : Value), m + i = l.length ∧ Ext A A' ∧ A.next ≤ A'.next ∧ Own A.next A' 78 10 v ((l.take i).map En.enc) ∧ E.get 3 = v ∧ E.get 6 = .slice a l.length c ∧ E.get 7 = .int .i64 l.length ∧ E.get 8 = .int .i64 i) l.length
    ⟨0, _, by omega, Ext.refl A, Nat.le_refl _, by simpa using Own.nil _ _ _ _, by simp, by simp, by simp, by simp⟩ ?_
  rintro m E A1 hw1 hn1 ⟨i, v, hi, x1, n1, ow, E3, E6, E7, E8⟩
  by_cases hlt : i < l.length
  · have hlt' : (i : Int) < l.length := by omega
    have hgi : IntKind.i64.wrap ((i : Int) + 1) = ((i + 1 : Nat) : Int) := by rw [i64_in (by omega) (by omega)]; simp
    have hobt := (h.ext hwf x1).at (i := i) (by simpa using hlt)
    obtain ⟨b, o, cs, q, rfl, g1, g2, g3⟩ := hobt
    rw [List.getElem_map] at g3
    have hobx : ∃ y, y = l[i]'hlt := ⟨_, rfl⟩
    obtain ⟨y, hy⟩ := hobx
    rw [← hy] at g3
    have hobt := y.cells
    obtain ⟨hyl, hyo, hy4, hy6, hyt⟩ := hobt
    have hz1 : (spl [Value.int .i64 0, .int .i64 0, .int .i64 0, .int .i64 0, .int .u64 0, .int .i64 0, .int .i64 0, .int .u32 0, .int .u32 0, .int .u32 0] 0 y.k.enc).length = 10 := rfl
    have hz2 : spl (spl [Value.int .i64 0, .int .i64 0, .int .i64 0, .int .i64 0, .int .u64 0, .int .i64 0, .int .i64 0, .int .u32 0, .int .u32 0, .int .u32 0] 0 y.k.enc) 4 y.w.enc = y.enc := rfl
    have hwl : y.w.enc.length = 6 := rfl
    have hwt : y.w.enc.take 6 = y.w.enc := rfl
    have hobx : ∃ A2, A2 = A1.alloc (.row y.enc 63 false) := ⟨_, rfl⟩
    obtain ⟨A2, hA2⟩ := hobx
    have w2 : A2.wf := by rw [hA2]; exact AH.wf_alloc hw1 _
    have n2 : A2.next = A1.next + 1 := by rw [hA2]; rfl
    have x12 : Ext A1 A2 := by rw [hA2]; exact Ext.alloc A1 _
    have r2 : A2.get A1.next = some (.row y.enc 63 false) := by rw [hA2, AH.get_new]
    have hobt := en_push (x := y) (ow.ext hw1 x12) w2 (by omega) (by rw [List.length_take]; omega)
    obtain ⟨v3, A3, p1, p2, p3, p4, p5⟩ := hobt
    simp [E3, E6, E7, E8, hlt, hlt', g1, g2, g3, hyl, hyt, ← hA2, r2, hy4, hy6, hz1, hz2, hwl, hwt, p1, hgi]
    refine ⟨hyo, ?_⟩
    exact NX.of ⟨m - 1, by omega, i + 1, v3, by omega, fun b hb => by rw [p4 b hb, x12 b (by omega), x1 b hb], by omega, by rw [List.take_succ_eq_append_getElem hlt, ← hy]; exact p2, by simp, by simp [E6], by simp [E7], by simp⟩
  · have hlt' : ¬ (i : Int) < l.length := by omega
    rw [List.take_of_length_le (by omega)] at ow
    simp [E3, E7, E8, hlt, hlt']
    exact DN.of ⟨x1, own_rde ow⟩
theorem same_ok {A : AH} {v1 v2 : Value} {l1 l2 : List En} (h1 : RdE A v1 l1) (h2 : RdE A v2 l2) (hn : l1.length ≤ 1000) : ACall Try.prog 24 [v1, v2] A fun v A' => v = .bool (decide (l1 = l2)) ∧ A' = A := by
  obtain ⟨a1, c1, rfl, s1, -⟩ := h1
  obtain ⟨a2, c2, rfl, s2, -⟩ := h2
  by_cases hl : l1.length = l2.length
  rotate_left
  · have hne : ¬ l1 = l2 := fun e => hl (by rw [e])
    have hl' : ¬ (l1.length : Int) = l2.length := by omega
    refine code24.call (by simp) fun hwf => ?_
    unfold c24
    simp [hl, hl']
    exact DN.of ⟨by rw [decide_eq_false hne], rfl⟩
  refine code24.call (by simp) fun hwf => ?_
  unfold c24
  simp [hl]
  refine LN.use (fun m E A' => ∃ i : Nat, m + i = l1.length ∧ A' = A ∧ l1.take i = l2.take i ∧ E.get 0 = .slice a1 l1.length c1 ∧ E.get 1 = .slice a2 l1.length c2 ∧ E.get 12 = .int .i64 l1.length ∧ E.get 13 = .int .i64 i) l1.length
    ⟨0, by omega, rfl, by simp, by simp [hl], by simp [hl], by simp [hl], by simp⟩ ?_
  rintro m E A1 hw1 hn1 ⟨i, hi, rfl, ht, E0, E1, E12, E13⟩
  by_cases hlt : i < l1.length
  · have hlt' : (i : Int) < l1.length := by omega
    have hgi : IntKind.i64.wrap ((i : Int) + 1) = ((i + 1 : Nat) : Int) := by rw [i64_in (by omega) (by omega)]; simp
    have hobt := s1.at (i := i) (by simpa using hlt)
    obtain ⟨b, o, cs, q, rfl, g1, g2, g3⟩ := hobt
    have hobt := s2.at (i := i) (by simpa [← hl] using hlt)
    obtain ⟨b', o', cs', q', rfl, k1, k2, k3⟩ := hobt
    rw [List.getElem_map] at g3 k3
    have hobx : ∃ x, x = l1[i]'hlt := ⟨_, rfl⟩
    obtain ⟨x, hx⟩ := hobx
    have hobx : ∃ y, y = l2[i]'(by omega) := ⟨_, rfl⟩
    obtain ⟨y, hy⟩ := hobx
    rw [← hx] at g3
    rw [← hy] at k3
    by_cases e : x = y
    · simp [E0, E1, E12, E13, hlt, hlt', g1, g2, g3, k1, k2, k3, e, hgi]
      exact NX.of ⟨m - 1, by omega, i + 1, by omega, rfl, by rw [List.take_succ_eq_append_getElem hlt, List.take_succ_eq_append_getElem (by omega), ht, ← hx, ← hy, e], by simp [E0], by simp [E1], by simp [E12], by simp⟩
    · have hne : ¬ l1 = l2 := fun e2 => e (by rw [hx, hy]; simp [e2])
      simp [E0, E1, E12, E13, hlt, hlt', g1, g2, g3, k1, k2, k3, e]
      exact DN.of ⟨by rw [decide_eq_false hne], rfl⟩
  · have hlt' : ¬ (i : Int) < l1.length := by omega
    rw [List.take_of_length_le (by omega), List.take_of_length_le (by omega)] at ht
    simp [E12, E13, hlt']
    exact DN.of ⟨by rw [decide_eq_true ht], rfl⟩
theorem keys_ok {A : AH} {v1 v2 : Value} {l1 l2 : List Key} (h1 : RdK A v1 l1) (h2 : RdK A v2 l2) (hn : l1.length ≤ 1000) : ACall Try.prog 21 [v1, v2] A fun v A' => v = .bool (decide (l1 = l2)) ∧ A' = A := by
  obtain ⟨a1, c1, rfl, s1⟩ := h1
  obtain ⟨a2, c2, rfl, s2⟩ := h2
  by_cases hl : l1.length = l2.length
  rotate_left
  · have hne : ¬ l1 = l2 := fun e => hl (by rw [e])
    have hl' : ¬ (l1.length : Int) = l2.length := by omega
    refine code21.call (by simp) fun hwf => ?_
    unfold c21
    simp [hl, hl']
    exact DN.of ⟨by rw [decide_eq_false hne], rfl⟩
  refine code21.call (by simp) fun hwf => ?_
  unfold c21
  simp [hl]
  refine LN.use (fun m E A' => ∃ i : Nat, m + i = l1.length ∧ A' = A ∧ l1.take i = l2.take i ∧ E.get 0 = .slice a1 l1.length c1 ∧ E.get 1 = .slice a2 l1.length c2 ∧ E.get 12 = .int .i64 l1.length ∧ E.get 13 = .int .i64 i) l1.length
    ⟨0, by omega, rfl, by simp, by simp [hl], by simp [hl], by simp [hl], by simp⟩ ?_
  rintro m E A1 hw1 hn1 ⟨i, hi, rfl, ht, E0, E1, E12, E13⟩
  by_cases hlt : i < l1.length
  · have hlt' : (i : Int) < l1.length := by omega
    have hgi : IntKind.i64.wrap ((i : Int) + 1) = ((i + 1 : Nat) : Int) := by rw [i64_in (by omega) (by omega)]; simp
    have hobt := s1.at (i := i) (by simpa using hlt)
    obtain ⟨b, o, cs, q, rfl, g1, g2, g3⟩ := hobt
    have hobt := s2.at (i := i) (by simpa [← hl] using hlt)
    obtain ⟨b', o', cs', q', rfl, k1, k2, k3⟩ := hobt
    rw [List.getElem_map] at g3 k3
    have hobx : ∃ x, x = l1[i]'hlt := ⟨_, rfl⟩
    obtain ⟨x, hx⟩ := hobx
    have hobx : ∃ y, y = l2[i]'(by omega) := ⟨_, rfl⟩
    obtain ⟨y, hy⟩ := hobx
    rw [← hx] at g3
    rw [← hy] at k3
    by_cases e : x = y
    · simp [E0, E1, E12, E13, hlt, hlt', g1, g2, g3, k1, k2, k3, e, hgi]
      exact NX.of ⟨m - 1, by omega, i + 1, by omega, rfl, by rw [List.take_succ_eq_append_getElem hlt, List.take_succ_eq_append_getElem (by omega), ht, ← hx, ← hy, e], by simp [E0], by simp [E1], by simp [E12], by simp⟩
    · have hne : ¬ l1 = l2 := fun e2 => e (by rw [hx, hy]; simp [e2])
      simp [E0, E1, E12, E13, hlt, hlt', g1, g2, g3, k1, k2, k3, e]
      exact DN.of ⟨by rw [decide_eq_false hne], rfl⟩
  · have hlt' : ¬ (i : Int) < l1.length := by omega
    rw [List.take_of_length_le (by omega), List.take_of_length_le (by omega)] at ht
    simp [E12, E13, hlt']
    exact DN.of ⟨by rw [decide_eq_true ht], rfl⟩
def hF (L : List En) : List En → List En → Nat
  | _, [] => 0
  | pre, x :: t => (if pre.any (fun y => x.k.kin y.k) = true then 0 else bwG (L.filter fun y => x.k.kin y.k)) + hF L (pre ++ [x]) t
theorem hF_snoc (L : List En) (x : En) : ∀ (l pre : List En), hF L pre (l ++ [x]) = hF L pre l + if (pre ++ l).any (fun y => x.k.kin y.k) = true then 0 else bwG (L.filter fun y => x.k.kin y.k)
  | [], pre => by simp [hF]
  | y :: l, pre => by
    simp only [List.cons_append, hF, hF_snoc L x l (pre ++ [y])]
    rw [List.append_assoc, List.singleton_append]
    omega
def heldN (l : List En) : Nat := hF l [] l
theorem bw_mem {g : List En} {x : En} (hx : x ∈ g) : x.w.bw ≤ bwG g := by
  induction g using snoc_ind with
  | h0 => cases hx
  | h1 g y ih =>
    rw [bwG_snoc]
    rcases List.mem_append.1 hx with hx | hx
    · exact Nat.le_trans (ih hx) (Nat.le_max_left _ _)
    · obtain rfl : x = y := by simpa using hx
      exact Nat.le_max_right _ _
theorem bw_sub {g h : List En} (hs : ∀ x ∈ g, x ∈ h) : bwG g ≤ bwG h := bwG_le fun x hx => bw_mem (hs x hx)
theorem bw_perm {g h : List En} (hp : g.Perm h) : bwG g = bwG h := Nat.le_antisymm (bw_sub fun x hx => hp.subset hx) (bw_sub fun x hx => hp.symm.subset hx)
theorem hF_kin (L : List En) (κ : Key) (l : List En) : hF L [] l = (if l.any (fun y => y.k.kin κ) = true then bwG (L.filter fun y => y.k.kin κ) else 0) + hF L [] (l.filter fun y => !y.k.kin κ) := by
  induction l using snoc_ind with
  | h0 => simp [hF]
  | h1 l x ih =>
    rw [hF_snoc, ih, List.filter_append, List.filter_cons, List.any_append]
    cases hx : x.k.kin κ with
    | true =>
      have e1 : (fun y : En => x.k.kin y.k) = fun y => y.k.kin κ := by
        funext y; rw [kin_comm, kin_cong' hx]
      simp only [e1, hx]
      simp [hx]
      split <;> omega
    | false =>
      have e2 : (l.filter fun y => !y.k.kin κ).any (fun y => x.k.kin y.k) = l.any (fun y => x.k.kin y.k) := by
        rw [Bool.eq_iff_iff, List.any_eq_true, List.any_eq_true]
        constructor
        · rintro ⟨y, hy, h⟩; exact ⟨y, (List.mem_filter.1 hy).1, h⟩
        · rintro ⟨y, hy, h⟩
          refine ⟨y, List.mem_filter.2 ⟨hy, ?_⟩, h⟩
          have : y.k.kin κ = false := by rw [← kin_cong h κ, hx]
          simp [this]
      simp only [hx, Bool.not_false, if_true, List.filter_nil, hF_snoc, List.nil_append, e2]
      simp [hx]
      omega
theorem hF_rest (L : List En) (κ : Key) (l : List En) (h : ∀ x ∈ l, x.k.kin κ = false) : hF L [] l = hF (L.filter fun y => !y.k.kin κ) [] l := by
  induction l using snoc_ind with
  | h0 => rfl
  | h1 l x ih =>
    rw [hF_snoc, hF_snoc, ih fun y hy => h y (by simp [hy])]
    congr 2
    rw [List.filter_filter]
    congr 1
    apply List.filter_congr
    intro y hy
    cases hxy : x.k.kin y.k with
    | false => rfl
    | true =>
      have := h x (by simp)
      rw [kin_cong hxy] at this
      simp [this]
theorem held_split (l : List En) (κ : Key) : heldN l = bwG (l.filter fun y => y.k.kin κ) + heldN (l.filter fun y => !y.k.kin κ) := by
  unfold heldN
  rw [hF_kin l κ l, hF_rest l κ (l.filter fun y => !y.k.kin κ) (fun x hx => by simpa using (List.mem_filter.1 hx).2)]
  congr 1
  split
  · rfl
  · rename_i hn
    have : (l.filter fun y => y.k.kin κ) = [] := List.filter_eq_nil_iff.2 fun y hy h => hn (List.any_eq_true.2 ⟨y, hy, h⟩)
    rw [this]; rfl
theorem held_tot : ∀ {gs : List (List En)} {l : List En}, GG gs → l.Perm gs.flatten → heldN l = tot gs
  | [], l, _, hp => by rw [hp.eq_nil]; rfl
  | g :: gs, l, hg, hp => by
    have hc := List.pairwise_cons.1 hg.apart
    have hg' : GG gs := ⟨fun a ha => hg.ne a (by simp [ha]), fun a ha => hg.kin a (by simp [ha]), hc.2⟩
    have hgk := hg.kin g (by simp)
    rw [held_split l (gkey g)]
    have h1 : ((g :: gs).flatten.filter fun y => y.k.kin (gkey g)) = g := by
      rw [List.flatten_cons, List.filter_append, List.filter_eq_self.2, List.filter_eq_nil_iff.2, List.append_nil]
      · intro y hy h
        have hobt := List.mem_flatten.1 hy
        obtain ⟨a, ha, hy⟩ := hobt
        have h2 := hc.1 a ha
        have h3 := hg'.kin a ha y hy
        rw [kin_comm, ← kin_cong' h3, h2] at h; cases h
      · intro y hy; rw [kin_comm]; exact hgk y hy
    have h2 : ((g :: gs).flatten.filter fun y => !y.k.kin (gkey g)) = gs.flatten := by
      rw [List.flatten_cons, List.filter_append, List.filter_eq_nil_iff.2, List.nil_append, List.filter_eq_self.2]
      · intro y hy
        have hobt := List.mem_flatten.1 hy
        obtain ⟨a, ha, hy⟩ := hobt
        have h2 := hc.1 a ha
        have h3 := hg'.kin a ha y hy
        rw [kin_comm, ← kin_cong' h3, h2]; rfl
      · intro y hy; rw [kin_comm, hgk y hy]; simp
    have p1 := hp.filter fun y => y.k.kin (gkey g)
    have p2 := hp.filter fun y => !y.k.kin (gkey g)
    rw [h1] at p1
    rw [h2] at p2
    rw [bw_perm p1, held_tot hg' p2]
    simp [tot]
theorem held_grp {l : List En} (hs : SrtE l) : heldN l = tot (grp l) := held_tot (grp_gg hs) (by rw [grp_flat])
theorem insE_perm (l : List En) (x : En) : (insE l x).Perm (x :: l) := by
  unfold insE
  refine List.perm_middle.trans ?_
  rw [List.takeWhile_append_dropWhile]
theorem held_perm {l m : List En} (hs : SrtE m) (hp : l.Perm m) : heldN l = tot (grp m) := held_tot (grp_gg hs) (by rw [grp_flat]; exact hp)
def heldV (n : Nat) : Value := .tuple #[.int .u64 ((addP n 0).1 : Nat), .bool (addP n 0).2]
theorem hF_le (L : List En) : ∀ (l pre : List En) (i : Nat), hF L pre (l.take i) ≤ hF L pre l := by
  intro l
  induction l with
  | nil => intro pre i; simp
  | cons x l ih =>
    intro pre i
    cases i with
    | zero => simp [hF]
    | succ i => simp only [List.take_succ_cons, hF]; have := ih (pre ++ [x]) i; omega
set_option maxHeartbeats 2000000 in
theorem held_ok {A : AH} {a : Option Addr} {c : Nat} {l : List En} (h : Sl A 63 10 a (l.map En.enc)) (hn : l.length ≤ 1000) (hb : ∀ x ∈ l, x.w.bw < 18446744073709551616) : ACall Try.prog 28 [.slice a l.length c] A fun v A' => Ext A A' ∧ v = .tuple #[.int .u64 ((if heldN l < 18446744073709551616 then heldN l else 0 : Nat) : Int), .bool (decide (heldN l < 18446744073709551616))] := by
  refine code28.call (by simp) fun hwf => ?_
  unfold c28
  simp
  refine LN.use (fun m E A' => ∃ (i : Nat), m + i = l.length ∧ Ext A A' ∧ A.next ≤ A'.next ∧ hF l [] (l.take i) < 18446744073709551616 ∧ E.get 0 = .slice a l.length c ∧ E.get 4 = .int .u64 (hF l [] (l.take i) : Nat) ∧ E.get 13 = .slice a l.length c ∧ E.get 14 = .int .i64 l.length ∧ E.get 15 = .int .i64 i) l.length
    ⟨0, by omega, Ext.refl A, Nat.le_refl _, by simp [hF], by simp, by simp [hF], by simp, by simp, by simp⟩ ?_
  rintro m E A1 hw1 hn1 ⟨i, hi, x1, n1, hs, E0, E4, E13, E14, E15⟩
  by_cases hlt : i < l.length
  rotate_left
  · have hlt' : ¬ (i : Int) < l.length := by omega
    rw [List.take_of_length_le (by omega)] at hs E4
    simp [E4, E14, E15, hlt, hlt']
    refine DN.of ⟨x1, ?_⟩
    have hs' : heldN l < 18446744073709551616 := hs
    rw [if_pos hs', decide_eq_true hs']; rfl
  have hlt' : (i : Int) < l.length := by omega
  have hgi : IntKind.i64.wrap ((i : Int) + 1) = ((i + 1 : Nat) : Int) := by rw [i64_in (by omega) (by omega)]; simp
  have hobt := (h.ext hwf x1).at (i := i) (by simpa using hlt)
  obtain ⟨b, o, cs, q, rfl, g1, g2, g3⟩ := hobt
  rw [List.getElem_map] at g3
  have hobx : ∃ x, x = l[i]'hlt := ⟨_, rfl⟩
  obtain ⟨x, hx⟩ := hobx
  have hxm : x ∈ l := by rw [hx]; exact List.getElem_mem hlt
  rw [← hx] at g3
  have hobt := x.cells
  obtain ⟨hxl, hxo, hx4, -, hxt⟩ := hobt
  have y4 : x.enc[4]'(by omega) = .int .u64 x.w.bw := rfl
  have hobx : ∃ A2, A2 = A1.alloc (.row x.enc 63 false) := ⟨_, rfl⟩
  obtain ⟨A2, hA2⟩ := hobx
  have w2 : A2.wf := by rw [hA2]; exact AH.wf_alloc hw1 _
  have n2 : A2.next = A1.next + 1 := by rw [hA2]; rfl
  have x12 : Ext A1 A2 := by rw [hA2]; exact Ext.alloc A1 _
  have r2 : A2.get A1.next = some (.row x.enc 63 false) := by rw [hA2, AH.get_new]
  have hsn : hF l [] (l.take (i + 1)) = hF l [] (l.take i) + if (l.take i).any (fun y => x.k.kin y.k) = true then 0 else bwG (l.filter fun y => x.k.kin y.k) := by
    rw [List.take_succ_eq_append_getElem hlt, ← hx, hF_snoc]; simp
  simp [E0, E4, E13, E14, E15, hlt, hlt', g1, g2, g3, hxl, hxt, ← hA2, r2, y4]
  refine ⟨hxo, ?_⟩
  refine LN.use (fun m E A' => ∃ (j : Nat), m + j = l.length ∧ Ext A2 A' ∧ A2.next ≤ A'.next ∧ E.get 0 = .slice (some ⟨b, o, none⟩) l.length c ∧ E.get 4 = .int .u64 (hF l [] (l.take i) : Nat) ∧ E.get 5 = .int .i64 i ∧ E.get 6 = .pointer (some ⟨A1.next, 0, none⟩) ∧ E.get 7 = .int .u64 ((max x.w.bw (bwG ((l.take j).filter fun y => x.k.kin y.k)) : Nat) : Int) ∧ E.get 8 = .bool (!(l.take (min j i)).any fun y => x.k.kin y.k) ∧ E.get 13 = .slice (some ⟨b, o, none⟩) l.length c ∧ E.get 14 = .int .i64 l.length ∧ E.get 15 = .int .i64 i ∧ E.get 23 = .slice (some ⟨b, o, none⟩) l.length c ∧ E.get 24 = .int .i64 l.length ∧ E.get 25 = .int .i64 j) l.length
    ⟨0, by omega, Ext.refl _, Nat.le_refl _, by simp [E0], by simp [E4], by simp, by simp, by simp [bwG], by simp, by simp [E13], by simp [E14], by simp [E15], by simp, by simp, by simp⟩ ?_
  clear E0 E4 E13 E14 E15
  rintro m5 E A3 hw3 hn3 ⟨j, hj, x3, n3, E0, E4, E5, E6, E7, E8, E13, E14, E15, E23, E24, E25⟩
  have x13 := x12.trans (by omega) x3
  have x03 := x1.trans (by omega) x13
  have r3 := x3.get w2 r2
  by_cases hjl : j < l.length
  · have hjl' : (j : Int) < l.length := by omega
    have hgj : IntKind.i64.wrap ((j : Int) + 1) = ((j + 1 : Nat) : Int) := by rw [i64_in (by omega) (by omega)]; simp
    have hobt := (h.ext hwf x03).at (i := j) (by simpa using hjl)
    obtain ⟨b', o', cs', q', hbb, k1, k2, k3⟩ := hobt
    injection hbb with hbb; injection hbb with hb1 ho1; subst hb1; subst ho1
    rw [List.getElem_map] at k3
    have hobx : ∃ y, y = l[j]'hjl := ⟨_, rfl⟩
    obtain ⟨y, hy⟩ := hobx
    rw [← hy] at k3
    have hobt := y.cells
    obtain ⟨hyl, hyo, hy4, -, hyt⟩ := hobt
    have z4 : y.enc[4]'(by omega) = .int .u64 y.w.bw := rfl
    have hobx : ∃ A4, A4 = A3.alloc (.row y.enc 63 false) := ⟨_, rfl⟩
    obtain ⟨A4, hA4⟩ := hobx
    have w4 : A4.wf := by rw [hA4]; exact AH.wf_alloc hw3 _
    have n4 : A4.next = A3.next + 1 := by rw [hA4]; rfl
    have x34 : Ext A3 A4 := by rw [hA4]; exact Ext.alloc A3 _
    have r4 := x34.get hw3 r3
    have s4 : A4.get A3.next = some (.row y.enc 63 false) := by rw [hA4, AH.get_new]
    have htf := take_filter (p := fun y : En => x.k.kin y.k) hjl
    rw [← hy] at htf
    simp [E0, E4, E5, E6, E7, E8, E13, E14, E15, E23, E24, E25, hjl, hjl', k1, k2, k3, hyl, hyt, ← hA4, r4, s4, hxl, hx4, hy4]
    refine ⟨hyo, ?_⟩
    refine CN.use (rkin_ok x.k y.k A4) ?_
    rintro _ A5 hw5 hn5 ⟨rfl, x5⟩
    have x25 := x3.trans (by omega) (x34.trans (by omega) x5)
    have s5 := x5.get w4 s4
    have hbool := Bool.eq_false_or_eq_true (x.k.kin y.k)
    rcases hbool with hk | hk
    · rw [hk, if_pos rfl] at htf
      have hobx : ∃ mx : Nat, mx = max x.w.bw (bwG ((l.take j).filter fun y => x.k.kin y.k)) := ⟨_, rfl⟩
      obtain ⟨mx, hmx⟩ := hobx
      have hmx2 : max x.w.bw (bwG ((l.take (j + 1)).filter fun y => x.k.kin y.k)) = max mx y.w.bw := by
        rw [htf, bwG_snoc, hmx, Nat.max_assoc]
      have hif : (if mx < y.w.bw then ((y.w.bw : Nat) : Int) else (mx : Nat)) = ((max mx y.w.bw : Nat) : Int) := by
        split
        · rw [Nat.max_eq_right (by omega)]
        · rw [Nat.max_eq_left (by omega)]
      rw [← hmx] at E7
      have hobx : ∃ fr : Bool, fr = !(l.take (min j i)).any fun y => x.k.kin y.k := ⟨_, rfl⟩
      obtain ⟨fr, hfr⟩ := hobx
      rw [← hfr] at E8
      have hfr2 : (!(l.take (min (j + 1) i)).any fun y => x.k.kin y.k) = (fr && decide (i ≤ j)) := by
        by_cases hij : i ≤ j
        · rw [Nat.min_eq_right (by omega)]; rw [Nat.min_eq_right (by omega)] at hfr; rw [hfr]; simp [hij]
        · rw [Nat.min_eq_left (by omega), List.take_succ_eq_append_getElem hjl, List.any_append, ← hy]
          simp [hk, hij]
      have hle : ((i : Int) ≤ j) = (i ≤ j) := by apply propext; omega
      have hbf := Bool.eq_false_or_eq_true fr
      rcases hbf with hf | hf
      · rw [hf] at E8 hfr2
        simp [hk, E5, E7, E8, E25, s5, hyl, z4, hif, hgj]
        refine NX.of ⟨m5 - 1, by omega, j + 1, by omega, x25, by omega, by simp [E0], by simp [E4], by simp [E5], by simp [E6], by rw [hmx2]; simp, by rw [hfr2]; simp, by simp [E13], by simp [E14], by simp [E15], by simp [E23], by simp [E24], by simp⟩
      · rw [hf] at E8 hfr2
        simp [hk, E5, E7, E8, E25, s5, hyl, z4, hif, hgj]
        refine NX.of ⟨m5 - 1, by omega, j + 1, by omega, x25, by omega, by simp [E0], by simp [E4], by simp [E5], by simp [E6], by rw [hmx2]; simp, by rw [hfr2]; simp, by simp [E13], by simp [E14], by simp [E15], by simp [E23], by simp [E24], by simp⟩
    · rw [hk] at htf
      simp at htf
      have hfr2 : (l.take (min (j + 1) i)).any (fun y => x.k.kin y.k) = (l.take (min j i)).any (fun y => x.k.kin y.k) := by
        by_cases hij : i ≤ j
        · rw [Nat.min_eq_right (by omega), Nat.min_eq_right (by omega)]
        · rw [Nat.min_eq_left (by omega), Nat.min_eq_left (by omega), List.take_succ_eq_append_getElem hjl, List.any_append, ← hy]
          simp [hk]
      simp [hk, E25, hgj]
      exact NX.of ⟨m5 - 1, by omega, j + 1, by omega, x25, by omega, by simp [E0], by simp [E4], by simp [E5], by simp [E6], by simp [E7, htf], by simp [E8, hfr2], by simp [E13], by simp [E14], by simp [E15], by simp [E23], by simp [E24], by simp⟩
  · have hjl' : ¬ (j : Int) < l.length := by omega
    rw [Nat.min_eq_right (by omega)] at E8
    have hmost : max x.w.bw (bwG ((l.take j).filter fun y => x.k.kin y.k)) = bwG (l.filter fun y => x.k.kin y.k) := by
      rw [List.take_of_length_le (by omega)]
      exact Nat.max_eq_right (bw_mem (List.mem_filter.2 ⟨hxm, kin_refl _⟩))
    rw [hmost] at E7
    have hbm : bwG (l.filter fun y => x.k.kin y.k) < 18446744073709551616 := by
      have := bwG_le (g := l.filter fun y => x.k.kin y.k) (n := 18446744073709551615) fun y hy => by have := hb y (List.mem_filter.1 hy).1; omega
      omega
    have hbool := Bool.eq_false_or_eq_true ((l.take i).any fun y => x.k.kin y.k)
    rcases hbool with ha | ha
    · rw [ha] at E8 hsn
      simp at hsn
      simp [E4, E5, E7, E8, E15, E24, E25, hjl', hgi]
      exact NX.of ⟨m - 1, by omega, i + 1, by omega, x03, by omega, by rw [hsn]; exact hs, by simp [E0], by simp [E4, hsn], by simp [E13], by simp [E14], by simp⟩
    · rw [ha] at E8 hsn
      simp at hsn
      simp [E4, E5, E7, E8, E15, E24, E25, hjl', hgi]
      refine CN.use (radd_ok _ _ hs hbm _) ?_
      rintro _ A4 hw4 hn4 ⟨rfl, rfl⟩
      by_cases hfit : hF l [] (l.take i) + bwG (l.filter fun y => x.k.kin y.k) < 18446744073709551616
      · have had : addP (hF l [] (l.take i)) (bwG (l.filter fun y => x.k.kin y.k)) = (hF l [] (l.take (i + 1)), true) := by unfold addP; rw [if_pos hfit, hsn]
        simp [had, E15, hgi]
        exact NX.of ⟨m - 1, by omega, i + 1, by omega, x03, by omega, by rw [hsn]; exact hfit, by simp [E0], by simp, by simp [E13], by simp [E14], by simp⟩
      · have had : addP (hF l [] (l.take i)) (bwG (l.filter fun y => x.k.kin y.k)) = (0, false) := by unfold addP; rw [if_neg hfit]
        have hle := hF_le l l [] (i + 1)
        rw [hsn] at hle
        have hnf : ¬ heldN l < 18446744073709551616 := by unfold heldN; omega
        simp [had]
        refine DN.of ⟨x03, ?_⟩
        rw [if_neg hnf, decide_eq_false hnf]; rfl
structure At where
  drop : Bool
  fork : Bool
  k : Key
  w : Wt
def At.enc (x : At) : List Value := [.bool x.drop, .bool x.fork] ++ x.k.enc ++ x.w.enc
theorem At.cells (x : At) : x.enc.length = 12 ∧ (∀ v ∈ x.enc, oneB v = true) ∧ (x.enc.drop 2).take 4 = x.k.enc ∧ (x.enc.drop 6).take 6 = x.w.enc ∧ x.enc.take 12 = x.enc ∧ x.enc[0]? = some (.bool x.drop) ∧ x.enc[1]? = some (.bool x.fork) := ⟨rfl, List.all_eq_true.1 (rfl : x.enc.all oneB = true), rfl, rfl, rfl, rfl, rfl⟩
def doesP (size : Nat) (l : List En) (a : At) : List En × List Key × Int := if a.drop = true then ((dropP l a.k).1, [], (dropP l a.k).2) else admP size l a.k a.w
theorem TOk.does {size : Nat} {l : List En} (h : TOk size l) (a : At) (hw : a.w.bw < 18446744073709551616) : TOk size (doesP size l a).1 := by
  unfold doesP
  split
  · exact h.drop a.k
  · exact h.adm a.k hw
def DoesQ (A : AH) (t : Nat) (ob : Option Nat) (size : Nat) (r : List En × List Key × Int) (v : Value) (A' : AH) : Prop :=
  (∃ gv obg, v = .tuple #[gv, .int .i64 r.2.2] ∧ Lq A' 23 4 obg gv (r.2.1.map Key.enc) ∧ ∀ b, obg = some b → A.next ≤ b) ∧ (∃ ob', TabA A' t ob' size r.1 ∧ (ob' = ob ∨ ∀ b, ob' = some b → A.next ≤ b)) ∧ ∀ b, b < A.next → b ≠ t → ob ≠ some b → A'.get b = A.get b
theorem does_ok {A : AH} {t : Nat} {ob : Option Nat} {size : Nat} {l : List En} (h : TabA A t ob size l) (a : At) (hbw : a.w.bw < 18446744073709551616) : ACall Try.prog 27 [.pointer (some ⟨t, 0, none⟩), .agg a.enc.toArray] A fun v A' => DoesQ A t ob size (doesP size l a) v A' := by
  have hobt := a.cells
  obtain ⟨c1, c2, c3, c4, c5, c6, c7⟩ := hobt
  have c8 : a.enc[0]'(by omega) = .bool a.drop := rfl
  refine ACall.wf fun hwf => ?_
  have hobt := h.lt hwf
  obtain ⟨htl, hol⟩ := hobt
  have x1 := Ext.alloc A (.row a.enc 35 false)
  have r1 := AH.get_new A (.row a.enc 35 false)
  have h1 := h.ext hwf x1
  have hbool := Bool.eq_false_or_eq_true a.drop
  rcases hbool with hd | hd
  · have hp : doesP size l a = ((dropP l a.k).1, [], (dropP l a.k).2) := by unfold doesP; rw [if_pos hd]
    refine code27.call (by simp) fun hwf => ?_
    unfold c27
    simp [c1, c3, c5, c8, hd]
    refine CN.use (drop_ok h1 a.k) ?_
    rintro _ A2 hw2 hn2 ⟨rfl, h2, e2⟩
    simp
    rw [hp]
    exact DN.of ⟨⟨_, none, rfl, Lq.nil _ _ _, by simp⟩, ⟨ob, h2, Or.inl rfl⟩, fun b q1 q2 q3 => by rw [e2 b (by simp; omega) q2 q3, x1 b q1]⟩
  · have hp : doesP size l a = admP size l a.k a.w := by unfold doesP; rw [if_neg (by rw [hd]; simp)]
    refine code27.call (by simp) fun hwf => ?_
    unfold c27
    simp [c1, c3, c4, c5, c8, hd]
    refine CN.use (admit_ok h1 a.k a.w hbw) ?_
    rintro _ A2 hw2 hn2 ⟨⟨gv, obg, rfl, q1, q2⟩, ⟨ob', h2, q3⟩, e2⟩
    simp
    rw [hp]
    exact DN.of ⟨⟨gv, obg, rfl, q1, fun b hb => by have := q2 b hb; simp at this; omega⟩, ⟨ob', h2, q3.imp id fun h b hb => by have := h b hb; simp at this; omega⟩, fun b q1 q2 q3 => by rw [e2 b (by simp; omega) q2, x1 b q1]⟩
theorem Lq.rdk {A : AH} {ob : Option Nat} {v : Value} {l : List Key} (h : Lq A 23 4 ob v (l.map Key.enc)) : RdK A v l := by
  have hobt := h.sl
  obtain ⟨a, c, h1, h2, -⟩ := hobt
  rw [List.length_map] at h1
  exact ⟨a, c, h1, h2⟩
def wantZ : Wt := ⟨0, 0, 0, 0, 0, 0⟩
def lookE : List En → Key → Option Wt
  | [], _ => none
  | x :: l, k => if x.k = k then some x.w else lookE l k
theorem lookE_app : ∀ (l m : List En) (k : Key), lookE (l ++ m) k = (lookE l k).or (lookE m k)
  | [], m, k => by simp [lookE]
  | x :: l, m, k => by
    simp only [List.cons_append, lookE]
    split
    · rfl
    · exact lookE_app l m k
theorem lookE_has (l : List En) (k : Key) : (lookE l k).isSome = hasK l k := by
  induction l with
  | nil => rfl
  | cons x l ih =>
    simp only [lookE, hasK, List.any_cons]
    split
    · rename_i e; simp [e]
    · rename_i e; rw [ih]; simp [e, hasK]
theorem lookE_mem {l : List En} {k : Key} {w : Wt} (h : lookE l k = some w) : (⟨k, w⟩ : En) ∈ l := by
  induction l with
  | nil => cases h
  | cons x l ih =>
    simp only [lookE] at h
    split at h
    · rename_i e; injection h with h; subst h; subst e; exact List.mem_cons_self
    · exact List.mem_cons_of_mem _ (ih h)
theorem lookE_of {l : List En} (hs : SrtE l) {x : En} (hx : x ∈ l) : lookE l x.k = some x.w := by
  cases h : lookE l x.k with
  | none =>
    have := lookE_has l x.k
    rw [h, (hasK_iff l x.k).2 ⟨x, hx, rfl⟩] at this; cases this
  | some w => have := srt_key hs (lookE_mem h) hx rfl; rw [← this]
theorem lfind_ok {A : AH} {a : Option Addr} {c : Nat} {l : List En} (h : Sl A 63 10 a (l.map En.enc)) (hn : l.length ≤ 1000) (k : Key) : ACall Try.prog 30 [.slice a l.length c, .agg k.enc.toArray] A fun v A' => Ext A A' ∧ v = .tuple #[.agg ((lookE l k).getD wantZ).enc.toArray, .bool (hasK l k)] := by
  refine ACall.wf fun hwf => ?_
  have hobx : ∃ A1, A1 = (A.alloc (.row k.enc 23 false)).alloc (.row wantZ.enc 33 false) := ⟨_, rfl⟩
  obtain ⟨A1, hA1⟩ := hobx
  have n1 : A1.next = A.next + 2 := by rw [hA1]; rfl
  have w1 : A1.wf := by rw [hA1]; exact AH.wf_alloc (AH.wf_alloc hwf _) _
  have x1 : Ext A A1 := by rw [hA1]; exact (Ext.alloc A _).app (by simp) _
  have k1 : A1.get A.next = some (.row k.enc 23 false) := by rw [hA1, AH.get_alloc, if_neg (by simp), AH.get_new]
  have r1 : A1.get (A.next + 1) = some (.row wantZ.enc 33 false) := by rw [hA1, AH.get_alloc, if_pos (by simp)]
  have hz : wantZ.enc = [.int .u64 0, .int .i64 0, .int .i64 0, .int .u32 0, .int .u32 0, .int .u32 0] := rfl
  rw [hz] at hA1 r1
  refine code30.call (by simp) fun hwf => ?_
  unfold c30
  simp [← hA1]
  refine LN.use (fun m E A' => ∃ i : Nat, m + i = l.length ∧ (∀ b, b < A1.next → A'.get b = A1.get b) ∧ A1.next ≤ A'.next ∧ hasK (l.take i) k = false ∧ E.get 3 = .pointer (some ⟨A.next, 0, none⟩) ∧ E.get 4 = .pointer (some ⟨A.next + 1, 0, none⟩) ∧ E.get 8 = .slice a l.length c ∧ E.get 9 = .int .i64 l.length ∧ E.get 10 = .int .i64 i) l.length
    ⟨0, by omega, fun _ _ => rfl, Nat.le_refl _, by simp [hasK], by simp, by simp, by simp, by simp, by simp⟩ ?_
  rintro m E A2 hw2 hn2 ⟨i, hi, x2, n2, hno, E3, E4, E8, E9, E10⟩
  have x02 := x1.trans (by omega) (show Ext A1 A2 from x2)
  have k2 := Ext.get x2 w1 k1
  have r2 := Ext.get x2 w1 r1
  by_cases hlt : i < l.length
  · have hlt' : (i : Int) < l.length := by omega
    have hgi : IntKind.i64.wrap ((i : Int) + 1) = ((i + 1 : Nat) : Int) := by rw [i64_in (by omega) (by omega)]; simp
    have hobt := (h.ext hwf x02).at (i := i) (by simpa using hlt)
    obtain ⟨b, o, cs, q, rfl, g1, g2, g3⟩ := hobt
    rw [List.getElem_map] at g3
    have hobx : ∃ y, y = l[i]'hlt := ⟨_, rfl⟩
    obtain ⟨y, hy⟩ := hobx
    rw [← hy] at g3
    have hobt := y.cells
    obtain ⟨hyl, hyo, hy4, hy6, hyt⟩ := hobt
    have hne1 : ¬ A.next = A2.next := by omega
    have hne2 : ¬ A.next + 1 = A2.next := by omega
    have x03 : Ext A (A2.alloc (.row y.enc 63 false)) := x02.app (by omega) _
    by_cases e : y.k = k
    · have hh : hasK l k = true := (hasK_iff _ _).2 ⟨y, by rw [hy]; exact List.getElem_mem hlt, e⟩
      have hlk : lookE l k = some y.w := by
        conv => lhs; rw [← List.take_append_drop i l, List.drop_eq_getElem_cons hlt, ← hy]
        rw [lookE_app]
        have : lookE (l.take i) k = none := by
          have := lookE_has (l.take i) k
          rw [hno] at this
          simpa using this
        rw [this]; simp [lookE, e]
      have hwl : y.w.enc.length = 6 := rfl
      have hwt : y.w.enc.take 6 = y.w.enc := rfl
      have hwo : ∀ v ∈ y.w.enc, oneB v = true := List.all_eq_true.1 (rfl : y.w.enc.all oneB = true)
      simp [E3, E4, E8, E9, E10, hlt, hlt', g1, g2, g3, hyl, hyt, hy4, hy6, k2, r2, hne1, hne2, e, hwl, hwt]
      refine ⟨hyo, hwo, ?_⟩
      refine DN.of ?_
      rw [hlk, hh]
      exact ⟨x03.setnew (by omega) _, rfl⟩
    · simp [E3, E4, E8, E9, E10, hlt, hlt', g1, g2, g3, hyl, hyt, hy4, hy6, k2, r2, hne1, hne2, e, hgi]
      refine ⟨hyo, ?_⟩
      refine NX.of ⟨m - 1, by omega, i + 1, by omega, fun b hb => by rw [AH.get_alloc, if_neg (by omega), x2 b hb], by simp; omega, ?_, by simp [E3], by simp [E4], by simp [E8], by simp [E9], by simp⟩
      rw [List.take_succ_eq_append_getElem hlt, ← hy, hasK, List.any_append]
      rw [hasK] at hno
      rw [hno]; simp [e]
  · have hlt' : ¬ (i : Int) < l.length := by omega
    rw [List.take_of_length_le (by omega)] at hno
    have hlk : lookE l k = none := by
      have := lookE_has l k
      rw [hno] at this
      simpa using this
    simp [E4, E9, E10, hlt', r2]
    refine DN.of ?_
    rw [hlk, hno]
    exact ⟨x02.setnew (by omega) _, rfl⟩
theorem mk_ok (a b : Int) (A : AH) : ACall Try.prog 33 [.int .i64 a, .int .i64 b] A fun v A' => v = keyV ⟨3, a, 0, b⟩ ∧ Ext A A' := by
  refine code33.call (by simp) fun hwf => ?_
  unfold c33
  simp
  exact DN.of ⟨rfl, Ext.alloc A _⟩
def ex1 : En := ⟨⟨3, 1, 0, 1⟩, ⟨6, 5, 5, 0, 0, 0⟩⟩
def ex2 : En := ⟨⟨3, 1, 0, 2⟩, ⟨8, 5, 5, 0, 0, 0⟩⟩
def ex3 : En := ⟨⟨3, 2, 0, 1⟩, ⟨3, 4, 4, 0, 0, 0⟩⟩
theorem ex_a : admP 10 [] ex1.k ex1.w = ([ex1], [], 0) := by decide
theorem ex_b : admP 10 [ex1] ex2.k ex2.w = ([ex1, ex2], [], 0) := by decide
theorem ex_c : admP 10 [ex1, ex2] ex3.k ⟨3, 5, 5, 0, 0, 0⟩ = ([ex1, ex2], [], 14) := by decide
theorem ex_d : admP 10 [ex1, ex2] ex3.k ex3.w = ([ex3], [ex1.k, ex2.k], 0) := by decide
theorem ex_e : (ldg 10 (grp [ex3])).enc.toArray = #[.int .u64 10, .int .u64 0, .int .u64 0, .int .u64 0, .int .u64 0, .int .u64 3, .int .u64 0, .int .u64 0, .int .u64 0] := rfl
theorem adm_any {A : AH} {t : Nat} {ob : Option Nat} {size : Nat} {l : List En} (h : TabA A t ob size l) (k : Key) (w : Wt) (hbw : w.bw < 18446744073709551616) (kv wv : Value) (hk : kv = keyV k) (hw : wv = .agg w.enc.toArray) {r : List En × List Key × Int} (hr : admP size l k w = r) :
    ACall Try.prog 19 [.pointer (some ⟨t, 0, none⟩), kv, wv] A fun v A' => (∃ a c ob', v = .tuple #[.slice a r.2.1.length c, .int .i64 r.2.2] ∧ TabA A' t ob' size r.1 ∧ (∀ b, ob' = some b → A.next ≤ b ∨ ob = some b)) ∧ ∀ b, b < A.next → b ≠ t → A'.get b = A.get b := by
  subst hk; subst hw; subst hr
  refine (admit_ok h k w hbw).mono fun v A' _ _ ⟨⟨gv, obg, h1, h2, _⟩, ⟨ob', h3, h4⟩, h5⟩ => ⟨?_, h5⟩
  have hobt := h2.sl
  obtain ⟨a, c, h6, -⟩ := hobt
  rw [List.length_map] at h6
  subst h6
  exact ⟨a, c, ob', h1, h3, fun b hb => h4.elim (fun e => Or.inr (by rw [← e]; exact hb)) fun e => Or.inl (e b hb)⟩
set_option maxHeartbeats 2000000 in
theorem alive_ok (A : AH) : ACall Try.prog 11 [] A fun v A' => v = .bool true ∧ Ext A A' := by
  refine ACall.wf fun hwf => ?_
  refine code11.call (by simp) fun hwf => ?_
  unfold c11
  simp
  refine CN.use (new_ok 10 (by omega) A) ?_
  rintro _ A1 hw1 hn1 ⟨rfl, t1, x1⟩
  simp
  refine CN.use (mk_ok 1 1 A1) ?_
  rintro _ A2 hw2 hn2 ⟨rfl, x2⟩
  have t2 := t1.ext hw1 x2
  have htl := (t2.lt hw2).1
  simp
  refine CN.use (adm_any t2 ex1.k ex1.w (by decide) _ _ rfl rfl ex_a) ?_
  rintro _ A3 hw3 hn3 ⟨⟨a3, c3, ob3, rfl, t3, o3⟩, e3⟩
  simp
  refine CN.use (mk_ok 1 2 A3) ?_
  rintro _ A4 hw4 hn4 ⟨rfl, x4⟩
  have t4 := t3.ext hw3 x4
  simp
  refine CN.use (adm_any t4 ex2.k ex2.w (by decide) _ _ rfl rfl ex_b) ?_
  rintro _ A5 hw5 hn5 ⟨⟨a5, c5, ob5, rfl, t5, o5⟩, e5⟩
  simp
  refine CN.use (mk_ok 2 1 A5) ?_
  rintro _ A6 hw6 hn6 ⟨rfl, x6⟩
  have t6 := t5.ext hw5 x6
  simp
  refine CN.use (adm_any t6 ex3.k ⟨3, 5, 5, 0, 0, 0⟩ (by decide) _ _ rfl rfl ex_c) ?_
  rintro _ A7 hw7 hn7 ⟨⟨a7, c7, ob7, rfl, t7, o7⟩, e7⟩
  simp
  refine CN.use (mk_ok 2 1 A7) ?_
  rintro _ A8 hw8 hn8 ⟨rfl, x8⟩
  have t8 := t7.ext hw7 x8
  simp
  refine CN.use (adm_any t8 ex3.k ex3.w (by decide) _ _ rfl rfl ex_d) ?_
  rintro _ A9 hw9 hn9 ⟨⟨a9, c9, ob9, rfl, t9, o9⟩, e9⟩
  have hE : Ext A A9 := fun b hb => by
    have hbt : b ≠ A.next := by omega
    rw [e9 b (by omega) hbt, x8 b (by omega), e7 b (by omega) hbt, x6 b (by omega), e5 b (by omega) hbt, x4 b (by omega), e3 b (by omega) hbt, x2 b (by omega), x1 b hb]
  simp
  refine CN.use (mk_ok 1 1 A9) ?_
  rintro _ B1 hv1 hm1 ⟨rfl, y1⟩
  simp
  refine CN.use (mk_ok 1 2 B1) ?_
  rintro _ B2 hv2 hm2 ⟨rfl, y2⟩
  simp
  refine CN.use (kin_ok ex1.k ex2.k B2) ?_
  rintro _ B3 hv3 hm3 ⟨rfl, y3⟩
  have hkin : ex1.k.kin ex2.k = true := by decide
  simp [hkin]
  refine CN.use (mk_ok 1 1 B3) ?_
  rintro _ B4 hv4 hm4 ⟨rfl, y4⟩
  simp
  refine CN.use (mk_ok 1 2 B4) ?_
  rintro _ B5 hv5 hm5 ⟨rfl, y5⟩
  simp
  refine CN.use (before_ok ex1.k ex2.k B5) ?_
  rintro _ B6 hv6 hm6 ⟨y6, rfl⟩
  have hbef : ex1.k.bef ex2.k = true := by decide
  simp [hbef]
  have y16 := y1.trans (by omega) (y2.trans (by omega) (y3.trans (by omega) (y4.trans (by omega) (y5.trans (by omega) y6))))
  refine CN.use (ledger_ok (t9.ext hw9 y16)) ?_
  rintro _ B7 hv7 hm7 ⟨hv, y7⟩
  have hv2 : _ = Value.agg #[.int .u64 10, .int .u64 0, .int .u64 0, .int .u64 0, .int .u64 0, .int .u64 3, .int .u64 0, .int .u64 0, .int .u64 0] := hv.trans (congrArg Value.agg ex_e)
  subst hv2
  have hfld : aField Try.prog 48 (Value.agg #[.int .u64 10, .int .u64 0, .int .u64 0, .int .u64 0, .int .u64 0, .int .u64 3, .int .u64 0, .int .u64 0, .int .u64 0]) 1 = some (.agg #[.int .u64 0, .int .u64 0, .int .u64 0, .int .u64 0, .int .u64 3, .int .u64 0, .int .u64 0, .int .u64 0]) := by kernel_rfl
  have hix : aIndex Try.prog 46 (.agg #[.int .u64 0, .int .u64 0, .int .u64 0, .int .u64 0, .int .u64 3, .int .u64 0, .int .u64 0, .int .u64 0]) (.int .i64 4) = some (.int .u64 3) := by kernel_rfl
  simp [hfld, hix]
  exact DN.of ⟨rfl, hE.trans (by omega) (y16.trans (by omega) y7)⟩
end Go.Proofs.Ytieehccjajhpfaa.AC
/- Arguments, read: keys, wants, acts. -/
namespace Go.Proofs.Ytieehccjajhpfaa.AC
open Go Go.AI Go.RowKit Go.Proofs Go.Proofs.Ytieehccjajhpfaa.AQ
set_option linter.unusedVariables false
theorem lit_u64 {i : Int} (h : (Lit.int .u64 i).wf = true) : ∃ n : Nat, i = n ∧ n < 18446744073709551616 := by
  have a : IntKind.u64.min = 0 := rfl
  have b : IntKind.u64.max = 18446744073709551615 := rfl
  simp [Lit.wf, a, b] at h
  exact ⟨i.toNat, by omega, by omega⟩
theorem lit_u32 {i : Int} (h : (Lit.int .u32 i).wf = true) : ∃ n : Nat, i = n ∧ n < 4294967296 := by
  have a : IntKind.u32.min = 0 := rfl
  have b : IntKind.u32.max = 4294967295 := rfl
  simp [Lit.wf, a, b] at h
  exact ⟨i.toNat, by omega, by omega⟩
section
variable {A : AH} {n : Nat} {cs : List Value}
theorem int_rd (h : Rd Try.prog A n 3 cs) : ∃ i, cs = [.int .i64 i] ∧ (Lit.int .i64 i).wf = true := Rd_int Try.underlying3 h
theorem u64_rd (h : Rd Try.prog A n 26 cs) : ∃ m : Nat, cs = [.int .u64 m] ∧ m < 18446744073709551616 := by
  have hobt := Rd_int Try.underlying26 h
  obtain ⟨i, rfl, w⟩ := hobt
  have hobt := lit_u64 w
  obtain ⟨m, rfl, hm⟩ := hobt
  exact ⟨m, rfl, hm⟩
theorem key_rd (h : Rd Try.prog A n 23 cs) : ∃ k : Key, cs = k.enc := by
  have hobt := Rd_struct Try.underlying23 (by kernel_rfl) h
  obtain ⟨n', h⟩ := hobt
  simp only [RdS] at h
  obtain ⟨p0, _, rfl, h0, p1, _, rfl, h1, p2, _, rfl, h2, p3, _, rfl, h3, rfl⟩ := h
  have hobt := int_rd h0
  obtain ⟨i0, rfl, -⟩ := hobt
  have hobt := int_rd h1
  obtain ⟨i1, rfl, -⟩ := hobt
  have hobt := int_rd h2
  obtain ⟨i2, rfl, -⟩ := hobt
  have hobt := int_rd h3
  obtain ⟨i3, rfl, -⟩ := hobt
  exact ⟨⟨i0, i1, i2, i3⟩, rfl⟩
theorem want_rd (h : Rd Try.prog A n 33 cs) : ∃ w : Wt, cs = w.enc ∧ w.bw < 18446744073709551616 := by
  have hobt := Rd_struct Try.underlying33 (by kernel_rfl) h
  obtain ⟨n', h⟩ := hobt
  simp only [RdS] at h
  obtain ⟨q0, _, rfl, g0, q1, _, rfl, g1, q2, _, rfl, g2, q3, _, rfl, g3, q4, _, rfl, g4, q5, _, rfl, g5, rfl⟩ := h
  have hobt := Rd_int Try.underlying26 g0
  obtain ⟨j0, rfl, v0⟩ := hobt
  have hobt := int_rd g1
  obtain ⟨j1, rfl, -⟩ := hobt
  have hobt := int_rd g2
  obtain ⟨j2, rfl, -⟩ := hobt
  have hobt := Rd_int Try.underlying31 g3
  obtain ⟨j3, rfl, v3⟩ := hobt
  have hobt := Rd_int Try.underlying31 g4
  obtain ⟨j4, rfl, v4⟩ := hobt
  have hobt := Rd_int Try.underlying31 g5
  obtain ⟨j5, rfl, v5⟩ := hobt
  have hobt := lit_u64 v0
  obtain ⟨m0, rfl, k0⟩ := hobt
  have hobt := lit_u32 v3
  obtain ⟨m3, rfl, k3⟩ := hobt
  have hobt := lit_u32 v4
  obtain ⟨m4, rfl, k4⟩ := hobt
  have hobt := lit_u32 v5
  obtain ⟨m5, rfl, k5⟩ := hobt
  exact ⟨⟨m0, j1, j2, m3, m4, m5⟩, rfl, k0⟩
theorem act_rd (h : Rd Try.prog A n 35 cs) : ∃ a : At, cs = a.enc ∧ a.w.bw < 18446744073709551616 := by
  have hobt := Rd_struct Try.underlying35 (by kernel_rfl) h
  obtain ⟨n', h⟩ := hobt
  simp only [RdS] at h
  obtain ⟨q0, _, rfl, g0, q1, _, rfl, g1, q2, _, rfl, g2, q3, _, rfl, g3, rfl⟩ := h
  have hobt := Rd_bool Try.underlying4 g0
  obtain ⟨b0, rfl⟩ := hobt
  have hobt := Rd_bool Try.underlying4 g1
  obtain ⟨b1, rfl⟩ := hobt
  have hobt := key_rd g2
  obtain ⟨k, rfl⟩ := hobt
  have hobt := want_rd g3
  obtain ⟨w, rfl, hw⟩ := hobt
  exact ⟨⟨b0, b1, k, w⟩, by simp [At.enc], hw⟩
def ActsOk (l : List At) : Prop := ∀ x ∈ l, x.w.bw < 18446744073709551616
theorem acts_rd (h : Rd Try.prog A n 27 cs) : ∃ (a : Option Addr) (c : Nat) (l : List At), cs = [.slice a l.length c] ∧ Sl A 35 12 a (l.map At.enc) ∧ ActsOk l := by
  have hobt := Rd_slice (z := 12) (f := At.enc) (Q := fun x => x.w.bw < 18446744073709551616) Try.underlying27 (by kernel_rfl) (by decide) (fun x => ⟨rfl, rfl⟩) (fun n cs h => act_rd h) h
  obtain ⟨a, c, L, h1, h2, -, -, h3⟩ := hobt
  exact ⟨a, c, L, h1, h2, h3⟩
end
def PS (n0 n1 : Nat) (A : AH) (t : Nat) (size : Nat) (l : List En) : Prop := ∃ ob, TabA A t ob size l ∧ (n0 ≤ t ∧ t < n1) ∧ ∀ b, ob = some b → n0 ≤ b ∧ b < n1
section
variable {n0 n1 : Nat} {A A' : AH} {t size : Nat} {l : List En}
theorem PS.ext (h : PS n0 n1 A t size l) (hw : A.wf) (hx : Ext A A') : PS n0 n1 A' t size l := by
  obtain ⟨ob, h1, h2⟩ := h
  exact ⟨ob, h1.ext hw hx, h2⟩
theorem PS.wide {m0 m1 : Nat} (h : PS n0 n1 A t size l) (h0 : m0 ≤ n0) (h1 : n1 ≤ m1) : PS m0 m1 A t size l := by
  obtain ⟨ob, g1, g2, g3⟩ := h
  exact ⟨ob, g1, by omega, fun b hb => by have := g3 b hb; omega⟩
theorem PS.now (h : PS n0 n1 A t size l) (hw : A.wf) : PS n0 A.next A t size l := by
  obtain ⟨ob, g1, g2, g3⟩ := h
  have hobt := g1.lt hw
  obtain ⟨k1, k2⟩ := hobt
  exact ⟨ob, g1, ⟨g2.1, k1⟩, fun b hb => ⟨(g3 b hb).1, k2 b hb⟩⟩
theorem PS.ok (h : PS n0 n1 A t size l) : TOk size l := by
  obtain ⟨ob, h1, h2⟩ := h
  exact h1.ok
def Seen (n0 n1 : Nat) (A A' : AH) : Prop := ∀ b, b < A.next → (b < n0 ∨ n1 ≤ b ∨ ∃ cs T ro, A.get b = some (.row cs T ro) ∧ T ≠ 70 ∧ T ≠ 63) → A'.get b = A.get b
theorem TabA.seen {ob : Option Nat} (h : TabA A t ob size l) (h2 : n0 ≤ t ∧ t < n1) (h3 : ∀ b, ob = some b → n0 ≤ b ∧ b < n1) (hk : ∀ b, b < A.next → b ≠ t → ob ≠ some b → A'.get b = A.get b) : Seen n0 n1 A A' := fun b hb hc => by
  have hobt := h.row
  obtain ⟨tv, hrow, hlst⟩ := hobt
  rcases hc with hc | hc | ⟨cs, T, ro, g1, g2, g3⟩
  · exact hk b hb (by omega) (fun e => by have := h3 b e; omega)
  · exact hk b hb (by omega) (fun e => by have := h3 b e; omega)
  · refine hk b hb (fun e => ?_) (fun e => ?_)
    · subst e; rw [hrow] at g1; injection g1 with g1; injection g1 with _ g1 _; exact g2 g1.symm
    · rcases hlst.2 with ⟨e4, _⟩ | ⟨b', c', rest, e4, _, e5, _⟩
      · rw [e4] at e; cases e
      · rw [e4] at e; injection e with e; subst e
        rw [e5] at g1; injection g1 with g1; injection g1 with _ g1 _; exact g3 g1.symm
theorem ps_new {size : Nat} (hs : size < 18446744073709551616) (A : AH) : ACall Try.prog 16 [.int .u64 size] A fun v A' => v = .pointer (some ⟨A.next, 0, none⟩) ∧ PS A.next (A.next + 1) A' A.next size [] ∧ Ext A A' :=
  (new_ok size hs A).mono fun v A' _ _ ⟨h1, h2, h3⟩ => ⟨h1, ⟨none, h2, ⟨Nat.le_refl _, by omega⟩, by simp⟩, h3⟩
theorem ps_does (h : PS n0 n1 A t size l) (hn : n1 ≤ A.next) (a : At) (hbw : a.w.bw < 18446744073709551616) : ACall Try.prog 27 [.pointer (some ⟨t, 0, none⟩), .agg a.enc.toArray] A fun v A' => PS n0 A'.next A' t size (doesP size l a).1 ∧ Seen n0 n1 A A' ∧ ∃ ga gc, v = .tuple #[.slice ga (doesP size l a).2.1.length gc, .int .i64 (doesP size l a).2.2] ∧ Sl A' 23 4 ga ((doesP size l a).2.1.map Key.enc) ∧ (∀ b o, ga = some ⟨b, o, none⟩ → A.next ≤ b) := by
  obtain ⟨ob, h1, h2, h3⟩ := h
  refine (does_ok h1 a hbw).mono fun v A' hw' hn' ⟨⟨gv, obg, q1, q2, q3⟩, ⟨ob', q4, q5⟩, q6⟩ => ?_
  have hobt := q2.sl
  obtain ⟨ga, gc, e1, e2, e3⟩ := hobt
  rw [List.length_map] at e1
  subst e1
  have hobt := q4.lt hw'
  obtain ⟨k1, k2⟩ := hobt
  refine ⟨⟨ob', q4, ⟨h2.1, k1⟩, fun b hb => ⟨?_, k2 b hb⟩⟩, h1.seen h2 h3 q6, ga, gc, q1, e2, fun b o e => q3 b (e3 b o e).1⟩
  rcases q5 with e | e
  · exact (h3 b (by rw [← e]; exact hb)).1
  · have := e b hb; omega
theorem ps_admit (h : PS n0 n1 A t size l) (hn : n1 ≤ A.next) (k : Key) (w : Wt) (hbw : w.bw < 18446744073709551616) : ACall Try.prog 19 [.pointer (some ⟨t, 0, none⟩), .agg k.enc.toArray, .agg w.enc.toArray] A fun v A' => PS n0 A'.next A' t size (admP size l k w).1 ∧ Seen n0 n1 A A' ∧ ∃ ga gc, v = .tuple #[.slice ga (admP size l k w).2.1.length gc, .int .i64 (admP size l k w).2.2] ∧ Sl A' 23 4 ga ((admP size l k w).2.1.map Key.enc) := by
  obtain ⟨ob, h1, h2, h3⟩ := h
  refine (admit_ok h1 k w hbw).mono fun v A' hw' hn' ⟨⟨gv, obg, q1, q2, q3⟩, ⟨ob', q4, q5⟩, q6⟩ => ?_
  have hobt := q2.sl
  obtain ⟨ga, gc, e1, e2, e3⟩ := hobt
  rw [List.length_map] at e1
  subst e1
  have hobt := q4.lt hw'
  obtain ⟨k1, k2⟩ := hobt
  refine ⟨⟨ob', q4, ⟨h2.1, k1⟩, fun b hb => ⟨?_, k2 b hb⟩⟩, h1.seen h2 h3 fun b c1 c2 _ => q6 b c1 c2, ga, gc, q1, e2⟩
  rcases q5 with e | e
  · exact (h3 b (by rw [← e]; exact hb)).1
  · have := e b hb; omega
theorem ps_drop (h : PS n0 n1 A t size l) (hn : n1 ≤ A.next) (k : Key) : ACall Try.prog 18 [.pointer (some ⟨t, 0, none⟩), .agg k.enc.toArray] A fun v A' => PS n0 n1 A' t size (dropP l k).1 ∧ Seen n0 n1 A A' ∧ v = .int .i64 (dropP l k).2 := by
  obtain ⟨ob, h1, h2, h3⟩ := h
  exact (drop_ok h1 k).mono fun v A' hw' hn' ⟨q1, q2, q3⟩ => ⟨⟨ob, q2, h2, h3⟩, h1.seen h2 h3 q3, q1⟩
theorem ps_entries (h : PS n0 n1 A t size l) : ACall Try.prog 26 [.pointer (some ⟨t, 0, none⟩)] A fun v A' => Ext A A' ∧ ∃ a c, v = .slice a l.length c ∧ Sl A' 63 10 a (l.map En.enc) ∧ ∀ b o, a = some ⟨b, o, none⟩ → A.next ≤ b := by
  obtain ⟨ob, h1, h2⟩ := h
  refine (entries_ok h1).mono fun v A' _ _ ⟨x, ob', q1, q2⟩ => ?_
  have hobt := q1.sl
  obtain ⟨a, c, e1, e2, e3⟩ := hobt
  rw [List.length_map] at e1
  exact ⟨x, a, c, e1, e2, fun b o e => q2 b (e3 b o e).1⟩
theorem ps_ledger (h : PS n0 n1 A t size l) : ACall Try.prog 22 [.pointer (some ⟨t, 0, none⟩)] A fun v A' => v = .agg (ldg size (grp l)).enc.toArray ∧ Ext A A' := by
  obtain ⟨ob, h1, h2⟩ := h
  exact ledger_ok h1
theorem Seen.rde {v : Value} {m : List En} (h : Seen n0 n1 A A') (hw : A.wf) (hR : RdE A v m) : RdE A' v m := hR.kept fun b cs ro hb => h b (hw _ _ hb) (Or.inr (Or.inr ⟨cs, _, ro, hb, by decide, by decide⟩))
theorem Seen.low (h : Seen n0 n1 A A') {b : Nat} (hb : b < n0) (hn : n0 ≤ A.next) : A'.get b = A.get b := h b (by omega) (Or.inl hb)
theorem Seen.high (h : Seen n0 n1 A A') {b : Nat} (hb : n1 ≤ b) (hn : b < A.next) : A'.get b = A.get b := h b hn (Or.inr (Or.inl hb))
def PSK (K : Nat → Prop) (A : AH) (t : Nat) (size : Nat) (l : List En) : Prop := ∃ ob, TabA A t ob size l ∧ K t ∧ ∀ b, ob = some b → K b
def SeenK (K : Nat → Prop) (A A' : AH) : Prop := ∀ b, b < A.next → (¬ K b ∨ ∃ cs T ro, A.get b = some (.row cs T ro) ∧ T ≠ 70 ∧ T ≠ 63) → A'.get b = A.get b
section
variable {K : Nat → Prop}
theorem PS.psk (h : PS n0 n1 A t size l) : PSK (fun b => n0 ≤ b ∧ b < n1) A t size l := h
theorem PSK.ps (h : PSK K A t size l) (hw : A.wf) (hk : ∀ b, K b → n0 ≤ b) : PS n0 A.next A t size l := by
  obtain ⟨ob, g1, g2, g3⟩ := h
  have hobt := g1.lt hw
  obtain ⟨k1, k2⟩ := hobt
  exact ⟨ob, g1, ⟨hk _ g2, k1⟩, fun b hb => ⟨hk _ (g3 b hb), k2 b hb⟩⟩
theorem PSK.ext (h : PSK K A t size l) (hw : A.wf) (hx : Ext A A') : PSK K A' t size l := by
  obtain ⟨ob, h1, h2⟩ := h
  exact ⟨ob, h1.ext hw hx, h2⟩
theorem PSK.ok (h : PSK K A t size l) : TOk size l := by
  obtain ⟨ob, h1, h2⟩ := h
  exact h1.ok
theorem PSK.kept (h : PSK K A t size l) (hw : A.wf) (hk : ∀ b, b < A.next → K b → A'.get b = A.get b) : PSK K A' t size l := by
  obtain ⟨ob, h1, h2, h3⟩ := h
  have hobt := h1.lt hw
  obtain ⟨k1, k2⟩ := hobt
  exact ⟨ob, h1.kept (hk _ k1 h2) (fun b hb => hk b (k2 b hb) (h3 b hb)), h2, h3⟩
theorem TabA.seenK {ob : Option Nat} (h : TabA A t ob size l) (h2 : K t) (h3 : ∀ b, ob = some b → K b) (hk : ∀ b, b < A.next → b ≠ t → ob ≠ some b → A'.get b = A.get b) : SeenK K A A' := fun b hb hc => by
  have hobt := h.row
  obtain ⟨tv, hrow, hlst⟩ := hobt
  rcases hc with hc | ⟨cs, T, ro, g1, g2, g3⟩
  · exact hk b hb (fun e => hc (by rw [e]; exact h2)) (fun e => hc (h3 b e))
  · refine hk b hb (fun e => ?_) (fun e => ?_)
    · subst e; rw [hrow] at g1; injection g1 with g1; injection g1 with _ g1 _; exact g2 g1.symm
    · rcases hlst.2 with ⟨e4, _⟩ | ⟨b', c', rest, e4, _, e5, _⟩
      · rw [e4] at e; cases e
      · rw [e4] at e; injection e with e; subst e
        rw [e5] at g1; injection g1 with g1; injection g1 with _ g1 _; exact g3 g1.symm
theorem psk_does (h : PSK K A t size l) (a : At) (hbw : a.w.bw < 18446744073709551616) : ACall Try.prog 27 [.pointer (some ⟨t, 0, none⟩), .agg a.enc.toArray] A fun v A' => PSK (fun b => K b ∨ A.next ≤ b) A' t size (doesP size l a).1 ∧ SeenK K A A' ∧ ∃ ga gc, v = .tuple #[.slice ga (doesP size l a).2.1.length gc, .int .i64 (doesP size l a).2.2] ∧ Sl A' 23 4 ga ((doesP size l a).2.1.map Key.enc) ∧ (∀ b o, ga = some ⟨b, o, none⟩ → A.next ≤ b) := by
  obtain ⟨ob, h1, h2, h3⟩ := h
  refine (does_ok h1 a hbw).mono fun v A' hw' hn' ⟨⟨gv, obg, q1, q2, q3⟩, ⟨ob', q4, q5⟩, q6⟩ => ?_
  have hobt := q2.sl
  obtain ⟨ga, gc, e1, e2, e3⟩ := hobt
  rw [List.length_map] at e1
  subst e1
  refine ⟨⟨ob', q4, Or.inl h2, fun b hb => ?_⟩, h1.seenK h2 h3 q6, ga, gc, q1, e2, fun b o e => q3 b (e3 b o e).1⟩
  rcases q5 with e | e
  · exact Or.inl (h3 b (by rw [← e]; exact hb))
  · exact Or.inr (e b hb)
theorem psk_admit (h : PSK K A t size l) (k : Key) (w : Wt) (hbw : w.bw < 18446744073709551616) : ACall Try.prog 19 [.pointer (some ⟨t, 0, none⟩), .agg k.enc.toArray, .agg w.enc.toArray] A fun v A' => PSK (fun b => K b ∨ A.next ≤ b) A' t size (admP size l k w).1 ∧ SeenK K A A' ∧ ∃ ga gc, v = .tuple #[.slice ga (admP size l k w).2.1.length gc, .int .i64 (admP size l k w).2.2] ∧ Sl A' 23 4 ga ((admP size l k w).2.1.map Key.enc) := by
  obtain ⟨ob, h1, h2, h3⟩ := h
  refine (admit_ok h1 k w hbw).mono fun v A' hw' hn' ⟨⟨gv, obg, q1, q2, q3⟩, ⟨ob', q4, q5⟩, q6⟩ => ?_
  have hobt := q2.sl
  obtain ⟨ga, gc, e1, e2, e3⟩ := hobt
  rw [List.length_map] at e1
  subst e1
  refine ⟨⟨ob', q4, Or.inl h2, fun b hb => ?_⟩, h1.seenK h2 h3 fun b c1 c2 _ => q6 b c1 c2, ga, gc, q1, e2⟩
  rcases q5 with e | e
  · exact Or.inl (h3 b (by rw [← e]; exact hb))
  · exact Or.inr (e b hb)
theorem psk_drop (h : PSK K A t size l) (k : Key) : ACall Try.prog 18 [.pointer (some ⟨t, 0, none⟩), .agg k.enc.toArray] A fun v A' => PSK K A' t size (dropP l k).1 ∧ SeenK K A A' ∧ v = .int .i64 (dropP l k).2 := by
  obtain ⟨ob, h1, h2, h3⟩ := h
  exact (drop_ok h1 k).mono fun v A' hw' hn' ⟨q1, q2, q3⟩ => ⟨⟨ob, q2, h2, h3⟩, h1.seenK h2 h3 q3, q1⟩
theorem psk_entries (h : PSK K A t size l) : ACall Try.prog 26 [.pointer (some ⟨t, 0, none⟩)] A fun v A' => Ext A A' ∧ ∃ a c, v = .slice a l.length c ∧ Sl A' 63 10 a (l.map En.enc) ∧ ∀ b o, a = some ⟨b, o, none⟩ → A.next ≤ b := by
  obtain ⟨ob, h1, h2⟩ := h
  refine (entries_ok h1).mono fun v A' _ _ ⟨x, ob', q1, q2⟩ => ?_
  have hobt := q1.sl
  obtain ⟨a, c, e1, e2, e3⟩ := hobt
  rw [List.length_map] at e1
  exact ⟨x, a, c, e1, e2, fun b o e => q2 b (e3 b o e).1⟩
end
theorem at_of {a : Option Addr} {L : List At} {i : Nat} {A A' : AH} (h : Sl A 35 12 a (L.map At.enc)) (hi : i < L.length) (hw : A.wf) (hx : Ext A A') : ∃ (b o : Nat) (cs : List Value) (q : TypeId × Bool) (x : At), x = L[i]'hi ∧ a = some ⟨b, o, none⟩ ∧ A'.get b = some (.row cs q.1 q.2) ∧ o + i * 12 + 12 ≤ cs.length ∧ (cs.drop (o + i * 12)).take 12 = x.enc := by
  have hobt := (h.ext hw hx).at (i := i) (by simpa using hi)
  obtain ⟨b, o, cs, q, h1, h2, h3, h4⟩ := hobt
  rw [List.getElem_map] at h4
  exact ⟨b, o, cs, q, L[i]'hi, rfl, h1, h2, h3, h4⟩
end
end Go.Proofs.Ytieehccjajhpfaa.AC
