/-
  What the law does.
-/
import Derived.Test.YtieehccjajhpfaaCAL
import Derived.Test.YtieehccjajhpfaaS4
set_option linter.unusedSimpArgs false
set_option linter.unusedVariables false
/- The law AdmitNobody. -/
namespace Go.Proofs.Ytieehccjajhpfaa.AC
open Go Go.AI Go.Proofs Go.Proofs.Ytieehccjajhpfaa.AQ
set_option linter.unusedVariables false
set_option linter.unusedSimpArgs false
def BT (A : AH) (v : Value) : Prop := v = .pointer none ∨ ∃ t x y, v = .pointer (some ⟨t, 0, none⟩) ∧ A.get t = some (.row [.bool false, x, y] 70 false)
theorem BT.ext {A A' : AH} {v : Value} (h : BT A v) (hw : A.wf) (hx : Ext A A') : BT A' v := by
  rcases h with h | ⟨t, x, y, h1, h2⟩
  · exact Or.inl h
  · exact Or.inr ⟨t, x, y, h1, hx.get hw h2⟩
theorem gb {A : AH} {v : Value} (h : BT A v) : ACall Try.prog 36 [v] A fun r A' => r = .bool false ∧ A' = A := by
  rcases h with rfl | ⟨t, x, y, rfl, h2⟩
  · exact good_nil A
  · exact good_ok h2
theorem admit_bad {A : AH} {v : Value} (h : BT A v) (k : Key) (w : Wt) : ACall Try.prog 19 [v, .agg k.enc.toArray, .agg w.enc.toArray] A fun r A' => r = .tuple #[.slice none 0 0, .int .i64 1] ∧ Ext A A' := by
  have hwl : w.enc.length = 6 := rfl
  have hwt : w.enc.take 6 = w.enc := rfl
  refine ACall.wf fun hwf => ?_
  have x1 : Ext A ((A.alloc (.row k.enc 23 false)).alloc (.row w.enc 33 false)) := (Ext.alloc A _).app (by simp) _
  refine code19.call (by simp) fun hwf => ?_
  unfold c19
  simp [hwl, hwt]
  refine CN.use (gb (h.ext hwf x1)) ?_
  rintro _ A2 hw2 hn2 ⟨rfl, rfl⟩
  simp
  exact DN.of ⟨rfl, x1⟩
theorem drop_bad {A : AH} {v : Value} (h : BT A v) (k : Key) : ACall Try.prog 18 [v, .agg k.enc.toArray] A fun r A' => r = .int .i64 1 ∧ Ext A A' := by
  refine ACall.wf fun hwf => ?_
  have x1 := Ext.alloc A (.row k.enc 23 false)
  refine code18.call (by simp) fun hwf => ?_
  unfold c18
  simp
  refine CN.use (gb (h.ext hwf x1)) ?_
  rintro _ A2 hw2 hn2 ⟨rfl, rfl⟩
  simp
  exact DN.of ⟨rfl, x1⟩
theorem entries_bad {A : AH} {v : Value} (h : BT A v) : ACall Try.prog 26 [v] A fun r A' => r = .slice none 0 0 ∧ Ext A A' := by
  refine code26.call (by simp) fun hwf => ?_
  unfold c26
  simp
  refine CN.use (gb h) ?_
  rintro _ A2 hw2 hn2 ⟨rfl, rfl⟩
  simp
  exact DN.of ⟨rfl, Ext.refl _⟩
theorem ledger_bad {A : AH} {v : Value} (h : BT A v) : ACall Try.prog 22 [v] A fun r A' => r = .agg #[.int .u64 0, .int .u64 0, .int .u64 0, .int .u64 0, .int .u64 0, .int .u64 0, .int .u64 0, .int .u64 0, .int .u64 0] ∧ Ext A A' := by
  refine ACall.wf fun hwf => ?_
  have x1 := Ext.alloc A (.row [.int .u64 0, .int .u64 0, .int .u64 0, .int .u64 0, .int .u64 0, .int .u64 0, .int .u64 0, .int .u64 0, .int .u64 0] 48 false)
  refine code22.call (by simp) fun hwf => ?_
  unfold c22
  simp
  refine CN.use (gb (h.ext hwf x1)) ?_
  rintro _ A2 hw2 hn2 ⟨rfl, rfl⟩
  simp
  exact DN.of ⟨rfl, x1⟩
theorem copy_bad {A : AH} {v : Value} (h : BT A v) : ACall Try.prog 32 [v] A fun r A' => r = .pointer none ∧ Ext A A' := by
  refine code32.call (by simp) fun hwf => ?_
  unfold c32
  simp
  refine CN.use (gb h) ?_
  rintro _ A2 hw2 hn2 ⟨rfl, rfl⟩
  simp
  exact DN.of ⟨rfl, Ext.refl _⟩
structure Rec where
  t : Nat
  l : List En
  a : Option Addr
  c : Nat
def RO (A : AH) (n : Nat) (r : Rec) : Prop := (∃ ob, TabA A r.t ob 20 r.l ∧ r.t < n ∧ ∀ b, ob = some b → b < n) ∧ Sl A 63 10 r.a (r.l.map En.enc) ∧ TyOk A r.a 63 ∧ ∀ b o, r.a = some ⟨b, o, none⟩ → b < n
theorem RO.kept {A A' : AH} {n : Nat} {r : Rec} (h : RO A n r) (hk : ∀ b, b < n → (∃ cs T ro, A.get b = some (.row cs T ro) ∧ (T = 70 ∨ T = 63)) → A'.get b = A.get b) : RO A' n r := by
  obtain ⟨⟨ob, h1, h2, h3⟩, h4, h5, h6⟩ := h
  have hobt := h1.row
  obtain ⟨tv, hrow, hlst⟩ := hobt
  refine ⟨⟨ob, h1.kept (hk _ h2 ⟨_, _, _, hrow, Or.inl rfl⟩) (fun b hb => ?_), h2, h3⟩, h4.kept fun b o x e hb => ?_, fun b o e => ?_, h6⟩
  · rcases hlst.2 with ⟨e4, _⟩ | ⟨b', c', rest, e4, _, e5, _⟩
    · rw [e4] at hb; cases hb
    · rw [e4] at hb; injection hb with hb; subst hb
      exact hk _ (h3 _ e4) ⟨_, _, _, e5, Or.inr rfl⟩
  · obtain ⟨cs, ro, g⟩ := h5 b o e
    exact hk b (h6 b o e) ⟨cs, _, ro, g, Or.inr rfl⟩
  · obtain ⟨cs, ro, g⟩ := h5 b o e
    exact ⟨cs, ro, (hk b (h6 b o e) ⟨cs, _, ro, g, Or.inr rfl⟩).trans g⟩
theorem RO.wide {A : AH} {n n' : Nat} {r : Rec} (h : RO A n r) (hn : n ≤ n') : RO A n' r := by
  obtain ⟨⟨ob, h1, h2, h3⟩, h4, h5, h6⟩ := h
  exact ⟨⟨ob, h1, by omega, fun b hb => by have := h3 b hb; omega⟩, h4, h5, fun b o e => by have := h6 b o e; omega⟩
theorem lty {A : AH} {e : TypeId} {z : Nat} {ob : Option Nat} {v : Value} {L : List (List Value)} (h : Lst A e z ob v L) {a : Option Addr} {n c : Nat} (hv : v = .slice a n c) : TyOk A a e := fun b o hb => by
  rcases h.2 with ⟨_, h1, _⟩ | ⟨b', c', rest, _, h1, h3, _⟩
  · rw [hv] at h1; injection h1 with h1; rw [h1] at hb; cases hb
  · rw [hv] at h1; injection h1 with h1; rw [h1] at hb; injection hb with hb; injection hb with hb; subst hb; exact ⟨_, _, h3⟩
theorem lge {A : AH} {e : TypeId} {z b : Nat} {v : Value} {L : List (List Value)} {ob : Option Nat} (h : Lst A e z ob v L) (hb : ob = some b) : ∃ cs, A.get b = some (.row cs e false) := by
  rcases h.2 with ⟨h1, _⟩ | ⟨b', c', rest, h1, _, h3, _⟩
  · rw [h1] at hb; cases hb
  · rw [h1] at hb; injection hb with hb; subst hb; exact ⟨_, h3⟩
def KT (A A' : AH) : Prop := ∀ b, (∃ cs T ro, A.get b = some (.row cs T ro) ∧ (T = 70 ∨ T = 63)) → A'.get b = A.get b
theorem RO.keep {A A' : AH} {n : Nat} {r : Rec} (h : RO A n r) (hk : KT A A') : RO A' n r := h.kept fun b _ => hk b
theorem tke {A A' : AH} {t size : Nat} {ob : Option Nat} {l : List En} (h : TabA A t ob size l) (hk : KT A A') : TabA A' t ob size l := by
  have hobt := h.row
  obtain ⟨tv, hrow, hlst⟩ := hobt
  refine h.kept (hk _ ⟨_, _, _, hrow, Or.inl rfl⟩) fun b hb => ?_
  have hobt := lge hlst hb
  obtain ⟨cs, g⟩ := hobt
  exact hk _ ⟨_, _, _, g, Or.inr rfl⟩
theorem kex {A A' : AH} (hw : A.wf) (hx : Ext A A') : KT A A' := fun b ⟨cs, T, ro, h, _⟩ => hx b (hw _ _ h)
theorem kpu {A A' : AH} {e : TypeId} {z : Nat} {ob : Option Nat} {v : Value} {L : List (List Value)} (hw : A.wf) (h : Lst A e z ob v L) (h1 : 70 ≠ e) (h2 : 63 ≠ e) (hk : ∀ k, k < A.next → ob ≠ some k → A'.get k = A.get k) : KT A A' := fun b ⟨cs, T, ro, g, hT⟩ => hk b (hw _ _ g) (Lst.ty h g (by rcases hT with h3 | h3 <;> rw [h3] <;> assumption))
theorem kse {n0 n1 : Nat} {A A' : AH} {e : TypeId} {z : Nat} {ob : Option Nat} {v : Value} {L : List (List Value)} (hw : A.wf) (h : Lst A e z ob v L) (hs : Seen n0 n1 A A') (h1 : e ≠ 70) (h2 : e ≠ 63) : Lst A' e z ob v L := h.kept fun b hb => by
  have hobt := lge h hb
  obtain ⟨cs, g⟩ := hobt
  exact hs b (hw _ _ g) (Or.inr (Or.inr ⟨cs, e, false, g, h1, h2⟩))
def recT (r : Rec) : List Value := [.pointer (some ⟨r.t, 0, none⟩)]
def recW (r : Rec) : List Value := [.slice r.a r.l.length r.c]
set_option maxHeartbeats 8000000 in
theorem admitNobody_walk {A : AH} {c : Nat} {a : Option Addr} {L : List At} (hl : Sl A 35 12 a (L.map At.enc)) (ho : ActsOk L) : ACall Try.prog 10 [.slice a L.length c] A fun v A' => v = .bool true := by
  have hf0 : aField Try.prog 48 (.agg #[.int .u64 0, .int .u64 0, .int .u64 0, .int .u64 0, .int .u64 0, .int .u64 0, .int .u64 0, .int .u64 0, .int .u64 0]) 0 = some (.int .u64 0) := by kernel_rfl
  refine code10.call (by simp) fun hwf => ?_
  unfold c10
  simp
  refine CN.use (alive_ok A) ?_
  rintro _ A1 hw1 hn1 ⟨rfl, x1⟩
  have hobx : ∃ B, B = (A1.alloc (.row [.bool false, .int .u64 0, .slice none 0 0] 70 false)).alloc (.row [.pointer none, .pointer (some ⟨A1.next, 0, none⟩)] 28 false) := ⟨_, rfl⟩
  obtain ⟨B, hB⟩ := hobx
  have nB : B.next = A1.next + 2 := by rw [hB]; rfl
  have wB : B.wf := by rw [hB]; exact AH.wf_alloc (AH.wf_alloc hw1 _) _
  have xB : Ext A1 B := by rw [hB]; exact (Ext.alloc A1 _).app (by simp) _
  have tB : B.get A1.next = some (.row [.bool false, .int .u64 0, .slice none 0 0] 70 false) := by rw [hB, AH.get_alloc, if_neg (by simp), AH.get_new]
  have lB : B.get (A1.next + 1) = some (.row [.pointer none, .pointer (some ⟨A1.next, 0, none⟩)] 28 false) := by rw [hB, AH.get_alloc, if_pos (by simp)]
  simp [← hB]
  refine LN.use (fun d E A' => ∃ i : Nat, d + i = 2 ∧ Ext B A' ∧ B.next ≤ A'.next ∧ E.get 0 = .slice a L.length c ∧ E.get 16 = .slice (some ⟨A1.next + 1, 0, none⟩) 2 2 ∧ E.get 17 = .int .i64 2 ∧ E.get 18 = .int .i64 i) 2
    ⟨0, by omega, Ext.refl _, Nat.le_refl _, by simp, by simp, by simp, by simp⟩ ?_
  rintro d E C hwC hnC ⟨i, hi, xC, nC, E0, E16, E17, E18⟩
  have lC := xC.get wB lB
  have tC := xC.get wB tB
  have x1C := xB.trans (by omega) xC
  by_cases hlt : i < 2
  · have gi : IntKind.i64.wrap ((i : Int) + 1) = ((i + 1 : Nat) : Int) := by rw [i64_in (by omega) (by omega)]; simp
    have hl' : (i : Int) < 2 := by omega
    have hx0 : ∃ tv, (∀ h, ([Value.pointer none, .pointer (some ⟨A1.next, 0, none⟩)] : List Value)[i]'h = tv) ∧ BT C tv := by
      have h01 : i = 0 ∨ i = 1 := by omega
      rcases h01 with rfl | rfl
      · exact ⟨_, fun h => rfl, Or.inl rfl⟩
      · exact ⟨_, fun h => rfl, Or.inr ⟨_, _, _, rfl, tC⟩⟩
    obtain ⟨tv, htv, hbad⟩ := hx0
    simp [E0, E16, E17, E18, hlt, hl', lC, htv]
    refine CN.use (admit_bad hbad ⟨0, 0, 0, 0⟩ wantZ) ?_
    rintro _ C1 hv1 hm1 ⟨rfl, y1⟩
    have bad1 := hbad.ext hwC y1
    simp
    refine CN.use (drop_bad bad1 ⟨0, 0, 0, 0⟩) ?_
    rintro _ C2 hv2 hm2 ⟨rfl, y2⟩
    have bad2 := bad1.ext hv1 y2
    simp
    refine CN.use (entries_bad bad2) ?_
    rintro _ C3 hv3 hm3 ⟨rfl, y3⟩
    have bad3 := bad2.ext hv2 y3
    simp
    refine CN.use (ledger_bad bad3) ?_
    rintro _ C4 hv4 hm4 ⟨rfl, y4⟩
    have bad4 := bad3.ext hv3 y4
    simp [hf0]
    refine CN.use (copy_bad bad4) ?_
    rintro _ C5 hv5 hm5 ⟨rfl, y5⟩
    simp [E18, gi]
    exact NX.of ⟨d - 1, by omega, i + 1, by omega, xC.trans (by omega) (y1.trans (by omega) (y2.trans (by omega) (y3.trans (by omega) (y4.trans (by omega) y5)))), by omega, by simp [E0], by simp [E16], by simp [E17], by simp⟩
  · have hl' : ¬ (i : Int) < 2 := by omega
    simp [E0, E17, E18, hlt, hl']
    refine CN.use (ps_new (size := 20) (by omega) C) ?_
    rintro _ D hwD hnD ⟨rfl, psD, xD⟩
    have hexb : ∃ t0, t0 = C.next := ⟨_, rfl⟩
    obtain ⟨t0, ht0⟩ := hexb
    rw [← ht0] at psD
    have x0D := x1.trans (by omega) (x1C.trans (by omega) xD)
    have psD' := psD.now hwD
    clear E16 E17 E18
    simp [E0]
    refine LN.join 2 (fun d E A' => ∃ (i n0 tb : Nat) (lst : List En) (R : List Rec) (ob1 ob2 : Option Nat) (v1 v2 : Value), d + i = L.length ∧ Ext A A' ∧ A.next ≤ n0 ∧ n0 ≤ A'.next ∧ PS n0 A'.next A' tb 20 lst ∧ R.length ≤ 8 ∧ Lst A' 28 1 ob1 v1 (R.map recT) ∧ Lst A' 55 1 ob2 v2 (R.map recW) ∧ (∀ b, ob1 = some b → A.next ≤ b) ∧ (∀ b, ob2 = some b → A.next ≤ b) ∧ (∀ r ∈ R, RO A' n0 r) ∧ E.get 0 = .slice a L.length c ∧ E.get 7 = .pointer (some ⟨tb, 0, none⟩) ∧ E.get 8 = v1 ∧ E.get 9 = v2 ∧ E.get 10 = .int .i64 i) L.length
      (fun E A' => A'.wf ∧ ∃ (n0 : Nat) (R : List Rec) (ob1 ob2 : Option Nat) (v1 v2 : Value), R.length ≤ 8 ∧ Lst A' 28 1 ob1 v1 (R.map recT) ∧ Lst A' 55 1 ob2 v2 (R.map recW) ∧ (∀ r ∈ R, RO A' n0 r) ∧ E.get 8 = v1 ∧ E.get 9 = v2)
      ⟨0, C.next, t0, [], [], none, none, _, _, by omega, x0D, by omega, by omega, (by rw [← ht0]; exact psD'), by simp, Lst.nil _ _ _, Lst.nil _ _ _, by simp, by simp, by simp, by simp [E0], by simp [ht0], by simp, by simp, by simp⟩ ?_ ?_
    · clear E0
      rintro d E A3 hw3 hn3 ⟨i, n0, tb, lst, R, ob1, ob2, v1, v2, hi, x3, hn0, n3, ps3, hR8, l1, l2, f1, f2, hq, E0, E7, E8, E9, E10⟩
      by_cases hlt : i < L.length
      rotate_left
      · have hl' : ¬ (i : Int) < L.length := by omega
        simp [E0, E10, hlt, hl']
        exact NX.of ⟨hw3, n0, R, ob1, ob2, v1, v2, hR8, l1, l2, hq, by simp [E8], by simp [E9]⟩
      have hl' : (i : Int) < L.length := by omega
      by_cases h80 : i < 80
      rotate_left
      · have i80 : ¬ (i : Int) < 80 := by omega
        simp [E0, E10, hlt, hl', h80, i80]
        exact NX.of ⟨hw3, n0, R, ob1, ob2, v1, v2, hR8, l1, l2, hq, by simp [E8], by simp [E9]⟩
      have i80 : (i : Int) < 80 := by omega
      have gi : IntKind.i64.wrap ((i : Int) + 1) = ((i + 1 : Nat) : Int) := by rw [i64_in (by omega) (by omega)]; simp
      have hobt := at_of hl hlt hwf x3
      obtain ⟨b, o, cs, q, x, hx, rfl, g1, g2, g3⟩ := hobt
      have hxo : x.w.bw < 18446744073709551616 := by rw [hx]; exact ho _ (List.getElem_mem hlt)
      have hobt := x.cells
      obtain ⟨c1, c2, c3, c4, c5, c6, c7⟩ := hobt
      have g4 : cs[o + i * 12 + 1]? = some (.bool x.fork) := by rw [at_cell g3 (by omega)]; exact c7
      have hobt := l1.slm
      obtain ⟨sa1, sc1, hv1, -⟩ := hobt
      have hobt := l2.slm
      obtain ⟨sa2, sc2, hv2, -⟩ := hobt
      subst hv1
      subst hv2
      have hbl : b < A.next := by
        have hs := hl.at (i := i) (by simpa using hlt)
        obtain ⟨b', o', cs', q', e1, e2, -⟩ := hs
        injection e1 with e1; injection e1 with e1; subst e1
        exact hwf _ _ e2
      have hbool := Bool.eq_false_or_eq_true x.fork
      by_cases hR : x.fork = true ∧ R.length < 8
      rotate_left
      · have hR' : x.fork = true → ¬ (R.length : Int) < 8 := fun h => by simp [h] at hR; omega
        rcases hbool with hfk | hfk <;> simp [E0, E7, E8, E9, E10, hlt, hl', h80, i80, g1, g4, hfk, g2, g3, hR']
        all_goals
          refine CN.use (ps_does ps3 (Nat.le_refl _) x hxo) ?_
          rintro _ A4 hw4 hn4 ⟨ps4, sn4, ga, gc, rfl, -, -⟩
          simp [E10, gi]
          exact NX.of ⟨d - 1, by omega, i + 1, n0, tb, _, R, ob1, ob2, _, _, by omega, fun b hb => by rw [sn4.low (by omega) n3, x3 b hb], hn0, by omega, ps4, hR8, kse hw3 l1 sn4 (by decide) (by decide), kse hw3 l2 sn4 (by decide) (by decide), f1, f2, fun r hr => (hq r hr).kept fun b hb _ => sn4.low hb n3, by simp [E0], by simp [E7], by simp [E8], by simp [E9], by simp⟩
      obtain ⟨hfk, hR⟩ := hR
      have hR' : (R.length : Int) < 8 := by omega
      obtain ⟨obt, tab3, htb, hobt⟩ := ps3
      have hp1 := l1.push (y := 8) hw3 (r := [.pointer (some ⟨tb, 0, none⟩)]) ⟨rfl, rfl⟩ (by omega) (by omega) (by simp; omega) (by simp; omega)
      obtain ⟨v4, A4, ob4, p1, p2, p3, p4, p5⟩ := hp1
      have w4 : A4.wf := appW_wf p1 (AH.wf_alloc hw3 _)
      have kp1 := kpu hw3 l1 (by decide) (by decide) p3
      have tab4 := tke tab3 kp1
      have l24 : Lst A4 55 1 ob2 (.slice sa2 R.length sc2) (R.map recW) := l2.kept fun b hb => by
        have hobt := lge l2 hb
        obtain ⟨cs, g⟩ := hobt
        exact p3 b (hw3 _ _ g) (Lst.ty l1 g (by decide))
      simp [E0, E7, E8, E9, E10, hlt, hl', h80, i80, g1, g4, hfk, hR, hR', p1]
      refine CN.use (entries_ok tab4) ?_
      rintro ev A5 hw5 hn5 ⟨x5, oe, le5, fe5⟩
      have hobt := le5.sl
      obtain ⟨ea, ec, hev, se5, hea⟩ := hobt
      have ht5 := lty le5 hev
      rw [List.length_map] at hev
      subst hev
      have tab5 := tab4.ext w4 x5
      have l25 := l24.kept (A' := A5) fun b hb => x5 b (l24.lt w4 hb)
      have l15 := p2.kept (A' := A5) fun b hb => x5 b (p2.lt w4 hb)
      have hp2 := l25.push (y := 24) hw5 (r := [.slice ea lst.length ec]) ⟨rfl, rfl⟩ (by omega) (by omega) (by simp; omega) (by simp; omega)
      obtain ⟨v6, A6, ob6, s1, s2, s3, s4, s5⟩ := hp2
      have w6 : A6.wf := appW_wf s1 (AH.wf_alloc hw5 _)
      have kp2 := kpu hw5 l25 (by decide) (by decide) s3
      have tab6 := tke tab5 kp2
      have l16 : Lst A6 28 1 ob4 v4 ((R.map recT) ++ [[.pointer (some ⟨tb, 0, none⟩)]]) := l15.kept fun b hb => by
        have hobt := lge l15 hb
        obtain ⟨cs, g⟩ := hobt
        exact s3 b (hw5 _ _ g) (Lst.ty l25 g (by decide))
      have ht6 := tab6.lt w6
      have r6 : RO A6 A6.next ⟨tb, lst, ea, ec⟩ := by
        have hk : ∀ b o, ea = some ⟨b, o, none⟩ → A6.get b = A5.get b := fun b o e => by
          have hobt := ht5 b o e
          obtain ⟨cs, ro, g⟩ := hobt
          exact kp2 b ⟨cs, _, ro, g, Or.inr rfl⟩
        refine ⟨⟨obt, tab6, ht6.1, ht6.2⟩, se5.kept fun b o x e _ => hk b o e, fun b o e => ?_, fun b o e => ?_⟩
        · obtain ⟨cs, ro, g⟩ := ht5 b o e
          exact ⟨cs, ro, (hk b o e).trans g⟩
        · obtain ⟨cs, ro, g⟩ := ht5 b o e
          have := hw5 _ _ g; omega
      have kp : KT A3 A6 := fun b hb => by
        have e1 := kp1 b hb
        obtain ⟨cs, T, ro, g, hT⟩ := hb
        have e2 := x5 b (w4 _ _ (e1.trans g))
        have e3 := kp2 b ⟨cs, T, ro, e2.trans (e1.trans g), hT⟩
        rw [e3, e2, e1]
      simp [E7, E9, s1]
      refine CN.use (copy_ok tab6) ?_
      rintro _ A7 hw7 hn7 ⟨x7, t7, ob7, rfl, tab7, ht7, hob7⟩
      have hu7 := tab7.lt hw7
      have ps7 : PS A6.next A7.next A7 t7 20 lst := ⟨ob7, tab7, ⟨ht7, hu7.1⟩, fun b hb => ⟨hob7 b hb, hu7.2 b hb⟩⟩
      have l17 := l16.kept (A' := A7) fun b hb => x7 b (l16.lt w6 hb)
      have l27 := s2.kept (A' := A7) fun b hb => x7 b (s2.lt w6 hb)
      have x06 : Ext A A6 := fun b' hb' => by
        rw [s3 b' (by omega) (fun e => by have := f2 b' e; omega), x5 b' (by omega), p3 b' (by omega) (fun e => by have := f1 b' e; omega), x3 b' hb']
      have g17 : A7.get b = some (.row cs q.1 q.2) := by rw [x7 b (by omega), x06 b hbl, ← x3 b hbl, g1]
      have f14 : ∀ b, ob4 = some b → A.next ≤ b := fun b hb => by
        rcases p4 with e | e
        · exact f1 b (by rw [← e]; exact hb)
        · rw [e] at hb; injection hb with hb; omega
      have f26 : ∀ b, ob6 = some b → A.next ≤ b := fun b hb => by
        rcases s4 with e | e
        · exact f2 b (by rw [← e]; exact hb)
        · rw [e] at hb; injection hb with hb; omega
      simp [E0, E10, g17, hlt, hl', g2, g3]
      refine CN.use (ps_does ps7 (Nat.le_refl _) x hxo) ?_
      rintro _ A8 hw8 hn8 ⟨ps8, sn8, ga, gc, rfl, -, -⟩
      have hobt := l17.form
      obtain ⟨za, zn, zc, rfl⟩ := hobt
      have hobt := l27.form
      obtain ⟨ya, yn, yc, rfl⟩ := hobt
      simp [E10, gi]
      refine NX.of ⟨d - 1, by omega, i + 1, A6.next, t7, _, R ++ [⟨tb, lst, ea, ec⟩], ob4, ob6, _, _, by omega, fun b hb => by rw [sn8.low (by omega) (by omega), x7 b (by omega), x06 b hb], by omega, by omega, ps8, by simp; omega, by rw [List.map_append]; exact kse hw7 l17 sn8 (by decide) (by decide), by rw [List.map_append]; exact kse hw7 l27 sn8 (by decide) (by decide), f14, f26, fun r hr => ?_, by simp [E0], by simp, by simp, by simp, by simp⟩
      have h6 : RO A6 A6.next r := by
        rcases List.mem_append.1 hr with hr | hr
        · exact ((hq r hr).keep kp).wide (by omega)
        · rw [List.mem_singleton.1 hr]; exact r6
      exact (h6.keep (kex w6 x7)).kept fun b hb _ => sn8.low hb (by omega)
    · rintro E A3 ⟨hw3, n0, R, ob1, ob2, v1, v2, hR8, l1, l2, hq, E8, E9⟩
      have hobt := l1.slm
      obtain ⟨sa1, sc1, hv1, ss1⟩ := hobt
      have hobt := l2.slm
      obtain ⟨sa2, sc2, hv2, ss2⟩ := hobt
      subst hv1
      subst hv2
      simp [E8]
      refine LN.use (fun d E A' => ∃ i : Nat, d + i = R.length ∧ Ext A3 A' ∧ A3.next ≤ A'.next ∧ E.get 8 = .slice sa1 R.length sc1 ∧ E.get 9 = .slice sa2 R.length sc2 ∧ E.get 103 = .int .i64 R.length ∧ E.get 104 = .int .i64 i) R.length
        ⟨0, by omega, Ext.refl _, Nat.le_refl _, by simp [E8], by simp [E9], by simp, by simp⟩ ?_
      clear E8 E9
      rintro d E A4 hw4 hn4 ⟨i, hi, x4, n4, E8, E9, E103, E104⟩
      by_cases hlt : i < R.length
      · have hl' : (i : Int) < R.length := by omega
        have gi : IntKind.i64.wrap ((i : Int) + 1) = ((i + 1 : Nat) : Int) := by rw [i64_in (by omega) (by omega)]; simp
        have hobx : ∃ r, r = R[i]'hlt := ⟨_, rfl⟩
        obtain ⟨r, hr⟩ := hobx
        have hrm : r ∈ R := by rw [hr]; exact List.getElem_mem hlt
        have hobt := (ss1.ext hw3 x4).one (i := i) (v := .pointer (some ⟨r.t, 0, none⟩)) (by rw [List.getElem?_map, List.getElem?_eq_getElem hlt, ← hr]; rfl)
        obtain ⟨b1, o1, cs1, q1, rfl, u1, u2⟩ := hobt
        have hobt := (ss2.ext hw3 x4).one (i := i) (v := .slice r.a r.l.length r.c) (by rw [List.getElem?_map, List.getElem?_eq_getElem hlt, ← hr]; rfl)
        obtain ⟨b2, o2, cs2, q2, rfl, k1, k2⟩ := hobt
        have hr4 := (hq r hrm).keep (kex hw3 x4)
        obtain ⟨⟨obr, tr, -, -⟩, sr4, -, -⟩ := hr4
        have hz := tr.ok.len
        simp [E8, E9, E103, E104, hlt, hl', u1, u2, k1, k2]
        refine CN.use (entries_ok tr) ?_
        rintro ev A5 hw5 hn5 ⟨x5, oe, le5, fe5⟩
        have hobt := le5.sl
        obtain ⟨ea, ec, hev, se5, hea⟩ := hobt
        rw [List.length_map] at hev
        subst hev
        have k15 := x5.get hw4 k1
        simp [k15, k2]
        refine CN.use (ours_ok se5 (by omega)) ?_
        rintro v2 A6 hw6 hn6 ⟨x6, rd6⟩
        have k16 := x6.get hw5 k15
        have x46 := x5.trans (by omega) x6
        simp [E9, k16, k2, hlt, hl']
        refine CN.use (ours_ok (sr4.ext hw4 x46) (by omega)) ?_
        rintro v3 A7 hw7 hn7 ⟨x7, rd7⟩
        simp
        refine CN.use (same_ok (rd6.ext hw6 x7) rd7 (by omega)) ?_
        rintro _ A8 hw8 hn8 ⟨rfl, rfl⟩
        simp [E104, gi]
        exact NX.of ⟨d - 1, by omega, i + 1, by omega, x4.trans (by omega) (x46.trans (by omega) x7), by omega, by simp [E8], by simp [E9], by simp [E103], by simp⟩
      · have hl' : ¬ (i : Int) < R.length := by omega
        simp [E103, E104, hlt, hl']
        exact DN.of rfl
end Go.Proofs.Ytieehccjajhpfaa.AC
