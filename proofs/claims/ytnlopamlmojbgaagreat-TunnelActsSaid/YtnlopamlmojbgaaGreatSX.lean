/-
  What the law does.
-/
import Derived.Test.YtnlopamlmojbgaaGreatCAL
import Derived.Test.YtnlopamlmojbgaaGreatS3
set_option linter.unusedSimpArgs false
set_option linter.unusedVariables false
/- The document's manager: a value. -/
namespace Go.Proofs.YtnlopamlmojbgaaGreat.AC
open Go Go.AI Go.Proofs Go.Proofs.YtnlopamlmojbgaaGreat.AQ
set_option linter.unusedVariables false
set_option linter.unusedSimpArgs false
structure RgM where
  hd : Int
  n : Int
  xs : List VwM
  la : Option Addr
  lc : Nat
  cnt : Int
  acs : List AcM
  aa : Option Addr
  ac : Nat
  lns : List Li
  na : Option Addr
  nc : Nat
def RgM.enc (R : RgM) : List Value := [.int .i64 R.hd, .int .i64 R.n, .slice R.la R.xs.length R.lc, .int .i64 R.cnt, .slice R.aa R.acs.length R.ac, .slice R.na R.lns.length R.nc]
def RgM.m (R : RgM) : Mg := ⟨R.hd, R.n, R.xs.map VwM.v, R.cnt, R.acs.map AcM.x, R.lns⟩
structure RgM.ok (A : AH) (R : RgM) : Prop where
  l : Sl A 107 32 R.la (R.xs.map VwM.enc)
  lo : ∀ x ∈ R.xs, x.ok A
  a : Sl A 102 13 R.aa (R.acs.map AcM.enc)
  ao : ∀ x ∈ R.acs, x.ok A
  n : Sl A 104 4 R.na (R.lns.map Li.enc)
  tl : ∀ b o, R.la = some ⟨b, o, none⟩ → ∃ cs ro, A.get b = some (.row cs 107 ro)
  ta : ∀ b o, R.aa = some ⟨b, o, none⟩ → ∃ cs ro, A.get b = some (.row cs 102 ro)
  tn : ∀ b o, R.na = some ⟨b, o, none⟩ → ∃ cs ro, A.get b = some (.row cs 104 ro)
theorem RgM.ok.keep {A A' : AH} {R : RgM} (h : R.ok A) (hf : ∀ k cs T ro, A.get k = some (.row cs T ro) → T = 107 ∨ T = 102 ∨ T = 104 ∨ T = 3 → A'.get k = A.get k) : R.ok A' := by
  have hi : ∀ b cs ro, A.get b = some (.row cs 3 ro) → A'.get b = A.get b := fun b cs ro g => hf b cs _ ro g (Or.inr (Or.inr (Or.inr rfl)))
  refine ⟨h.l.kept fun b o y e _ => ?_, fun x hx => ⟨(h.lo x hx).1.int hi, (h.lo x hx).2.int hi⟩, h.a.kept fun b o y e _ => ?_, fun x hx => (h.ao x hx).int hi, h.n.kept fun b o y e _ => ?_, fun b o e => ?_, fun b o e => ?_, fun b o e => ?_⟩
  · obtain ⟨cs, ro, g⟩ := h.tl b o e; exact hf b cs _ ro g (Or.inl rfl)
  · obtain ⟨cs, ro, g⟩ := h.ta b o e; exact hf b cs _ ro g (Or.inr (Or.inl rfl))
  · obtain ⟨cs, ro, g⟩ := h.tn b o e; exact hf b cs _ ro g (Or.inr (Or.inr (Or.inl rfl)))
  · obtain ⟨cs, ro, g⟩ := h.tl b o e; exact ⟨cs, ro, (hf b cs _ ro g (Or.inl rfl)).trans g⟩
  · obtain ⟨cs, ro, g⟩ := h.ta b o e; exact ⟨cs, ro, (hf b cs _ ro g (Or.inr (Or.inl rfl))).trans g⟩
  · obtain ⟨cs, ro, g⟩ := h.tn b o e; exact ⟨cs, ro, (hf b cs _ ro g (Or.inr (Or.inr (Or.inl rfl)))).trans g⟩
theorem RgM.ok.box {A : AH} {R : RgM} (h : R.ok A) {c : Nat} {cs : List Value} {T : TypeId} {ro : Bool} (hg : A.get c = some (.row cs T ro)) (hT : T ≠ 107 ∧ T ≠ 102 ∧ T ≠ 104 ∧ T ≠ 3) (x : Blk) : R.ok (A.set c x) := h.keep fun k cs' T' ro' g ht => by
  rw [AH.get_set, if_neg]
  intro e; subst e
  rw [hg] at g; injection g with g; injection g with _ g _
  subst g
  rcases ht with e | e | e | e
  · exact hT.1 e
  · exact hT.2.1 e
  · exact hT.2.2.1 e
  · exact hT.2.2.2 e
theorem RgM.ok.ext {A A' : AH} {R : RgM} (h : R.ok A) (hw : A.wf) (hx : Ext A A') : R.ok A' := h.keep fun k cs T ro g _ => hx k (hw _ _ g)
def RgM.lb (R : RgM) (c : Nat) : Prop := ∀ o, R.la ≠ some ⟨c, o, none⟩
theorem RgM.ok.lbs {A : AH} {R : RgM} (h : R.ok A) (hw : A.wf) {c : Nat} (hc : A.next ≤ c) : R.lb c := fun o e => by
  have hobt := h.tl c o e
  obtain ⟨cs, ro, g⟩ := hobt
  have := hw _ _ g; omega
theorem RgM.ok.vbox {A : AH} {R : RgM} (h : R.ok A) {c : Nat} {cs : List Value} {ro : Bool} (hg : A.get c = some (.row cs 107 ro)) (hl : R.lb c) (x : Blk) : R.ok (A.set c x) := by
  have hk : ∀ k cs' T' ro', A.get k = some (.row cs' T' ro') → T' ≠ 107 → (A.set c x).get k = A.get k := fun k cs' T' ro' g ht => by
    rw [AH.get_set, if_neg]
    intro e; subst e; rw [hg] at g; injection g with g; injection g with _ g _; exact ht g.symm
  have hi : ∀ b cs ro, A.get b = some (.row cs 3 ro) → (A.set c x).get b = A.get b := fun b cs ro g => hk b cs _ ro g (by decide)
  have hv : ∀ b o, R.la = some ⟨b, o, none⟩ → (A.set c x).get b = A.get b := fun b o e => by
    rw [AH.get_set, if_neg]
    intro e2; subst e2; exact hl o e
  refine ⟨h.l.kept fun b o y e _ => hv b o e, fun x hx => ⟨(h.lo x hx).1.int hi, (h.lo x hx).2.int hi⟩, h.a.kept fun b o y e _ => ?_, fun x hx => (h.ao x hx).int hi, h.n.kept fun b o y e _ => ?_, fun b o e => ?_, fun b o e => ?_, fun b o e => ?_⟩
  · obtain ⟨cs, ro, g⟩ := h.ta b o e; exact hk b cs _ ro g (by decide)
  · obtain ⟨cs, ro, g⟩ := h.tn b o e; exact hk b cs _ ro g (by decide)
  · obtain ⟨cs, ro, g⟩ := h.tl b o e; exact ⟨cs, ro, (hv b o e).trans g⟩
  · obtain ⟨cs, ro, g⟩ := h.ta b o e; exact ⟨cs, ro, (hk b cs _ ro g (by decide)).trans g⟩
  · obtain ⟨cs, ro, g⟩ := h.tn b o e; exact ⟨cs, ro, (hk b cs _ ro g (by decide)).trans g⟩
def RgP (A : AH) (R0 : RgM) (m : Mg) (r : Value) (A' : AH) : Prop := Ext A A' ∧ ∃ R : RgM, r = .agg R.enc.toArray ∧ R.ok A' ∧ R.m = m ∧ ∀ c, c < A.next → R0.lb c → R.lb c
set_option maxHeartbeats 4000000 in
theorem rdoes_ok {A : AH} {R : RgM} (h : R.ok A) (y : AcM) (hy : y.ok A) (hl : R.acs.length ≤ 100000) : ACall Tryz.prog 84 [.agg R.enc.toArray, .agg y.enc.toArray] A fun r A' => RgP A R (R.m.does y.x) r A' := by
  have hobt := y.cells
  obtain ⟨yl, yo, yt⟩ := hobt
  have yz : spl [Value.int .i64 0, Value.int .i64 0, Value.int .i64 0, Value.int .i64 0, Value.int .i64 0, Value.int .i64 0, Value.int .u64 0, Value.int .i64 0, Value.int .i64 0, Value.int .u32 0, Value.int .u32 0, Value.int .u32 0, Value.slice none 0 0] 0 y.enc = y.enc := rfl
  refine ACall.wf fun hwf => ?_
  have hobx : ∃ A1, A1 = ((A.alloc (.row R.enc 32 false)).alloc (.row y.enc 102 false)).alloc (.row [.int .i64 0, .int .i64 0, .slice none 0 0, .int .i64 0, .slice none 0 0, .slice none 0 0] 32 false) := ⟨_, rfl⟩
  obtain ⟨A1, hA1⟩ := hobx
  have w1 : A1.wf := by rw [hA1]; exact AH.wf_alloc (AH.wf_alloc (AH.wf_alloc hwf _) _) _
  have n1 : A1.next = A.next + 3 := by rw [hA1]; rfl
  have x1 : Ext A A1 := by rw [hA1]; exact ((Ext.alloc A _).app (by simp) _).app (by simp; omega) _
  have g0 : A1.get A.next = some (.row R.enc 32 false) := by rw [hA1]; simp [AH.get_alloc]
  have g1 : A1.get (A.next + 1) = some (.row y.enc 102 false) := by rw [hA1]; simp [AH.get_alloc]
  have g2 : A1.get (A.next + 2) = some (.row [.int .i64 0, .int .i64 0, .slice none 0 0, .int .i64 0, .slice none 0 0, .slice none 0 0] 32 false) := by rw [hA1]; simp [AH.get_alloc]
  have hs := h.a
  refine code84.call (by simp) fun hwf => ?_
  unfold c84
  simp only [RgM.enc] at hA1 g0 ⊢
  simp [yl, ← hA1]
  refine LN.join 0 (fun k E A' => ∃ (i : Nat) (u : Value), k + i = R.acs.length ∧ Ext A1 A' ∧ A1.next ≤ A'.next ∧ Own A1.next A' 102 13 u ((R.acs.take i).map AcM.enc) ∧ E.get 2 = .pointer (some ⟨A.next, 0, none⟩) ∧ E.get 3 = .pointer (some ⟨A.next + 1, 0, none⟩) ∧ E.get 4 = .pointer (some ⟨A.next + 2, 0, none⟩) ∧ E.get 5 = u ∧ E.get 6 = .int .i64 i) R.acs.length
    (fun E A' => ∃ (u : Value), Ext A1 A' ∧ A1.next ≤ A'.next ∧ A'.wf ∧ Own A1.next A' 102 13 u (R.acs.map AcM.enc) ∧ E.get 2 = .pointer (some ⟨A.next, 0, none⟩) ∧ E.get 3 = .pointer (some ⟨A.next + 1, 0, none⟩) ∧ E.get 4 = .pointer (some ⟨A.next + 2, 0, none⟩) ∧ E.get 5 = u)
    ⟨0, _, by omega, Ext.refl _, Nat.le_refl _, Own.nil _ _ _ _, by simp, by simp, by simp, by simp, by simp⟩ ?_ ?_
  · rintro k E A2 hw2 hn2 ⟨i, u, hi, x2, n2, o2, E2, E3, E4, E5, E6⟩
    have gm := x2.get w1 g0
    by_cases hlt : i < R.acs.length
    rotate_left
    · have hlt' : ¬ (i : Int) < R.acs.length := by omega
      rw [List.take_of_length_le (by omega)] at o2
      simp [E2, E6, gm, hlt']
      exact NX.of ⟨u, x2, n2, hw2, o2, by simp [E2], by simp [E3], by simp [E4], by simp [E5]⟩
    have hlt' : (i : Int) < R.acs.length := by omega
    have hgi : IntKind.i64.wrap ((i : Int) + 1) = ((i + 1 : Nat) : Int) := by rw [i64_in (by omega) (by omega)]; simp
    have hobx : ∃ z, z = R.acs[i] := ⟨_, rfl⟩
    obtain ⟨z, hz⟩ := hobx
    have hobt := ((hs.ext hwf x1).ext w1 x2).at (i := i) (by simpa using hlt)
    obtain ⟨b, o, cs, q, hb, u1, u2, u3⟩ := hobt
    rw [List.getElem_map, ← hz] at u3
    have hobt := z.cells
    obtain ⟨zl, zo, zt⟩ := hobt
    have hobt := own_push o2 (y := 112) (r := z.enc) hw2 (by omega) ⟨rfl, rfl⟩ (by omega) (by omega) (by simp; omega)
    obtain ⟨u', A3, p1, p2, p3, p4⟩ := hobt
    have zz : spl [Value.int .i64 0, Value.int .i64 0, Value.int .i64 0, Value.int .i64 0, Value.int .i64 0, Value.int .i64 0, Value.int .u64 0, Value.int .i64 0, Value.int .i64 0, Value.int .u32 0, Value.int .u32 0, Value.int .u32 0, Value.slice none 0 0] 0 z.enc = z.enc := rfl
    have hobt := own_slm o2
    obtain ⟨a2, c2, rfl, -⟩ := hobt
    have hlk : (R.acs.take i).length = i := by simp; omega
    rw [hlk] at E5 p1
    simp [E2, E5, E6, gm, hlt, hlt', hb, u1, u2, u3, zl, zz, p1, hgi]
    exact NX.of ⟨k - 1, by omega, i + 1, u', by omega, fun c hc => by rw [p4 c (by omega), x2 c hc], by omega, by rw [take_snoc hlt, ← hz, List.map_append]; exact p2, by simp [E2], by simp [E3], by simp [E4], by simp, by simp⟩
  · rintro E A2 ⟨u, x2, n2, hw2, o2, E2, E3, E4, E5⟩
    have gm := x2.get w1 g0
    have gy := x2.get w1 g1
    have gz := x2.get w1 g2
    have hobt := own_push o2 (y := 112) (r := y.enc) hw2 (by omega) ⟨rfl, rfl⟩ (by omega) (by omega) (by simp; omega)
    obtain ⟨u', A3, p1, p2, p3, p4⟩ := hobt
    have hobt := own_slm o2
    obtain ⟨a2, c2, rfl, -⟩ := hobt
    rw [show R.acs.map AcM.enc ++ [y.enc] = (R.acs ++ [y]).map AcM.enc by simp] at p2
    have hobt := own_slm p2
    obtain ⟨a3, c3, rfl, s3, t3, -⟩ := hobt
    have gm3 := (p4 _ (by omega)).trans gm
    have gz3 := (p4 _ (by omega)).trans gz
    have x03 : Ext A A3 := fun c hc => by rw [p4 c (by omega), x2 c (by omega), x1 c hc]
    simp [E2, E3, E4, E5, gy, yl, yz, yt, p1, gm3, gz3, AH.get_set]
    have x04 : ∀ r1 r2, Ext A ((A3.set A.next r1).set (A.next + 2) r2) := fun r1 r2 => (x03.setnew (Nat.le_refl _) _).setnew (by omega) _
    refine DN.of ⟨x04 _ _, { R with acs := R.acs ++ [y], aa := a3, ac := c3 }, by simp [RgM.enc], ⟨(h.ext hwf (x04 _ _)).l, (h.ext hwf (x04 _ _)).lo, ?_, fun x hx => ?_, (h.ext hwf (x04 _ _)).n, (h.ext hwf (x04 _ _)).tl, ?_, (h.ext hwf (x04 _ _)).tn⟩, by simp [RgM.m, Mg.does], fun c _ hc => hc⟩
    · refine s3.kept fun b o z e hb => ?_
      have := t3 b o e
      rw [AH.get_set, if_neg (by omega), AH.get_set, if_neg (by omega)]
    · rcases List.mem_append.1 hx with hx | hx
      · exact (h.ao x hx).fr (FrT.ext hwf (x04 _ _))
      · rw [List.mem_singleton.1 hx]; exact hy.fr (FrT.ext hwf (x04 _ _))
    · intro b o e
      have := t3 b o e
      have hobt := own_ty p2 b o e
      obtain ⟨cs, ro, g⟩ := hobt
      exact ⟨cs, ro, by rw [AH.get_set, if_neg (by omega), AH.get_set, if_neg (by omega)]; exact g⟩
theorem rg_len (R : RgM) : R.enc.length = 6 := rfl
theorem rg_take (R : RgM) : R.enc.take 6 = R.enc := rfl
theorem rg_one (R : RgM) : ∀ v ∈ R.enc, oneB v = true := List.all_eq_true.1 (rfl : R.enc.all oneB = true)
theorem rg_z (R : RgM) : spl [Value.int .i64 0, .int .i64 0, .slice none 0 0, .int .i64 0, .slice none 0 0, .slice none 0 0] 0 R.enc = R.enc := rfl
theorem vw_z (x : VwM) : spl [Value.int .i64 0, .int .i64 0, .int .u64 0, .int .i64 0, .int .i64 0, .int .u32 0, .int .u32 0, .int .u32 0, .int .i64 0, .int .i64 0, .int .i64 0, .int .i64 0, .int .u64 0, .int .i64 0, .int .i64 0, .int .u32 0, .int .u32 0, .int .u32 0, .slice none 0 0, .int .i64 0, .int .i64 0, .int .i64 0, .int .i64 0, .int .u64 0, .int .i64 0, .int .i64 0, .int .u32 0, .int .u32 0, .int .u32 0, .slice none 0 0, .int .i64 0, .int .i64 0] 0 x.enc = x.enc := rfl
set_option maxHeartbeats 4000000 in
theorem rline_ok {A : AH} {R : RgM} (h : R.ok A) (now tn what code : Int) (hl : R.lns.length ≤ 100000) : ACall Tryz.prog 65 [.agg R.enc.toArray, .int .i64 now, .int .i64 tn, .int .i64 what, .int .i64 code] A fun r A' => RgP A R (R.m.says ⟨now, tn, what, code⟩) r A' := by
  have hobx : ∃ y : Li, y = ⟨now, tn, what, code⟩ := ⟨_, rfl⟩
  obtain ⟨y, hy⟩ := hobx
  have hye : y.enc = [.int .i64 now, .int .i64 tn, .int .i64 what, .int .i64 code] := by rw [hy]; rfl
  refine ACall.wf fun hwf => ?_
  have hobx : ∃ A1, A1 = (A.alloc (.row R.enc 32 false)).alloc (.row [Value.int .i64 0, .int .i64 0, .slice none 0 0, .int .i64 0, .slice none 0 0, .slice none 0 0] 32 false) := ⟨_, rfl⟩
  obtain ⟨A1, hA1⟩ := hobx
  have w1 : A1.wf := by rw [hA1]; exact AH.wf_alloc (AH.wf_alloc hwf _) _
  have n1 : A1.next = A.next + 2 := by rw [hA1]; rfl
  have x1 : Ext A A1 := by rw [hA1]; exact (Ext.alloc A _).app (by simp) _
  have g0 : A1.get A.next = some (.row R.enc 32 false) := by rw [hA1]; simp [AH.get_alloc]
  have g2 : A1.get (A.next + 1) = some (.row [Value.int .i64 0, .int .i64 0, .slice none 0 0, .int .i64 0, .slice none 0 0, .slice none 0 0] 32 false) := by rw [hA1]; simp [AH.get_alloc]
  have hs := h.n
  refine code65.call (by simp) fun hwf => ?_
  unfold c65
  simp only [RgM.enc] at hA1 g0 ⊢
  simp [← hA1]
  refine LN.join 0 (fun k E A' => ∃ (i : Nat) (u : Value), k + i = R.lns.length ∧ Ext A1 A' ∧ A1.next ≤ A'.next ∧ Own A1.next A' 104 4 u ((R.lns.take i).map Li.enc) ∧ E.get 1 = .int .i64 now ∧ E.get 2 = .int .i64 tn ∧ E.get 3 = .int .i64 what ∧ E.get 4 = .int .i64 code ∧ E.get 5 = .pointer (some ⟨A.next, 0, none⟩) ∧ E.get 10 = .pointer (some ⟨A.next + 1, 0, none⟩) ∧ E.get 11 = u ∧ E.get 12 = .int .i64 i) R.lns.length
    (fun E A' => ∃ (u : Value), Ext A1 A' ∧ A1.next ≤ A'.next ∧ A'.wf ∧ Own A1.next A' 104 4 u (R.lns.map Li.enc) ∧ E.get 1 = .int .i64 now ∧ E.get 2 = .int .i64 tn ∧ E.get 3 = .int .i64 what ∧ E.get 4 = .int .i64 code ∧ E.get 5 = .pointer (some ⟨A.next, 0, none⟩) ∧ E.get 10 = .pointer (some ⟨A.next + 1, 0, none⟩) ∧ E.get 11 = u)
    ⟨0, _, by omega, Ext.refl _, Nat.le_refl _, Own.nil _ _ _ _, by simp, by simp, by simp, by simp, by simp, by simp, by simp, by simp⟩ ?_ ?_
  · rintro k E A2 hw2 hn2 ⟨i, u, hi, x2, n2, o2, E1, E2, E3, E4, E5, E10, E11, E12⟩
    have gm := x2.get w1 g0
    by_cases hlt : i < R.lns.length
    rotate_left
    · have hlt' : ¬ (i : Int) < R.lns.length := by omega
      rw [List.take_of_length_le (by omega)] at o2
      simp [E5, E12, gm, hlt']
      exact NX.of ⟨u, x2, n2, hw2, o2, by simp [E1], by simp [E2], by simp [E3], by simp [E4], by simp [E5], by simp [E10], by simp [E11]⟩
    have hlt' : (i : Int) < R.lns.length := by omega
    have hgi : IntKind.i64.wrap ((i : Int) + 1) = ((i + 1 : Nat) : Int) := by rw [i64_in (by omega) (by omega)]; simp
    have hobx : ∃ z, z = R.lns[i] := ⟨_, rfl⟩
    obtain ⟨z, hz⟩ := hobx
    have hobt := ((hs.ext hwf x1).ext w1 x2).at (i := i) (by simpa using hlt)
    obtain ⟨b, o, cs, q, hb, u1, u2, u3⟩ := hobt
    rw [List.getElem_map, ← hz] at u3
    have hze : z.enc = [.int .i64 z.tick, .int .i64 z.tn, .int .i64 z.what, .int .i64 z.code] := rfl
    have hobt := own_push o2 (y := 32) (r := z.enc) hw2 (by omega) ⟨rfl, rfl⟩ (by omega) (by omega) (by simp; omega)
    obtain ⟨u', A3, p1, p2, p3, p4⟩ := hobt
    have hobt := own_slm o2
    obtain ⟨a2, c2, rfl, -⟩ := hobt
    have hlk : (R.lns.take i).length = i := by simp; omega
    rw [hlk] at E11 p1
    rw [hze] at u3 p1
    simp [E5, E11, E12, gm, hlt, hlt', hb, u1, u2, u3, p1, hgi]
    exact NX.of ⟨k - 1, by omega, i + 1, u', by omega, fun c hc => by rw [p4 c (by omega), x2 c hc], by omega, by rw [take_snoc hlt, ← hz, List.map_append]; exact p2, by simp [E1], by simp [E2], by simp [E3], by simp [E4], by simp [E5], by simp [E10], by simp, by simp⟩
  · rintro E A2 ⟨u, x2, n2, hw2, o2, E1, E2, E3, E4, E5, E10, E11⟩
    have gm := x2.get w1 g0
    have gz := x2.get w1 g2
    have hobt := own_push o2 (y := 32) (r := y.enc) hw2 (by omega) ⟨rfl, rfl⟩ (by omega) (by omega) (by simp; omega)
    obtain ⟨u', A3, p1, p2, p3, p4⟩ := hobt
    have hobt := own_slm o2
    obtain ⟨a2, c2, rfl, -⟩ := hobt
    rw [show R.lns.map Li.enc ++ [y.enc] = (R.lns ++ [y]).map Li.enc by simp] at p2
    have hobt := own_slm p2
    obtain ⟨a3, c3, rfl, s3, t3, -⟩ := hobt
    have gm3 := (p4 _ (by omega)).trans gm
    have gz3 := (p4 _ (by omega)).trans gz
    rw [hye] at p1
    have x03 : Ext A A3 := fun c hc => by rw [p4 c (by omega), x2 c (by omega), x1 c hc]
    simp [E1, E2, E3, E4, E5, E10, E11, p1, gm3, gz3, AH.get_set]
    have x04 : ∀ r1 r2, Ext A ((A3.set A.next r1).set (A.next + 1) r2) := fun r1 r2 => (x03.setnew (Nat.le_refl _) _).setnew (by omega) _
    refine DN.of ⟨x04 _ _, { R with lns := R.lns ++ [y], na := a3, nc := c3 }, by simp [RgM.enc], ⟨(h.ext hwf (x04 _ _)).l, (h.ext hwf (x04 _ _)).lo, (h.ext hwf (x04 _ _)).a, (h.ext hwf (x04 _ _)).ao, ?_, (h.ext hwf (x04 _ _)).tl, (h.ext hwf (x04 _ _)).ta, fun b o e => by
      have := t3 b o e
      have hobt := own_ty p2 b o e
      obtain ⟨cs, ro, g⟩ := hobt
      exact ⟨cs, ro, by rw [AH.get_set, if_neg (by omega), AH.get_set, if_neg (by omega)]; exact g⟩⟩, by simp [RgM.m, Mg.says, hy], fun c _ hc => hc⟩
    refine s3.kept fun b o z e hb => ?_
    have := t3 b o e
    rw [AH.get_set, if_neg (by omega), AH.get_set, if_neg (by omega)]
def putW (v : Vw) : List Vw → Bool → List Vw
  | [], laid => if laid then [] else [v]
  | u :: l, laid => (if laid = false ∧ v.tn ≤ u.tn then [v] else []) ++ ((if u.tn ≠ v.tn then [u] else []) ++ putW v l (laid || decide (v.tn ≤ u.tn)))
def putR (m : Mg) (v : Vw) : Mg := { m with l := putW v m.l false }
def putM (v : VwM) : List VwM → Bool → List VwM
  | [], laid => if laid then [] else [v]
  | u :: l, laid => (if laid = false ∧ v.tn ≤ u.tn then [v] else []) ++ ((if u.tn ≠ v.tn then [u] else []) ++ putM v l (laid || decide (v.tn ≤ u.tn)))
theorem putM_v (v : VwM) : ∀ (l : List VwM) (b : Bool), (putM v l b).map VwM.v = putW v.v (l.map VwM.v) b
  | [], b => by cases b <;> rfl
  | u :: l, b => by
    have ih := putM_v v l (b || decide (v.tn ≤ u.tn))
    simp only [putM, putW, List.map_append, List.map_cons]
    rw [ih]
    have e1 : ((if b = false ∧ v.tn ≤ u.tn then [v] else []).map VwM.v) = if b = false ∧ v.v.tn ≤ u.v.tn then [v.v] else [] := by
      show _ = if b = false ∧ v.tn ≤ u.tn then [v.v] else []
      split <;> rfl
    have e2 : ((if u.tn ≠ v.tn then [u] else []).map VwM.v) = if u.v.tn ≠ v.v.tn then [u.v] else [] := by
      show _ = if u.tn ≠ v.tn then [u.v] else []
      split <;> rfl
    rw [e1, e2]; rfl
theorem putM_mem (v : VwM) : ∀ (l : List VwM) (b : Bool) (x : VwM), x ∈ putM v l b → x = v ∨ x ∈ l
  | [], b, x, h => by cases b <;> simp [putM] at h; exact Or.inl h
  | u :: l, b, x, h => by
    simp only [putM, List.mem_append] at h
    rcases h with h | h | h
    · split at h
      · exact Or.inl (List.mem_singleton.1 h)
      · cases h
    · split at h
      · exact Or.inr (by rw [List.mem_singleton.1 h]; exact List.mem_cons_self)
      · cases h
    · rcases putM_mem v l _ x h with e | e
      · exact Or.inl e
      · exact Or.inr (List.mem_cons_of_mem _ e)
theorem putM_len (v : VwM) : ∀ (l : List VwM) (b : Bool), (putM v l b).length ≤ 2 * l.length + 1
  | [], b => by cases b <;> simp [putM]
  | u :: l, b => by
    have := putM_len v l (b || decide (v.tn ≤ u.tn))
    simp only [putM, List.length_append, List.length_cons]
    split <;> split <;> simp <;> omega
theorem dropM_at {l : List VwM} {i : Nat} (h : i < l.length) : l.drop i = l[i] :: l.drop (i + 1) := List.drop_eq_getElem_cons h
theorem vown_push {n0 : Nat} {A : AH} {u : Value} {D : List VwM} (h : Own n0 A 107 32 u (D.map VwM.enc)) (hw : A.wf) (hn : n0 ≤ A.next) (hD : D.length ≤ 100000) (z : VwM) : ∃ (a : Option Addr) (c : Nat) (a' : Option Addr) (c' : Nat) (A' : AH), u = .slice a D.length c ∧ appW 107 32 264 (.slice a D.length c) (.slice (some ⟨A.next, 0, none⟩) 1 1) (A.alloc (.row z.enc 107 false)) = some (.slice a' (D.length + 1) c', A') ∧ Own n0 A' 107 32 (.slice a' (D.length + 1) c') ((D ++ [z]).map VwM.enc) ∧ A.next ≤ A'.next ∧ A'.wf ∧ ∀ b, b < n0 → A'.get b = A.get b := by
  have hobt := own_push h (y := 264) (r := z.enc) hw hn ⟨rfl, rfl⟩ (by omega) (by omega) (by simp; omega)
  obtain ⟨u', A3, p1, p2, p3, p4⟩ := hobt
  have hobt := own_slm h
  obtain ⟨a2, c2, rfl, -⟩ := hobt
  rw [show D.map VwM.enc ++ [z.enc] = (D ++ [z]).map VwM.enc by simp] at p2
  have hobt := own_slm p2
  obtain ⟨a3, c3, rfl, -⟩ := hobt
  rw [List.length_append] at p1 p2
  exact ⟨a2, c2, a3, c3, A3, rfl, p1, p2, by omega, appW_wf p1 (AH.wf_alloc hw _), p4⟩
set_option maxHeartbeats 8000000 in
theorem rput_ok {A : AH} {R : RgM} (h : R.ok A) (v : VwM) (hv : v.ok A) (hl : R.xs.length ≤ 1000) : ACall Tryz.prog 66 [.agg R.enc.toArray, .agg v.enc.toArray] A fun r A' => RgP A R (putR R.m v.v) r A' := by
  have vl := vw_len v
  have vo := vw_one v
  have vt := vw_take v
  have v0 : v.enc[0]'(by rw [vw_len]; omega) = .int .i64 v.tn := rfl
  have vz := vw_z v
  refine ACall.wf fun hwf => ?_
  have hobx : ∃ A1, A1 = ((A.alloc (.row R.enc 32 false)).alloc (.row v.enc 107 false)).alloc (.row [Value.int .i64 0, .int .i64 0, .slice none 0 0, .int .i64 0, .slice none 0 0, .slice none 0 0] 32 false) := ⟨_, rfl⟩
  obtain ⟨A1, hA1⟩ := hobx
  have w1 : A1.wf := by rw [hA1]; exact AH.wf_alloc (AH.wf_alloc (AH.wf_alloc hwf _) _) _
  have n1 : A1.next = A.next + 3 := by rw [hA1]; rfl
  have x1 : Ext A A1 := by rw [hA1]; exact ((Ext.alloc A _).app (by simp) _).app (by simp; omega) _
  have g0 : A1.get A.next = some (.row R.enc 32 false) := by rw [hA1]; simp [AH.get_alloc]
  have g1 : A1.get (A.next + 1) = some (.row v.enc 107 false) := by rw [hA1]; simp [AH.get_alloc]
  have g2 : A1.get (A.next + 2) = some (.row [Value.int .i64 0, .int .i64 0, .slice none 0 0, .int .i64 0, .slice none 0 0, .slice none 0 0] 32 false) := by rw [hA1]; simp [AH.get_alloc]
  have hs := h.l
  refine code66.call (by simp) fun hwf => ?_
  unfold c66
  simp only [RgM.enc] at hA1 g0 ⊢
  simp [vl, ← hA1]
  refine LN.join 0 (fun k E A' => ∃ (i : Nat) (u : Value) (laid : Bool) (D : List VwM), k + i = R.xs.length ∧ Ext A1 A' ∧ A1.next ≤ A'.next ∧ Own A1.next A' 107 32 u (D.map VwM.enc) ∧ D ++ putM v (R.xs.drop i) laid = putM v R.xs false ∧ D.length ≤ 2 * i ∧ E.get 2 = .pointer (some ⟨A.next, 0, none⟩) ∧ E.get 3 = .pointer (some ⟨A.next + 1, 0, none⟩) ∧ E.get 4 = .pointer (some ⟨A.next + 2, 0, none⟩) ∧ E.get 5 = u ∧ E.get 6 = .bool laid ∧ E.get 7 = .int .i64 i) R.xs.length
    (fun E A' => ∃ (u : Value) (laid : Bool) (D : List VwM), Ext A1 A' ∧ A1.next ≤ A'.next ∧ A'.wf ∧ Own A1.next A' 107 32 u (D.map VwM.enc) ∧ D ++ (if laid then [] else [v]) = putM v R.xs false ∧ D.length ≤ 2000 ∧ E.get 2 = .pointer (some ⟨A.next, 0, none⟩) ∧ E.get 3 = .pointer (some ⟨A.next + 1, 0, none⟩) ∧ E.get 4 = .pointer (some ⟨A.next + 2, 0, none⟩) ∧ E.get 5 = u ∧ E.get 6 = .bool laid)
    ⟨0, _, false, [], by omega, Ext.refl _, Nat.le_refl _, Own.nil _ _ _ _, by simp, by simp, by simp, by simp, by simp, by simp, by simp, by simp⟩ ?_ ?_
  · rintro k E A2 hw2 hn2 ⟨i, u, laid, D, hi, x2, n2, o2, hD, hDl, E2, E3, E4, E5, E6, E7⟩
    have gm := x2.get w1 g0
    have gv := x2.get w1 g1
    by_cases hlt : i < R.xs.length
    rotate_left
    · have hlt' : ¬ (i : Int) < R.xs.length := by omega
      rw [List.drop_eq_nil_of_le (by omega), putM] at hD
      simp [E2, E7, gm, hlt']
      exact NX.of ⟨u, laid, D, x2, n2, hw2, o2, hD, by omega, by simp [E2], by simp [E3], by simp [E4], by simp [E5], by simp [E6]⟩
    have hlt' : (i : Int) < R.xs.length := by omega
    have hgi : IntKind.i64.wrap ((i : Int) + 1) = ((i + 1 : Nat) : Int) := by rw [i64_in (by omega) (by omega)]; simp
    have hobx : ∃ x, x = R.xs[i] := ⟨_, rfl⟩
    obtain ⟨x, hx⟩ := hobx
    have hobt := hs.at (i := i) (by simpa using hlt)
    obtain ⟨b, o, cs, q, hb, u0, u2, u3⟩ := hobt
    have hbl : b < A.next := hwf _ _ u0
    have u1 := x2.get w1 (x1.get hwf u0)
    rw [List.getElem_map, ← hx] at u3
    have d0 := at_cell (i := 0) u3 (by omega)
    rw [show x.enc[0]? = some (.int .i64 x.tn) from rfl, Nat.add_zero] at d0
    have xl := vw_len x
    have xo := vw_one x
    have xt := vw_take x
    have xz := vw_z x
    rw [dropM_at hlt, ← hx, putM] at hD
    have hobt := vown_push o2 hw2 (by omega) (by omega) x
    obtain ⟨a2, c2, a3, c3, A3, rfl, p1, p2, p3, p5, p4⟩ := hobt
    have hobt := vown_push o2 hw2 (by omega) (by omega) v
    obtain ⟨a2', c2', b3, d3, B3, hu, q1, q2, q3, q5, q4⟩ := hobt
    injection hu with hu1 hu2 hu3; subst hu1; subst hu3
    have xo' := xo
    have vo' := vo
    have xB : Ext A1 B3 := fun c hc => by rw [q4 c hc, x2 c hc]
    have xP : Ext A1 A3 := fun c hc => by rw [p4 c hc, x2 c hc]
    cases laid
    · by_cases hle : v.tn ≤ x.tn
      · have gmB := (q4 _ (by omega)).trans gm
        have gvB := (q4 _ (by omega)).trans gv
        have u1B := (q4 b (by omega)).trans u1
        by_cases hne : x.tn = v.tn
        · simp [E2, E3, E5, E6, E7, gm, gv, hlt, hlt', hb, u1, u2, u3, d0, vl, v0, vt, vz, hle, q1, gmB, gvB, u1B, hne, hgi]
          exact NX.of ⟨k - 1, by omega, i + 1, _, true, D ++ [v], by omega, xB, by omega, q2, by rw [← hD]; simp [hne, hle], by simp; omega, by simp [E2], by simp [E3], by simp [E4], by simp, by simp, by simp⟩
        · obtain ⟨a4, c4, a5, c5, A5, hu, r1, r2, r3, r5, r4⟩ := vown_push q2 q5 (by omega) (by simp; omega) x
          injection hu with hu1 hu2 hu3; subst hu1; subst hu3
          simp only [List.length_append, List.length_cons, List.length_nil, Nat.zero_add] at r1 r2
          have xR : Ext A1 A5 := fun c hc => by rw [r4 c hc, xB c hc]
          simp [E2, E3, E5, E6, E7, gm, gv, hlt, hlt', hb, u1, u2, u3, d0, xl, xt, xz, vl, v0, vt, vz, hle, q1, gmB, gvB, u1B, hne, r1, hgi]
          exact NX.of ⟨k - 1, by omega, i + 1, _, true, D ++ [v] ++ [x], by omega, xR, by omega, r2, by rw [← hD]; simp [hne, hle], by simp; omega, by simp [E2], by simp [E3], by simp [E4], by simp, by simp, by simp⟩
      · have hne : ¬ x.tn = v.tn := by omega
        simp [E2, E3, E5, E6, E7, gm, gv, hlt, hlt', hb, u1, u2, u3, d0, xl, xt, xz, vl, v0, vt, vz, hle, hne, p1, hgi]
        exact NX.of ⟨k - 1, by omega, i + 1, _, false, D ++ [x], by omega, xP, by omega, p2, by rw [← hD]; simp [hne, hle], by simp; omega, by simp [E2], by simp [E3], by simp [E4], by simp, by simp [E6], by simp⟩
    · by_cases hne : x.tn = v.tn
      · simp [E2, E3, E5, E6, E7, gm, gv, hlt, hlt', hb, u1, u2, u3, d0, xl, xt, xz, vl, v0, vt, vz, hne, hgi]
        exact NX.of ⟨k - 1, by omega, i + 1, _, true, D, by omega, x2, n2, o2, by rw [← hD]; simp [hne], by omega, by simp [E2], by simp [E3], by simp [E4], by simp [E5], by simp [E6], by simp⟩
      · simp [E2, E3, E5, E6, E7, gm, gv, hlt, hlt', hb, u1, u2, u3, d0, xl, xt, xz, vl, v0, vt, vz, hne, p1, hgi]
        exact NX.of ⟨k - 1, by omega, i + 1, _, true, D ++ [x], by omega, xP, by omega, p2, by rw [← hD]; simp [hne], by simp; omega, by simp [E2], by simp [E3], by simp [E4], by simp, by simp [E6], by simp⟩
  · rintro E A2 ⟨u, laid, D, x2, n2, hw2, o2, hD, hDl, E2, E3, E4, E5, E6⟩
    have gm := x2.get w1 g0
    have gv := x2.get w1 g1
    have gz := x2.get w1 g2
    have fin : ∀ {A3 : AH} {a3 : Option Addr} {c3 : Nat} {L : List VwM}, Ext A1 A3 → A1.next ≤ A3.next → Own A1.next A3 107 32 (.slice a3 L.length c3) (L.map VwM.enc) → L = putM v R.xs false → ∀ r1 r2, RgP A R (putR R.m v.v) (.agg (RgM.enc { R with xs := L, la := a3, lc := c3 }).toArray) ((A3.set A.next r1).set (A.next + 2) r2) := fun {A3 a3 c3 L} x3 n3 o3 hL r1 r2 => by
      have x04 : Ext A ((A3.set A.next r1).set (A.next + 2) r2) := ((x1.trans (by omega) x3).setnew (Nat.le_refl _) _).setnew (by omega) _
      have hobt := own_slm o3
      obtain ⟨a', c', e1, s3, t3, -⟩ := hobt
      injection e1 with e1 _ _; subst e1
      refine ⟨x04, { R with xs := L, la := a3, lc := c3 }, rfl, ⟨?_, fun x hx => ?_, (h.ext hwf x04).a, (h.ext hwf x04).ao, (h.ext hwf x04).n, fun b o e => by
        have := t3 b o e
        have hobt := own_ty o3 b o e
        obtain ⟨cs, ro, g⟩ := hobt
        exact ⟨cs, ro, by rw [AH.get_set, if_neg (by omega), AH.get_set, if_neg (by omega)]; exact g⟩, (h.ext hwf x04).ta, (h.ext hwf x04).tn⟩, ?_, fun c hc _ o e => by have := t3 c o e; omega⟩
      · refine s3.kept fun b o z e hb => ?_
        have := t3 b o e
        rw [AH.get_set, if_neg (by omega), AH.get_set, if_neg (by omega)]
      · have hx : x ∈ putM v R.xs false := by rw [← hL]; exact hx
        rcases putM_mem v R.xs false x hx with e | e
        · rw [e]; exact hv.fr (FrT.ext hwf x04)
        · exact (h.lo x e).fr (FrT.ext hwf x04)
      · show Mg.mk R.hd R.n (L.map VwM.v) R.cnt (R.acs.map AcM.x) R.lns = _
        rw [hL, putM_v]; rfl
    have hobt := vown_push o2 hw2 (by omega) (by omega) v
    obtain ⟨a2, c2, a3, c3, A3, rfl, p1, p2, p3, p5, p4⟩ := hobt
    cases laid
    · have gm3 := (p4 _ (by omega)).trans gm
      have gz3 := (p4 _ (by omega)).trans gz
      have xP : Ext A1 A3 := fun c hc => by rw [p4 c hc, x2 c hc]
      have hf := fin (L := D ++ [v]) (a3 := a3) (c3 := c3) xP (by omega) (by rw [List.length_append]; exact p2) (by simpa using hD)
      simp [E2, E3, E4, E5, E6, gm, gv, gz, vl, vt, vz, p1, gm3, gz3, AH.get_set]
      have hf2 := hf
      simp only [RgM.enc, List.length_append, List.length_cons, List.length_nil, Nat.zero_add] at hf2
      exact DN.of (hf2 _ _)
    · have hf := fin (L := D) (a3 := a2) (c3 := c2) x2 n2 o2 (by simpa using hD)
      simp [E2, E3, E4, E5, E6, gm, gv, gz, AH.get_set]
      exact DN.of (hf _ _)
def vzM : VwM := ⟨0, 0, wtZ, lmZ, lmZ, 0, 0⟩
theorem tickable_ok (now : Int) (A : AH) : ACall Tryz.prog 59 [.int .i64 now] A fun v A' => v = .bool (mayB now) ∧ A' = A := by
  by_cases h1 : 0 ≤ now
  · by_cases h2 : now ≤ 1099511627766
    · refine code59.call (by simp) fun hwf => ?_
      unfold c59
      simp [h1, h2]
      exact DN.of ⟨by simp [mayB, h1, h2], rfl⟩
    · refine code59.call (by simp) fun hwf => ?_
      unfold c59
      simp [h1, h2]
      exact DN.of ⟨by simp [mayB, h2], rfl⟩
  · refine code59.call (by simp) fun hwf => ?_
    unfold c59
    simp [h1]
    exact DN.of ⟨by simp [mayB, h1], rfl⟩
set_option maxHeartbeats 4000000 in
theorem rfindv_ok {A : AH} {R : RgM} (h : R.ok A) (n : Int) (hl : R.xs.length ≤ 1000) : ACall Tryz.prog 67 [.agg R.enc.toArray, .int .i64 n] A fun r A' => Ext A A' ∧ ((∃ (i : Nat) (x : VwM), R.xs[i]? = some x ∧ x.tn = n ∧ (∀ (j : Nat) (y : VwM), j < i → R.xs[j]? = some y → y.tn ≠ n) ∧ r = .tuple #[.agg x.enc.toArray, .bool true]) ∨ ((∀ y ∈ R.xs, y.tn ≠ n) ∧ r = .tuple #[.agg vzM.enc.toArray, .bool false])) := by
  refine ACall.wf fun hwf => ?_
  have hobx : ∃ A1, A1 = (A.alloc (.row R.enc 32 false)).alloc (.row [Value.int .i64 0, .int .i64 0, .int .u64 0, .int .i64 0, .int .i64 0, .int .u32 0, .int .u32 0, .int .u32 0, .int .i64 0, .int .i64 0, .int .i64 0, .int .i64 0, .int .u64 0, .int .i64 0, .int .i64 0, .int .u32 0, .int .u32 0, .int .u32 0, .slice none 0 0, .int .i64 0, .int .i64 0, .int .i64 0, .int .i64 0, .int .u64 0, .int .i64 0, .int .i64 0, .int .u32 0, .int .u32 0, .int .u32 0, .slice none 0 0, .int .i64 0, .int .i64 0] 107 false) := ⟨_, rfl⟩
  obtain ⟨A1, hA1⟩ := hobx
  have w1 : A1.wf := by rw [hA1]; exact AH.wf_alloc (AH.wf_alloc hwf _) _
  have n1 : A1.next = A.next + 2 := by rw [hA1]; rfl
  have x1 : Ext A A1 := by rw [hA1]; exact (Ext.alloc A _).app (by simp) _
  have g0 : A1.get A.next = some (.row R.enc 32 false) := by rw [hA1]; simp [AH.get_alloc]
  have g1 : A1.get (A.next + 1) = some (.row [Value.int .i64 0, .int .i64 0, .int .u64 0, .int .i64 0, .int .i64 0, .int .u32 0, .int .u32 0, .int .u32 0, .int .i64 0, .int .i64 0, .int .i64 0, .int .i64 0, .int .u64 0, .int .i64 0, .int .i64 0, .int .u32 0, .int .u32 0, .int .u32 0, .slice none 0 0, .int .i64 0, .int .i64 0, .int .i64 0, .int .i64 0, .int .u64 0, .int .i64 0, .int .i64 0, .int .u32 0, .int .u32 0, .int .u32 0, .slice none 0 0, .int .i64 0, .int .i64 0] 107 false) := by rw [hA1]; simp [AH.get_alloc]
  have hs := h.l
  refine code67.call (by simp) fun hwf => ?_
  unfold c67
  simp only [RgM.enc] at hA1 g0 ⊢
  simp [← hA1]
  refine LN.use (fun k E A' => ∃ (i : Nat), k + i = R.xs.length ∧ A' = A1 ∧ (∀ (j : Nat) (y : VwM), j < i → R.xs[j]? = some y → y.tn ≠ n) ∧ E.get 1 = .int .i64 n ∧ E.get 2 = .pointer (some ⟨A.next, 0, none⟩) ∧ E.get 4 = .pointer (some ⟨A.next + 1, 0, none⟩) ∧ E.get 5 = .bool false ∧ E.get 6 = .int .i64 i) R.xs.length
    ⟨0, by omega, rfl, by omega, by simp, by simp, by simp, by simp, by simp⟩ ?_
  rintro k E A2 hw2 hn2 ⟨i, hi, rfl, hno, E1, E2, E4, E5, E6⟩
  by_cases hlt : i < R.xs.length
  rotate_left
  · have hlt' : ¬ (i : Int) < R.xs.length := by omega
    simp [E1, E2, E4, E5, E6, g0, g1, hlt']
    refine DN.of ⟨x1.setnew (by omega) _, Or.inr ⟨fun y hy => ?_, rfl⟩⟩
    have hobt := List.getElem?_of_mem hy
    obtain ⟨j, hj⟩ := hobt
    exact hno j y (by have := (List.getElem?_eq_some_iff.1 hj).1; omega) hj
  have hlt' : (i : Int) < R.xs.length := by omega
  have hgi : IntKind.i64.wrap ((i : Int) + 1) = ((i + 1 : Nat) : Int) := by rw [i64_in (by omega) (by omega)]; simp
  have hobx : ∃ x, x = R.xs[i] := ⟨_, rfl⟩
  obtain ⟨x, hx⟩ := hobx
  have hxi : R.xs[i]? = some x := by rw [List.getElem?_eq_getElem hlt, hx]
  have hobt := hs.at (i := i) (by simpa using hlt)
  obtain ⟨b, o, cs, q, hb, u0, u2, u3⟩ := hobt
  have hbl : b < A.next := hwf _ _ u0
  have u1 := x1.get hwf u0
  rw [List.getElem_map, ← hx] at u3
  have d0 := at_cell (i := 0) u3 (by omega)
  rw [show x.enc[0]? = some (.int .i64 x.tn) from rfl, Nat.add_zero] at d0
  have xl := vw_len x
  have xo := vw_one x
  have xt := vw_take x
  have xz := vw_z x
  by_cases he : x.tn = n
  · simp [E1, E2, E4, E5, E6, g0, g1, hlt, hlt', hb, u1, u2, u3, d0, he, xl, xt, xz]
    exact ⟨xo, DN.of ⟨x1.setnew (by omega) _, Or.inl ⟨i, x, hxi, he, hno, rfl⟩⟩⟩
  · simp [E1, E2, E4, E5, E6, g0, g1, hlt, hlt', hb, u1, u2, u3, d0, he, hgi]
    exact NX.of ⟨k - 1, by omega, i + 1, by omega, rfl, fun j y hj hy => by
      by_cases e : j = i
      · subst e; rw [hxi] at hy; injection hy with hy; rw [← hy]; exact he
      · exact hno j y (by omega) hy, by simp [E1], by simp [E2], by simp [E4], by simp [E5], by simp⟩
set_option maxHeartbeats 4000000 in
theorem rbusy_ok {A : AH} {R : RgM} (h : R.ok A) (hl : R.xs.length ≤ 1000) : ACall Tryz.prog 68 [.agg R.enc.toArray] A fun r A' => Ext A A' ∧ r = .bool (busyB R.m) := by
  refine ACall.wf fun hwf => ?_
  have hobx : ∃ A1, A1 = A.alloc (.row R.enc 32 false) := ⟨_, rfl⟩
  obtain ⟨A1, hA1⟩ := hobx
  have w1 : A1.wf := by rw [hA1]; exact AH.wf_alloc hwf _
  have x1 : Ext A A1 := by rw [hA1]; exact Ext.alloc A _
  have g0 : A1.get A.next = some (.row R.enc 32 false) := by rw [hA1, AH.get_new]
  have hs := h.l
  have hbz : ∀ (i : Nat) (h : i < R.xs.length), ¬ (R.xs[i]).new.s.k.lsp = 0 → busyB R.m = true := fun i h hz => by
    unfold busyB
    exact List.any_eq_true.2 ⟨(R.xs[i]).v, List.mem_map_of_mem (List.getElem_mem h), decide_eq_true hz⟩
  refine code68.call (by simp) fun hwf => ?_
  unfold c68
  simp only [RgM.enc] at hA1 g0 ⊢
  simp [← hA1]
  refine LN.use (fun k E A' => ∃ (i : Nat), k + i = R.xs.length ∧ A' = A1 ∧ (∀ (j : Nat) (y : VwM), j < i → R.xs[j]? = some y → y.new.s.k.lsp = 0) ∧ E.get 1 = .pointer (some ⟨A.next, 0, none⟩) ∧ E.get 3 = .int .i64 i) R.xs.length
    ⟨0, by omega, rfl, by omega, by simp, by simp⟩ ?_
  rintro k E A2 hw2 hn2 ⟨i, hi, rfl, hno, E1, E3⟩
  by_cases hlt : i < R.xs.length
  rotate_left
  · have hlt' : ¬ (i : Int) < R.xs.length := by omega
    simp [E1, E3, g0, hlt']
    refine DN.of ⟨x1, ?_⟩
    have : busyB R.m = false := by
      unfold busyB
      rw [List.any_eq_false]
      intro y hy
      have hobt := List.mem_map.1 hy
      obtain ⟨z, hz, rfl⟩ := hobt
      have hobt := List.getElem?_of_mem hz
      obtain ⟨j, hj⟩ := hobt
      have := hno j z (by have := (List.getElem?_eq_some_iff.1 hj).1; omega) hj
      exact fun hc => absurd this (of_decide_eq_true hc)
    rw [this]
  have hlt' : (i : Int) < R.xs.length := by omega
  have hgi : IntKind.i64.wrap ((i : Int) + 1) = ((i + 1 : Nat) : Int) := by rw [i64_in (by omega) (by omega)]; simp
  have hobx : ∃ x, x = R.xs[i] := ⟨_, rfl⟩
  obtain ⟨x, hx⟩ := hobx
  have hxi : R.xs[i]? = some x := by rw [List.getElem?_eq_getElem hlt, hx]
  have hobt := hs.at (i := i) (by simpa using hlt)
  obtain ⟨b, o, cs, q, hb, u0, u2, u3⟩ := hobt
  have u1 := x1.get hwf u0
  rw [List.getElem_map, ← hx] at u3
  have d22 := at_cell (i := 22) u3 (by omega)
  rw [show x.enc[22]? = some (.int .i64 x.new.s.k.lsp) from rfl] at d22
  by_cases he : x.new.s.k.lsp = 0
  · simp [E1, E3, g0, hlt, hlt', hb, u1, d22, he, hgi]
    exact NX.of ⟨k - 1, by omega, i + 1, by omega, rfl, fun j y hj hy => by
      by_cases e : j = i
      · subst e; rw [hxi] at hy; injection hy with hy; rw [← hy]; exact he
      · exact hno j y (by omega) hy, by simp [E1], by simp⟩
  · simp [E1, E3, g0, hlt, hlt', hb, u1, d22, he]
    exact DN.of ⟨x1, by rw [hbz i hlt (by rw [← hx]; exact he)]⟩
theorem rlacks_ok (x : VwM) (A : AH) : ACall Tryz.prog 70 [.agg x.enc.toArray] A fun r A' => Ext A A' ∧ r = .bool (lacksB x.v) := by
  have xl := vw_len x
  have e11 : x.enc[11]'(by rw [vw_len]; omega) = .int .i64 x.now.s.k.lsp := rfl
  have en : (x.enc.drop 12).take 6 = x.now.s.w.enc := rfl
  have ew : (x.enc.drop 2).take 6 = x.w.enc := rfl
  by_cases h : x.now.s.k.lsp = 0
  · refine code70.call (by simp) fun hwf => ?_
    unfold c70
    simp [xl, e11, h]
    exact DN.of ⟨Ext.alloc A _, by simp [lacksB, VwM.v, h]⟩
  · refine code70.call (by simp) fun hwf => ?_
    unfold c70
    simp [xl, e11, h, en, ew]
    refine DN.of ⟨Ext.alloc A _, ?_⟩
    unfold lacksB
    rw [show decide (x.v.now.k.lsp = 0) = false from decide_eq_false h, Bool.false_or]; rfl
set_option maxHeartbeats 4000000 in
theorem rstop_ok {A : AH} {R : RgM} (h : R.ok A) (v : VwM) (y : LsM) (hl : R.acs.length ≤ 100000) : ACall Tryz.prog 62 [.agg R.enc.toArray, .agg v.enc.toArray, .agg y.enc.toArray] A fun r A' => RgP A R (R.m.does ⟨2, v.tn, y.s.k, wtZ, []⟩) r A' := by
  have vl := vw_len v
  have e0 : v.enc[0]'(by rw [vw_len]; omega) = .int .i64 v.tn := rfl
  have yl : y.enc.length = 11 := rfl
  have yk : y.enc.take 4 = y.s.k.enc := rfl
  obtain ⟨rl, rt, ro⟩ : R.enc.length = 6 ∧ R.enc.take 6 = R.enc ∧ ∀ v ∈ R.enc, oneB v = true := ⟨rg_len R, rg_take R, rg_one R⟩
  refine ACall.wf fun hwf => ?_
  have hobx : ∃ A1, A1 = (((A.alloc (.row R.enc 32 false)).alloc (.row v.enc 107 false)).alloc (.row y.enc 105 false)).alloc (.row [Value.int .i64 0, .int .i64 0, .slice none 0 0, .int .i64 0, .slice none 0 0, .slice none 0 0] 32 false) := ⟨_, rfl⟩
  obtain ⟨A1, hA1⟩ := hobx
  have w1 : A1.wf := by rw [hA1]; exact AH.wf_alloc (AH.wf_alloc (AH.wf_alloc (AH.wf_alloc hwf _) _) _) _
  have n1 : A1.next = A.next + 4 := by rw [hA1]; rfl
  have x1 : Ext A A1 := by rw [hA1]; exact (((Ext.alloc A _).app (by simp) _).app (by simp; omega) _).app (by simp; omega) _
  have g0 : A1.get A.next = some (.row R.enc 32 false) := by rw [hA1]; simp [AH.get_alloc]
  have g1 : A1.get (A.next + 1) = some (.row v.enc 107 false) := by rw [hA1]; simp [AH.get_alloc]
  have g2 : A1.get (A.next + 2) = some (.row y.enc 105 false) := by rw [hA1]; simp [AH.get_alloc]
  have g3 : A1.get (A.next + 3) = some (.row [Value.int .i64 0, .int .i64 0, .slice none 0 0, .int .i64 0, .slice none 0 0, .slice none 0 0] 32 false) := by rw [hA1]; simp [AH.get_alloc]
  have hst := stop_build y.s.k
  have hke : y.s.k.enc = [.int .i64 y.s.k.tail, .int .i64 y.s.k.tunnel, .int .i64 y.s.k.head, .int .i64 y.s.k.lsp] := rfl
  have hd := rdoes_ok (h.ext hwf x1) (stopA y.s.k v.tn) (stopA_ok _ _ _) hl
  rw [show (stopA y.s.k v.tn).enc = [.int .i64 2, .int .i64 v.tn, .int .i64 y.s.k.tail, .int .i64 y.s.k.tunnel, .int .i64 y.s.k.head, .int .i64 y.s.k.lsp, .int .u64 0, .int .i64 0, .int .i64 0, .int .u32 0, .int .u32 0, .int .u32 0, .slice none 0 0] from rfl] at hd
  refine code62.call (by simp) fun hwf => ?_
  unfold c62
  simp [rl, vl, yl, ← hA1, g0, g1, g2, e0, yk, rt, hke]
  refine CN.use hd ?_
  rintro _ A2 hw2 hn2 ⟨x2, R', rfl, hR, hm, hlb⟩
  have g32 := x2.get w1 g3
  have rz := rg_z R'
  have rt' := rg_take R'
  have ro' := rg_one R'
  simp [g32, rg_len, rz, rt']
  have x23 : Ext A2 A2 := Ext.refl _
  have x03 : Ext A (A2.set (A.next + 3) (.row R'.enc 32 false)) := (x1.trans (by omega) x2).setnew (by omega) _
  exact ⟨ro', DN.of ⟨x03, R', rfl, hR.box g32 (by decide) _, hm, fun c hc hl => hlb c (by omega) hl⟩⟩
theorem runmap_ok {A : AH} {R : RgM} (h : R.ok A) (v : VwM) (hl : R.acs.length ≤ 100000) : ACall Tryz.prog 64 [.agg R.enc.toArray, .agg v.enc.toArray] A fun r A' => RgP A R (R.m.does ⟨4, v.tn, kyZ, wtZ, []⟩) r A' := by
  have vl := vw_len v
  have e0 : v.enc[0]'(by rw [vw_len]; omega) = .int .i64 v.tn := rfl
  obtain ⟨rl, rt, ro⟩ : R.enc.length = 6 ∧ R.enc.take 6 = R.enc ∧ ∀ v ∈ R.enc, oneB v = true := ⟨rg_len R, rg_take R, rg_one R⟩
  refine ACall.wf fun hwf => ?_
  have hobx : ∃ A1, A1 = ((A.alloc (.row R.enc 32 false)).alloc (.row v.enc 107 false)).alloc (.row [Value.int .i64 0, .int .i64 0, .slice none 0 0, .int .i64 0, .slice none 0 0, .slice none 0 0] 32 false) := ⟨_, rfl⟩
  obtain ⟨A1, hA1⟩ := hobx
  have w1 : A1.wf := by rw [hA1]; exact AH.wf_alloc (AH.wf_alloc (AH.wf_alloc hwf _) _) _
  have n1 : A1.next = A.next + 3 := by rw [hA1]; rfl
  have x1 : Ext A A1 := by rw [hA1]; exact ((Ext.alloc A _).app (by simp) _).app (by simp; omega) _
  have g0 : A1.get A.next = some (.row R.enc 32 false) := by rw [hA1]; simp [AH.get_alloc]
  have g1 : A1.get (A.next + 1) = some (.row v.enc 107 false) := by rw [hA1]; simp [AH.get_alloc]
  have g3 : A1.get (A.next + 2) = some (.row [Value.int .i64 0, .int .i64 0, .slice none 0 0, .int .i64 0, .slice none 0 0, .slice none 0 0] 32 false) := by rw [hA1]; simp [AH.get_alloc]
  have hd := rdoes_ok (h.ext hwf x1) ⟨⟨4, v.tn, kyZ, wtZ, []⟩, none, 0⟩ ⟨Sl.nil Pla.no _ _ _, (fun h => absurd rfl h), by simp⟩ hl
  rw [show AcM.enc ⟨⟨4, v.tn, kyZ, wtZ, []⟩, none, 0⟩ = [.int .i64 4, .int .i64 v.tn, .int .i64 0, .int .i64 0, .int .i64 0, .int .i64 0, .int .u64 0, .int .i64 0, .int .i64 0, .int .u32 0, .int .u32 0, .int .u32 0, .slice none 0 0] from rfl] at hd
  refine code64.call (by simp) fun hwf => ?_
  unfold c64
  simp [rl, vl, ← hA1, g0, g1, e0, rt]
  refine CN.use hd ?_
  rintro _ A2 hw2 hn2 ⟨x2, R', rfl, hR, hm, hlb⟩
  have g32 := x2.get w1 g3
  have rz := rg_z R'
  have rt' := rg_take R'
  have ro' := rg_one R'
  simp [g32, rg_len, rz, rt']
  have x03 : Ext A (A2.set (A.next + 2) (.row R'.enc 32 false)) := (x1.trans (by omega) x2).setnew (by omega) _
  exact ⟨ro', DN.of ⟨x03, R', rfl, hR.box g32 (by decide) _, hm, fun c hc hl => hlb c (by omega) hl⟩⟩
def Mg.rfails (m : Mg) (v : Vw) (now code : Int) : Mg := (putR m { v with wait := now + v.back + m.head, back := min (2 * v.back) 8 }).says ⟨now, v.tn, 3, code⟩
set_option maxHeartbeats 4000000 in
theorem rfails_ok {A : AH} {R : RgM} (h : R.ok A) (v : VwM) (hv : v.ok A) (now code : Int) (hl : R.xs.length ≤ 1000) (hl2 : R.lns.length ≤ 100000) (hnow : 0 ≤ now ∧ now ≤ 1099511627766) (hhd : 0 ≤ R.hd ∧ R.hd < 16) (hbk : 0 ≤ v.back ∧ v.back ≤ 8) : ACall Tryz.prog 63 [.agg R.enc.toArray, .int .i64 now, .agg v.enc.toArray, .int .i64 code] A fun r A' => RgP A R (R.m.rfails v.v now code) r A' := by
  have vl := vw_len v
  have e0 : v.enc[0]'(by rw [vw_len]; omega) = .int .i64 v.tn := rfl
  have e31 : v.enc[31]'(by rw [vw_len]; omega) = .int .i64 v.back := rfl
  obtain ⟨rl, rt, ro⟩ : R.enc.length = 6 ∧ R.enc.take 6 = R.enc ∧ ∀ v ∈ R.enc, oneB v = true := ⟨rg_len R, rg_take R, rg_one R⟩
  have r0 : R.enc[0]'(by rw [rl]; omega) = .int .i64 R.hd := rfl
  have k1 : IntKind.i64.wrap (now + v.back) = now + v.back := i64_in (by omega) (by omega)
  have k2 : IntKind.i64.wrap (now + v.back + R.hd) = now + v.back + R.hd := i64_in (by omega) (by omega)
  have k3 : IntKind.i64.wrap (2 * v.back) = 2 * v.back := i64_in (by omega) (by omega)
  have hmin : (if (8 : Int) < 2 * v.back then 8 else 2 * v.back) = min (2 * v.back) 8 := by split <;> omega
  have hobx : ∃ v1 : VwM, v1 = { v with wait := now + v.back + R.hd } := ⟨_, rfl⟩
  obtain ⟨v1, hv1⟩ := hobx
  have hobx : ∃ v2 : VwM, v2 = { v with wait := now + v.back + R.hd, back := min (2 * v.back) 8 } := ⟨_, rfl⟩
  obtain ⟨v2, hv2⟩ := hobx
  have s1 : spl v.enc 30 [.int .i64 (now + v.back + R.hd)] = v1.enc := by rw [hv1]; rfl
  have s2 : spl v1.enc 31 [.int .i64 (min (2 * v.back) 8)] = v2.enc := by rw [hv1, hv2]; rfl
  have v1l := vw_len v1
  have v1e31 : v1.enc[31]'(by rw [vw_len]; omega) = .int .i64 v.back := by simp only [hv1]; rfl
  have v2l := vw_len v2
  have v2t := vw_take v2
  have v2e0 : v2.enc[0]'(by rw [vw_len]; omega) = .int .i64 v.tn := by simp only [hv2]; rfl
  refine ACall.wf fun hwf => ?_
  have hobx : ∃ A1, A1 = (((A.alloc (.row R.enc 32 false)).alloc (.row v.enc 107 false)).alloc (.row [Value.int .i64 0, .int .i64 0, .slice none 0 0, .int .i64 0, .slice none 0 0, .slice none 0 0] 32 false)).set (A.next + 1) (.row v2.enc 107 false) := ⟨_, rfl⟩
  obtain ⟨A1, hA1⟩ := hobx
  have w1 : A1.wf := by rw [hA1]; exact AH.wf_set (AH.wf_alloc (AH.wf_alloc (AH.wf_alloc hwf _) _) _) (by simp) _
  have n1 : A1.next = A.next + 3 := by rw [hA1]; rfl
  have x1 : Ext A A1 := by rw [hA1]; exact (((Ext.alloc A _).app (by simp) _).app (by simp; omega) _).setnew (by omega) _
  have g0 : A1.get A.next = some (.row R.enc 32 false) := by rw [hA1]; simp [AH.get_alloc, AH.get_set]
  have g1 : A1.get (A.next + 1) = some (.row v2.enc 107 false) := by rw [hA1]; simp [AH.get_alloc, AH.get_set]
  have g3 : A1.get (A.next + 2) = some (.row [Value.int .i64 0, .int .i64 0, .slice none 0 0, .int .i64 0, .slice none 0 0, .slice none 0 0] 32 false) := by rw [hA1]; simp [AH.get_alloc, AH.get_set]
  have v2o : v2.ok A1 := by rw [hv2]; exact VwM.ok.fr (x := v) hv (FrT.ext hwf x1)
  refine code63.call (by simp) fun hwf => ?_
  unfold c63
  simp [rl, vl, r0, e31, k1, k2, s1, v1l, v1e31, k3, hmin, s2, ← hA1, g0, g1, rt, v2l, v2t, v2e0]
  refine CN.use (rput_ok (h.ext hwf x1) v2 v2o hl) ?_
  rintro _ A2 hw2 hn2 ⟨x2, R', rfl, hR, hm, hlb⟩
  have g12 := x2.get w1 g1
  have g32 := x2.get w1 g3
  have hl' : R'.lns.length ≤ 100000 := by have : R'.m.lines = R.m.lines := by { rw [hm]; rfl }; have e : R'.lns = R.lns := this; rw [e]; exact hl2
  simp [g12, v2l, v2e0]
  refine CN.use (rline_ok hR now v.tn 3 code hl') ?_
  rintro _ A3 hw3 hn3 ⟨x3, R2, rfl, hR2, hm2, hlb2⟩
  have g33 := x3.get hw2 g32
  have rz := rg_z R2
  have rt' := rg_take R2
  have ro' := rg_one R2
  simp [g33, rg_len, rz, rt']
  have x03 : Ext A (A3.set (A.next + 2) (.row R2.enc 32 false)) := ((x1.trans (by omega) x2).trans (by omega) x3).setnew (by omega) _
  refine ⟨ro', DN.of ⟨x03, R2, rfl, hR2.box g33 (by decide) _, ?_, fun c hc hl => hlb2 c (by omega) (hlb c (by omega) hl)⟩⟩
  rw [hm2, hm, hv2]; rfl
def Mg.rups (m : Mg) (v : Vw) (now : Int) : Mg :=
  let m1 := ((putR m { v with now := v.new, new := lsZ, back := 1 }).says ⟨now, v.tn, 1, 0⟩).does ⟨3, v.tn, v.new.k, wtZ, []⟩
  if v.now.k.lsp = 0 then m1 else m1.does ⟨2, v.tn, v.now.k, wtZ, []⟩
set_option maxHeartbeats 8000000 in
theorem rups_ok {A : AH} {R : RgM} (h : R.ok A) (v : VwM) (hv : v.ok A) (now : Int) (hl : R.xs.length ≤ 1000) (hl2 : R.lns.length ≤ 100000) (hl3 : R.acs.length ≤ 90000) : ACall Tryz.prog 61 [.agg R.enc.toArray, .int .i64 now, .agg v.enc.toArray] A fun r A' => RgP A R (R.m.rups v.v now) r A' := by
  have vl := vw_len v
  have vn := vw_now v
  have vw' := vw_new v
  have nl : v.now.enc.length = 11 := rfl
  have wl : v.new.enc.length = 11 := rfl
  have no : ∀ y ∈ v.now.enc, oneB y = true := List.all_eq_true.1 (rfl : v.now.enc.all oneB = true)
  have wo : ∀ y ∈ v.new.enc, oneB y = true := List.all_eq_true.1 (rfl : v.new.enc.all oneB = true)
  have nz : spl [Value.int .i64 0, .int .i64 0, .int .i64 0, .int .i64 0, .int .u64 0, .int .i64 0, .int .i64 0, .int .u32 0, .int .u32 0, .int .u32 0, .slice none 0 0] 0 v.now.enc = v.now.enc := rfl
  have nt : v.now.enc.take 11 = v.now.enc := rfl
  have n3 : v.now.enc[3]'(by omega) = .int .i64 v.now.s.k.lsp := rfl
  have hzc : lmZ.enc = [.int .i64 0, .int .i64 0, .int .i64 0, .int .i64 0, .int .u64 0, .int .i64 0, .int .i64 0, .int .u32 0, .int .u32 0, .int .u32 0, .slice none 0 0] := rfl
  obtain ⟨rl, rt, ro⟩ : R.enc.length = 6 ∧ R.enc.take 6 = R.enc ∧ ∀ v ∈ R.enc, oneB v = true := ⟨rg_len R, rg_take R, rg_one R⟩
  have hobx : ∃ v1 : VwM, v1 = { v with now := v.new } := ⟨_, rfl⟩
  obtain ⟨v1, hv1⟩ := hobx
  have hobx : ∃ v2 : VwM, v2 = { v with now := v.new, new := lmZ } := ⟨_, rfl⟩
  obtain ⟨v2, hv2⟩ := hobx
  have hobx : ∃ v3 : VwM, v3 = { v with now := v.new, new := lmZ, back := 1 } := ⟨_, rfl⟩
  obtain ⟨v3, hv3⟩ := hobx
  have s1 : spl v.enc 8 v.new.enc = v1.enc := by rw [hv1]; rfl
  have s2 : spl v1.enc 19 lmZ.enc = v2.enc := by rw [hv1, hv2]; rfl
  have s3 : spl v2.enc 31 [.int .i64 1] = v3.enc := by rw [hv2, hv3]; rfl
  rw [hzc] at s2
  have v1l := vw_len v1
  have v2l := vw_len v2
  have v3l := vw_len v3
  have v3t := vw_take v3
  have v3e0 : v3.enc[0]'(by rw [vw_len]; omega) = .int .i64 v.tn := by simp only [hv3]; rfl
  have v3k : (v3.enc.drop 8).take 4 = [.int .i64 v.new.s.k.tail, .int .i64 v.new.s.k.tunnel, .int .i64 v.new.s.k.head, .int .i64 v.new.s.k.lsp] := by rw [hv3]; rfl
  refine ACall.wf fun hwf => ?_
  have hobx : ∃ A1, A1 = (((((A.alloc (.row R.enc 32 false)).alloc (.row v.enc 107 false)).alloc (.row [Value.int .i64 0, .int .i64 0, .slice none 0 0, .int .i64 0, .slice none 0 0, .slice none 0 0] 32 false)).alloc (.row [.int .i64 0, .int .i64 0, .int .i64 0, .int .i64 0, .int .u64 0, .int .i64 0, .int .i64 0, .int .u32 0, .int .u32 0, .int .u32 0, .slice none 0 0] 105 false)).set (A.next + 3) (.row v.now.enc 105 false)).set (A.next + 1) (.row v3.enc 107 false) := ⟨_, rfl⟩
  obtain ⟨A1, hA1⟩ := hobx
  have w1 : A1.wf := by rw [hA1]; exact AH.wf_set (AH.wf_set (AH.wf_alloc (AH.wf_alloc (AH.wf_alloc (AH.wf_alloc hwf _) _) _) _) (by simp) _) (by simp) _
  have n1 : A1.next = A.next + 4 := by rw [hA1]; rfl
  have x1 : Ext A A1 := by rw [hA1]; exact (((((Ext.alloc A _).app (by simp) _).app (by simp; omega) _).app (by simp; omega) _).setnew (by omega) _).setnew (by omega) _
  have g0 : A1.get A.next = some (.row R.enc 32 false) := by rw [hA1]; simp [AH.get_alloc, AH.get_set]
  have g1 : A1.get (A.next + 1) = some (.row v3.enc 107 false) := by rw [hA1]; simp [AH.get_alloc, AH.get_set]
  have g3 : A1.get (A.next + 2) = some (.row [Value.int .i64 0, .int .i64 0, .slice none 0 0, .int .i64 0, .slice none 0 0, .slice none 0 0] 32 false) := by rw [hA1]; simp [AH.get_alloc, AH.get_set]
  have g4 : A1.get (A.next + 3) = some (.row v.now.enc 105 false) := by rw [hA1]; simp [AH.get_set]
  have v3o : v3.ok A1 := by rw [hv3]; exact ⟨hv.2.fr (FrT.ext hwf x1), lmZ_ok _⟩
  refine code61.call (by simp) fun hwf => ?_
  unfold c61
  simp [rl, vl, vn, vw', nl, wl, nz, s1, v1l, s2, v2l, s3, v3l, v3t, v3e0, rt, ← hA1, g0, g1]
  refine ⟨no, wo, ?_⟩
  refine CN.use (rput_ok (h.ext hwf x1) v3 v3o hl) ?_
  rintro _ A2 hw2 hn2 ⟨x2, R2, rfl, hR2, hm2, lb2⟩
  have g02 := x2.get w1 g0
  have g12 := x2.get w1 g1
  have hl2' : R2.lns.length ≤ 100000 := by have : R2.m.lines = R.m.lines := by { rw [hm2]; rfl }; have e : R2.lns = R.lns := this; rw [e]; exact hl2
  simp [g12, v3l, v3e0]
  refine CN.use (rline_ok hR2 now v.tn 1 0 hl2') ?_
  rintro _ A3 hw3 hn3 ⟨x3, R3, rfl, hR3, hm3, lb3⟩
  have g03 := x3.get hw2 g02
  have g13 := x3.get hw2 g12
  have x13 := x2.trans hn2 x3
  have r3l := rg_len R3
  have r3t := rg_take R3
  have r3o := rg_one R3
  have r3z : spl R.enc 0 R3.enc = R3.enc := rfl
  have hobx : ∃ A4, A4 = A3.set A.next (.row R3.enc 32 false) := ⟨_, rfl⟩
  obtain ⟨A4, hA4⟩ := hobx
  have w4 : A4.wf := by rw [hA4]; exact AH.wf_set hw3 (by omega) _
  have n4 : A4.next = A3.next := by rw [hA4]; rfl
  have hR4 : R3.ok A4 := by rw [hA4]; exact hR3.box g03 (by decide) _
  have g04 : A4.get A.next = some (.row R3.enc 32 false) := by rw [hA4, AH.get_set, if_pos rfl]
  have g14 : A4.get (A.next + 1) = some (.row v3.enc 107 false) := by rw [hA4, AH.get_set, if_neg (by omega)]; exact g13
  have g34 : A4.get (A.next + 2) = some (.row [Value.int .i64 0, .int .i64 0, .slice none 0 0, .int .i64 0, .slice none 0 0, .slice none 0 0] 32 false) := by rw [hA4, AH.get_set, if_neg (by omega)]; exact x13.get w1 g3
  have g44 : A4.get (A.next + 3) = some (.row v.now.enc 105 false) := by rw [hA4, AH.get_set, if_neg (by omega)]; exact x13.get w1 g4
  have x04 : Ext A A4 := by rw [hA4]; exact (x1.trans (by omega) x13).setnew (by omega) _
  have hl3' : R3.acs.length ≤ 100000 := by
    have : R3.m.acts = R.m.acts := by { rw [hm3, hm2]; rfl }
    have e := congrArg List.length this
    simp [RgM.m] at e; omega
  have hd := rdoes_ok hR4 ⟨⟨3, v.tn, v.new.s.k, wtZ, []⟩, none, 0⟩ ⟨Sl.nil Pla.no _ _ _, (fun h => absurd rfl h), by simp⟩ hl3'
  rw [show AcM.enc ⟨⟨3, v.tn, v.new.s.k, wtZ, []⟩, none, 0⟩ = [.int .i64 3, .int .i64 v.tn, .int .i64 v.new.s.k.tail, .int .i64 v.new.s.k.tunnel, .int .i64 v.new.s.k.head, .int .i64 v.new.s.k.lsp, .int .u64 0, .int .i64 0, .int .i64 0, .int .u32 0, .int .u32 0, .int .u32 0, .slice none 0 0] from rfl] at hd
  simp [g03, r3l, rl, r3z, ← hA4, g04, r3t, g14, v3l, v3e0, v3k]
  refine ⟨r3o, ?_⟩
  refine CN.use hd ?_
  rintro _ A5 hw5 hn5 ⟨x5, R5, rfl, hR5, hm5, lb5⟩
  have g05 := x5.get w4 g04
  have r5l := rg_len R5
  have r5t := rg_take R5
  have r5o := rg_one R5
  have r5z : spl R3.enc 0 R5.enc = R5.enc := rfl
  have hobx : ∃ A6, A6 = A5.set A.next (.row R5.enc 32 false) := ⟨_, rfl⟩
  obtain ⟨A6, hA6⟩ := hobx
  have w6 : A6.wf := by rw [hA6]; exact AH.wf_set hw5 (by omega) _
  have n6 : A6.next = A5.next := by rw [hA6]; rfl
  have hR6 : R5.ok A6 := by rw [hA6]; exact hR5.box g05 (by decide) _
  have g06 : A6.get A.next = some (.row R5.enc 32 false) := by rw [hA6, AH.get_set, if_pos rfl]
  have g16 : A6.get (A.next + 1) = some (.row v3.enc 107 false) := by rw [hA6, AH.get_set, if_neg (by omega)]; exact x5.get w4 g14
  have g36 : A6.get (A.next + 2) = some (.row [Value.int .i64 0, .int .i64 0, .slice none 0 0, .int .i64 0, .slice none 0 0, .slice none 0 0] 32 false) := by rw [hA6, AH.get_set, if_neg (by omega)]; exact x5.get w4 g34
  have g46 : A6.get (A.next + 3) = some (.row v.now.enc 105 false) := by rw [hA6, AH.get_set, if_neg (by omega)]; exact x5.get w4 g44
  have x06 : Ext A A6 := by rw [hA6]; exact (x04.trans (by omega) x5).setnew (by omega) _
  have hm6 : R5.m = ((putR R.m { v.v with now := v.v.new, new := lsZ, back := 1 }).says ⟨now, v.tn, 1, 0⟩).does ⟨3, v.tn, v.new.s.k, wtZ, []⟩ := by rw [hm5, hm3, hm2, hv3]; rfl
  have hl5' : R5.acs.length ≤ 100000 := by
    have e := congrArg (fun m => m.acts.length) hm6
    simp [RgM.m, Mg.does, Mg.says, putR] at e; omega
  by_cases hz : v.now.s.k.lsp = 0
  · have r5z' : spl [Value.int .i64 0, .int .i64 0, .slice none 0 0, .int .i64 0, .slice none 0 0, .slice none 0 0] 0 R5.enc = R5.enc := rfl
    simp [g05, r5l, r3l, r5z, ← hA6, g46, nl, n3, hz, g06, r5t, g36, r5z']
    refine ⟨r5o, ?_⟩
    have x07 : Ext A (A6.set (A.next + 2) (.row R5.enc 32 false)) := x06.setnew (by omega) _
    refine DN.of ⟨x07, R5, rfl, hR6.box g36 (by decide) _, ?_, fun c hc hl => lb5 c (by omega) (lb3 c (by omega) (lb2 c (by omega) hl))⟩
    rw [hm6]; unfold Mg.rups; rw [if_pos (show v.v.now.k.lsp = 0 from hz)]; rfl
  · simp [g05, r5l, r3l, r5z, ← hA6, g46, nl, nt, n3, hz, g06, g16, r5t, v3l, v3t]
    refine ⟨r5o, ?_⟩
    refine CN.use (rstop_ok hR6 v3 v.now hl5') ?_
    rintro _ A7 hw7 hn7 ⟨x7, R7, rfl, hR7, hm7, lb7⟩
    have g37 := x7.get w6 g36
    have r7z : spl [Value.int .i64 0, .int .i64 0, .slice none 0 0, .int .i64 0, .slice none 0 0, .slice none 0 0] 0 R7.enc = R7.enc := rfl
    have r7t := rg_take R7
    simp [g37, rg_len, r7z, r7t]
    have x08 : Ext A (A7.set (A.next + 2) (.row R7.enc 32 false)) := (x06.trans (by omega) x7).setnew (by omega) _
    refine ⟨rg_one R7, DN.of ⟨x08, R7, rfl, hR7.box g37 (by decide) _, ?_, fun c hc hl => lb7 c (by omega) (lb5 c (by omega) (lb3 c (by omega) (lb2 c (by omega) hl)))⟩⟩
    rw [hm7, hm6, hv3]; unfold Mg.rups; rw [if_neg (show ¬ v.v.now.k.lsp = 0 from hz)]; rfl
theorem ownI_none {k : Ky} : ∀ {l : List Vw}, (∀ v ∈ l, hitB v k = false) → ownI l k = none
  | [], _ => rfl
  | v :: l, h => by
    unfold ownI
    rw [if_neg (by rw [h v List.mem_cons_self]; decide), ownI_none fun u hu => h u (List.mem_cons_of_mem _ hu)]; rfl
theorem ownI_first {k : Ky} : ∀ {l : List Vw} {i : Nat} {v : Vw}, l[i]? = some v → hitB v k = true → (∀ (j : Nat) (u : Vw), j < i → l[j]? = some u → hitB u k = false) → ownI l k = some i
  | [], i, v, h, _, _ => by simp at h
  | u :: l, 0, v, h, hh, _ => by
    injection h with h; subst h
    unfold ownI; rw [if_pos hh]
  | u :: l, i + 1, v, h, hh, hno => by
    unfold ownI
    rw [if_neg (by rw [hno 0 u (by omega) rfl]; decide), ownI_first (l := l) (i := i) (by simpa using h) hh fun j w hj hw => hno (j + 1) w (by omega) (by simpa using hw)]; rfl
theorem ky_len4 (k : Ky) : k.enc.length = 4 := rfl
theorem k_3 (k : Ky) : k.enc[3]'(by rw [ky_len4]; omega) = .int .i64 k.lsp := rfl
set_option maxHeartbeats 8000000 in
theorem rowner_ok {A : AH} {R : RgM} (h : R.ok A) (k : Ky) (hl : R.xs.length ≤ 1000) : ACall Tryz.prog 60 [.agg R.enc.toArray, .agg k.enc.toArray] A fun r A' => Ext A A' ∧ ((∃ (i : Nat) (x : VwM), R.xs[i]? = some x ∧ ownI R.m.l k = some i ∧ r = .tuple #[.agg x.enc.toArray, .bool true]) ∨ (ownI R.m.l k = none ∧ r = .tuple #[.agg vzM.enc.toArray, .bool false])) := by
  have kl := ky_len4 k
  have kt : k.enc.take 4 = k.enc := rfl
  have k3 := k_3 k
  have hl0 : ∀ (j : Nat) (u : Vw), R.m.l[j]? = some u → ∃ y, R.xs[j]? = some y ∧ y.v = u := fun j u hu => by
    rw [show R.m.l = R.xs.map VwM.v from rfl, List.getElem?_map] at hu
    cases hx : R.xs[j]? with
    | none => rw [hx] at hu; cases hu
    | some y => rw [hx] at hu; injection hu with hu; exact ⟨y, rfl, hu⟩
  refine ACall.wf fun hwf => ?_
  have hobx : ∃ A1, A1 = ((A.alloc (.row R.enc 32 false)).alloc (.row k.enc 38 false)).alloc (.row [Value.int .i64 0, .int .i64 0, .int .u64 0, .int .i64 0, .int .i64 0, .int .u32 0, .int .u32 0, .int .u32 0, .int .i64 0, .int .i64 0, .int .i64 0, .int .i64 0, .int .u64 0, .int .i64 0, .int .i64 0, .int .u32 0, .int .u32 0, .int .u32 0, .slice none 0 0, .int .i64 0, .int .i64 0, .int .i64 0, .int .i64 0, .int .u64 0, .int .i64 0, .int .i64 0, .int .u32 0, .int .u32 0, .int .u32 0, .slice none 0 0, .int .i64 0, .int .i64 0] 107 false) := ⟨_, rfl⟩
  obtain ⟨A1, hA1⟩ := hobx
  have w1 : A1.wf := by rw [hA1]; exact AH.wf_alloc (AH.wf_alloc (AH.wf_alloc hwf _) _) _
  have n1 : A1.next = A.next + 3 := by rw [hA1]; rfl
  have x1 : Ext A A1 := by rw [hA1]; exact ((Ext.alloc A _).app (by simp) _).app (by simp; omega) _
  have g0 : A1.get A.next = some (.row R.enc 32 false) := by rw [hA1]; simp [AH.get_alloc]
  have g1 : A1.get (A.next + 1) = some (.row k.enc 38 false) := by rw [hA1]; simp [AH.get_alloc]
  have g2 : A1.get (A.next + 2) = some (.row [Value.int .i64 0, .int .i64 0, .int .u64 0, .int .i64 0, .int .i64 0, .int .u32 0, .int .u32 0, .int .u32 0, .int .i64 0, .int .i64 0, .int .i64 0, .int .i64 0, .int .u64 0, .int .i64 0, .int .i64 0, .int .u32 0, .int .u32 0, .int .u32 0, .slice none 0 0, .int .i64 0, .int .i64 0, .int .i64 0, .int .i64 0, .int .u64 0, .int .i64 0, .int .i64 0, .int .u32 0, .int .u32 0, .int .u32 0, .slice none 0 0, .int .i64 0, .int .i64 0] 107 false) := by rw [hA1]; simp [AH.get_alloc]
  have hs := h.l
  refine code60.call (by simp) fun hwf => ?_
  unfold c60
  simp only [RgM.enc] at hA1 g0 ⊢
  simp [kl, ← hA1]
  refine LN.use (fun m E A' => ∃ (i : Nat), m + i = R.xs.length ∧ Ext A1 A' ∧ A1.next ≤ A'.next ∧ (∀ (j : Nat) (u : Vw), j < i → R.m.l[j]? = some u → hitB u k = false) ∧ E.get 2 = .pointer (some ⟨A.next, 0, none⟩) ∧ E.get 3 = .pointer (some ⟨A.next + 1, 0, none⟩) ∧ E.get 4 = .pointer (some ⟨A.next + 2, 0, none⟩) ∧ E.get 5 = .bool false ∧ E.get 6 = .int .i64 i) R.xs.length
    ⟨0, by omega, Ext.refl _, Nat.le_refl _, by omega, by simp, by simp, by simp, by simp, by simp⟩ ?_
  rintro m E A2 hw2 hn2 ⟨i, hi, x2, n2, hno, E2, E3, E4, E5, E6⟩
  have gm := x2.get w1 g0
  have gk := x2.get w1 g1
  have gz := x2.get w1 g2
  by_cases hlt : i < R.xs.length
  rotate_left
  · have hlt' : ¬ (i : Int) < R.xs.length := by omega
    simp [E2, E3, E4, E5, E6, gm, gz, hlt']
    refine DN.of ⟨(x1.trans (by omega) x2).setnew (by omega) _, Or.inr ⟨ownI_none fun v hv => ?_, rfl⟩⟩
    have hobt := List.getElem?_of_mem hv
    obtain ⟨j, hj⟩ := hobt
    exact hno j v (by have := (List.getElem?_eq_some_iff.1 hj).1; rw [show R.m.l = R.xs.map VwM.v from rfl, List.length_map] at this; omega) hj
  have hlt' : (i : Int) < R.xs.length := by omega
  have hgi : IntKind.i64.wrap ((i : Int) + 1) = ((i + 1 : Nat) : Int) := by rw [i64_in (by omega) (by omega)]; simp
  have hobx : ∃ x, x = R.xs[i] := ⟨_, rfl⟩
  obtain ⟨x, hx⟩ := hobx
  have hxi : R.xs[i]? = some x := by rw [List.getElem?_eq_getElem hlt, hx]
  have hvi : R.m.l[i]? = some x.v := by rw [show R.m.l = R.xs.map VwM.v from rfl, List.getElem?_map, hxi]; rfl
  have hobt := hs.at (i := i) (by simpa using hlt)
  obtain ⟨b, o, cs, q, hb, u0, u2, u3⟩ := hobt
  have u1 := x2.get w1 (x1.get hwf u0)
  rw [List.getElem_map, ← hx] at u3
  have xl := vw_len x
  have xo := vw_one x
  have xt := vw_take x
  have xz := vw_z x
  have xn : (x.enc.drop 8).take 4 = x.now.s.k.enc := rfl
  have xw : (x.enc.drop 19).take 4 = x.new.s.k.enc := rfl
  have hobx : ∃ A3, A3 = A2.alloc (.row x.enc 107 false) := ⟨_, rfl⟩
  obtain ⟨A3, hA3⟩ := hobx
  have w3 : A3.wf := by rw [hA3]; exact AH.wf_alloc hw2 _
  have n3 : A3.next = A2.next + 1 := by rw [hA3]; rfl
  have x3 : Ext A2 A3 := by rw [hA3]; exact Ext.alloc A2 _
  have g3 : A3.get A2.next = some (.row x.enc 107 false) := by rw [hA3, AH.get_new]
  have gk3 := x3.get hw2 gk
  have gz3 := x3.get hw2 gz
  have x13 := x2.trans (by omega) x3
  have hnx : A2.next ≠ A.next + 2 := by omega
  have fin : hitB x.v k = true → ∀ A' : AH, Ext A A' → Ext A A' ∧ ((∃ (i : Nat) (y : VwM), R.xs[i]? = some y ∧ ownI R.m.l k = some i ∧ Value.tuple #[.agg x.enc.toArray, .bool true] = .tuple #[.agg y.enc.toArray, .bool true]) ∨ (ownI R.m.l k = none ∧ Value.tuple #[.agg x.enc.toArray, .bool true] = .tuple #[.agg vzM.enc.toArray, .bool false])) := fun hh A' hx' => ⟨hx', Or.inl ⟨i, x, hxi, ownI_first hvi hh hno, rfl⟩⟩
  have stay : hitB x.v k = false → ∀ (j : Nat) (u : Vw), j < i + 1 → R.m.l[j]? = some u → hitB u k = false := fun hh j u hj hu => by
    by_cases e : j = i
    · subst e; rw [hvi] at hu; injection hu with hu; rw [← hu]; exact hh
    · exact hno j u (by omega) hu
  by_cases hz : k.lsp = 0
  · simp [E2, E3, E4, E5, E6, gm, hlt, hlt', hb, u1, u2, u3, xl, xt, xz, ← hA3, gk3, kl, k3, hz, hgi]
    refine ⟨xo, ?_⟩
    exact NX.of ⟨m - 1, by omega, i + 1, by omega, x13, by omega, stay (by simp [hitB, hz]), by simp [E2], by simp [E3], by simp [E4], by simp [E5], by simp⟩
  by_cases h1 : x.now.s.k = k
  · simp [E2, E3, E4, E5, E6, gm, hlt, hlt', hb, u1, u2, u3, xl, xt, xz, ← hA3, gk3, kl, kt, k3, hz, g3, xn, h1, gz3]
    refine ⟨xo, DN.of (fin (by simp [hitB, hz, VwM.v, h1]) _ ?_)⟩
    exact (x1.trans (by omega) x13).setnew (by omega) _
  by_cases h2 : x.new.s.k = k
  · simp [E2, E3, E4, E5, E6, gm, hlt, hlt', hb, u1, u2, u3, xl, xt, xz, ← hA3, gk3, kl, kt, k3, hz, g3, xn, xw, h1, h2, gz3]
    refine ⟨xo, DN.of (fin (by simp [hitB, hz, VwM.v, h2]) _ ?_)⟩
    exact (x1.trans (by omega) x13).setnew (by omega) _
  · simp [E2, E3, E4, E5, E6, gm, hlt, hlt', hb, u1, u2, u3, xl, xt, xz, ← hA3, gk3, kl, kt, k3, hz, g3, xn, xw, h1, h2, hgi]
    refine ⟨xo, ?_⟩
    exact NX.of ⟨m - 1, by omega, i + 1, by omega, x13, by omega, stay (by simp [hitB, VwM.v, h1, h2]), by simp [E2], by simp [E3], by simp [E4], by simp [E5], by simp⟩
noncomputable def Mg.rtries (m : Mg) (v : Vw) (now : Int) (l : List Adv) : Mg :=
  if (FN m.n l (askV v) m.head v.tl).1 ≠ 0 then m.rfails v now (FN m.n l (askV v) m.head v.tl).1
  else if 65535 ≤ m.count then m.rfails v now 7
  else (putR { m with count := m.count + 1 } { v with new := ⟨⟨v.tl, v.tn, m.head, m.count + 1⟩, v.w, (FN m.n l (askV v) m.head v.tl).2⟩, wait := now + 10 }).does ⟨1, v.tn, ⟨v.tl, v.tn, m.head, m.count + 1⟩, v.w, (FN m.n l (askV v) m.head v.tl).2⟩
theorem RgM.ok.fr {A A' : AH} {R : RgM} (h : R.ok A) (hf : ∀ k cs T ro, A.get k = some (.row cs T ro) → T = 107 ∨ T = 102 ∨ T = 104 ∨ T = 3 → A'.get k = A.get k) : R.ok A' := h.keep hf
theorem ownN_no {v : Vw} (h : ¬ v.now.w.hold ≤ v.w.setup) (k : Nat) : ownN v k = [] := by unfold ownN; rw [if_neg h]
theorem ownN_one (v : Vw) : ownN v 1 = [] := by unfold ownN; split <;> rfl
theorem ownN_zero (v : Vw) : ownN v 0 = [] := by unfold ownN; split <;> rfl
set_option maxHeartbeats 8000000 in
set_option maxRecDepth 4000 in
theorem rtries_ok {A : AH} {R : RgM} (h : R.ok A) (v : VwM) (hv : v.ok A) (now : Int) (hl1 : R.xs.length ≤ 1000) (hl2 : R.lns.length ≤ 100000) (hl3 : R.acs.length ≤ 90000) (hnow : 0 ≤ now ∧ now ≤ 1099511627766) (hhd : 0 ≤ R.hd ∧ R.hd < 16) (hbk : 0 ≤ v.back ∧ v.back ≤ 8) (hcn : 0 ≤ R.cnt ∧ R.cnt ≤ 65535) (hw : (askV v.v).wf) {al : Option Addr} {cl : Nat} {l : List Adv} (hl : Sl A 132 15 al (l.map Adv.enc)) (hx : ∀ x ∈ l, x.wf) (hln : l.length ≤ 1000) : ACall Tryz.prog 69 [.agg R.enc.toArray, .int .i64 now, .agg v.enc.toArray, .slice al l.length cl] A fun r A' => RgP A R (R.m.rtries v.v now l) r A' := by
  have vl := vw_len v
  have vt := vw_take v
  have hobt := hv.1
  obtain ⟨hsl, hty, hrl⟩ := hobt
  have wl : v.w.enc.length = 6 := rfl
  have vwant : (v.enc.drop 2).take 6 = v.w.enc := rfl
  have e18 : v.enc[18]'(by rw [vw_len]; omega) = .slice v.now.a v.now.s.r.length v.now.c := rfl
  have e14 : v.enc[14]'(by rw [vw_len]; omega) = .int .i64 v.now.s.w.hold := rfl
  have e3 : v.enc[3]'(by rw [vw_len]; omega) = .int .i64 v.w.setup := rfl
  have e12 : v.enc[12]'(by rw [vw_len]; omega) = .int .u64 v.now.s.w.bw := rfl
  have e1 : v.enc[1]'(by rw [vw_len]; omega) = .int .i64 v.tl := rfl
  have e0 : v.enc[0]'(by rw [vw_len]; omega) = .int .i64 v.tn := rfl
  have hb0 : spl [Value.int .u64 0, .int .i64 0, .int .i64 0, .int .u32 0, .int .u32 0, .int .u32 0, .slice none 0 0, .slice none 0 0, .slice none 0 0, .int .i64 0] 0 v.w.enc = (askM v.w [] none 0).enc := rfl
  obtain ⟨rl, rt, ro⟩ : R.enc.length = 6 ∧ R.enc.take 6 = R.enc ∧ ∀ v ∈ R.enc, oneB v = true := ⟨rg_len R, rg_take R, rg_one R⟩
  have r0 : R.enc[0]'(by rw [rl]; omega) = .int .i64 R.hd := rfl
  have r1 : R.enc[1]'(by rw [rl]; omega) = .int .i64 R.n := rfl
  have r3 : R.enc[3]'(by rw [rl]; omega) = .int .i64 R.cnt := rfl
  have alF : ∀ (ow : List Ow) (ao : Option Addr) (co : Nat), (askM v.w ow ao co).enc.length = 10 ∧ (∀ y ∈ (askM v.w ow ao co).enc, oneB y = true) ∧ (askM v.w ow ao co).enc.take 10 = (askM v.w ow ao co).enc := fun ow ao co => ⟨rfl, List.all_eq_true.1 (rfl : (askM v.w ow ao co).enc.all oneB = true), rfl⟩
  have hobt := alF [] none 0
  obtain ⟨al0, ao0, at0⟩ := hobt
  refine ACall.wf fun hwf => ?_
  have hobx : ∃ A1, A1 = ((((A.alloc (.row R.enc 32 false)).alloc (.row v.enc 107 false)).alloc (.row [Value.int .i64 0, .int .i64 0, .slice none 0 0, .int .i64 0, .slice none 0 0, .slice none 0 0] 32 false)).alloc (.row [Value.int .u64 0, .int .i64 0, .int .i64 0, .int .u32 0, .int .u32 0, .int .u32 0, .slice none 0 0, .slice none 0 0, .slice none 0 0, .int .i64 0] 67 false)).set (A.next + 3) (.row (askM v.w [] none 0).enc 67 false) := ⟨_, rfl⟩
  obtain ⟨A1, hA1⟩ := hobx
  have w1 : A1.wf := by rw [hA1]; exact AH.wf_set (AH.wf_alloc (AH.wf_alloc (AH.wf_alloc (AH.wf_alloc hwf _) _) _) _) (by simp) _
  have n1 : A1.next = A.next + 4 := by rw [hA1]; rfl
  have x1 : Ext A A1 := by rw [hA1]; exact ((((Ext.alloc A _).app (by simp) _).app (by simp; omega) _).app (by simp; omega) _).setnew (by omega) _
  have g0 : A1.get A.next = some (.row R.enc 32 false) := by rw [hA1]; simp [AH.get_alloc, AH.get_set]
  have g1 : A1.get (A.next + 1) = some (.row v.enc 107 false) := by rw [hA1]; simp [AH.get_alloc, AH.get_set]
  have g2 : A1.get (A.next + 2) = some (.row [Value.int .i64 0, .int .i64 0, .slice none 0 0, .int .i64 0, .slice none 0 0, .slice none 0 0] 32 false) := by rw [hA1]; simp [AH.get_alloc, AH.get_set]
  have g3 : A1.get (A.next + 3) = some (.row (askM v.w [] none 0).enc 67 false) := by rw [hA1]; simp [AH.get_set]
  refine code69.call (by simp) fun hwf => ?_
  unfold c69
  simp [rl, vl, vwant, wl, hb0, al0, ← hA1]
  refine ⟨ao0, ?_⟩
  refine LN.join 0 (fun k E A' => ∃ (i : Nat) (ao : Option Addr) (co : Nat), k + i = v.now.s.r.length + 1 ∧ 1 ≤ i ∧ (i ≤ v.now.s.r.length ∨ i = 1) ∧ Ext A A' ∧ A1.next ≤ A'.next ∧ (∀ b, b < A.next + 3 → A'.get b = A1.get b) ∧ A'.get (A.next + 3) = some (.row (askM v.w (ownN v.v i) ao co).enc 67 false) ∧ Own A1.next A' 73 3 (.slice ao (ownN v.v i).length co) ((ownN v.v i).map Ow.enc) ∧ E.get 1 = .int .i64 now ∧ E.get 3 = .slice al l.length cl ∧ E.get 4 = .pointer (some ⟨A.next, 0, none⟩) ∧ E.get 6 = .pointer (some ⟨A.next + 1, 0, none⟩) ∧ E.get 8 = .pointer (some ⟨A.next + 2, 0, none⟩) ∧ E.get 9 = .pointer (some ⟨A.next + 3, 0, none⟩) ∧ E.get 10 = .int .i64 i) (v.now.s.r.length)
    (fun E A' => ∃ (ao : Option Addr) (co : Nat), Ext A A' ∧ A1.next ≤ A'.next ∧ A'.wf ∧ (∀ b, b < A.next + 3 → A'.get b = A1.get b) ∧ A'.get (A.next + 3) = some (.row (askM v.w (ownL v.v) ao co).enc 67 false) ∧ Own A1.next A' 73 3 (.slice ao (ownL v.v).length co) ((ownL v.v).map Ow.enc) ∧ E.get 1 = .int .i64 now ∧ E.get 3 = .slice al l.length cl ∧ E.get 4 = .pointer (some ⟨A.next, 0, none⟩) ∧ E.get 6 = .pointer (some ⟨A.next + 1, 0, none⟩) ∧ E.get 8 = .pointer (some ⟨A.next + 2, 0, none⟩) ∧ E.get 9 = .pointer (some ⟨A.next + 3, 0, none⟩))
    ⟨1, none, 0, by omega, by omega, Or.inr rfl, x1, Nat.le_refl _, fun b _ => rfl, by rw [ownN_one]; exact g3, by rw [ownN_one]; exact Own.nil _ _ _ _, by simp, by simp, by simp, by simp, by simp, by simp, by simp⟩ ?_ ?_
  · rintro k E A2 hw2 hn2 ⟨i, ao, co, hi, hi1, hi2, x2, n2, k2, ga, oo, E1, E3, E4, E6, E8, E9, E10⟩
    have gv : A2.get (A.next + 1) = some (.row v.enc 107 false) := by rw [k2 _ (by omega)]; exact g1
    have hobt := alF (ownN v.v i) ao co
    obtain ⟨q1, q2, q3⟩ := hobt
    by_cases hlt : i < v.now.s.r.length
    rotate_left
    · have hlt' : ¬ (i : Int) < v.now.s.r.length := by omega
      have he : ownN v.v i = ownL v.v := by
        show ownN v.v i = ownN v.v v.now.s.r.length
        by_cases e : i = v.now.s.r.length
        · rw [e]
        · rw [show i = 1 by omega, show v.now.s.r.length = 0 by omega, ownN_one, ownN_zero]
      simp [E6, E10, gv, vl, e18, hlt']
      exact NX.of ⟨ao, co, x2, n2, hw2, k2, by rw [← he]; exact ga, by rw [← he]; exact oo, by simp [E1], by simp [E3], by simp [E4], by simp [E6], by simp [E8], by simp [E9]⟩
    have hlt' : (i : Int) < v.now.s.r.length := by omega
    by_cases hh : v.now.s.w.hold ≤ v.w.setup
    rotate_left
    · have he : ownN v.v i = ownL v.v := by
        have hh' : ¬ v.v.now.w.hold ≤ v.v.w.setup := hh
        rw [ownN_no hh']; exact (ownN_no hh' _).symm
      simp [E6, E10, gv, vl, e18, hlt, hlt', e14, e3, hh]
      exact NX.of ⟨ao, co, x2, n2, hw2, k2, by rw [← he]; exact ga, by rw [← he]; exact oo, by simp [E1], by simp [E3], by simp [E4], by simp [E6], by simp [E8], by simp [E9]⟩
    have hgi : IntKind.i64.wrap ((i : Int) + 1) = ((i + 1 : Nat) : Int) := by rw [i64_in (by omega) (by omega)]; simp
    have hst := ownN_step v.v (i := i) (by omega) hlt hh
    obtain ⟨k', hk'⟩ : ∃ k', i = k' + 1 := ⟨i - 1, by omega⟩
    have hkl : k' < v.now.s.r.length := by omega
    have hgk : IntKind.i64.wrap ((i : Int) - 1) = (k' : Int) := by rw [i64_in (by omega) (by omega)]; omega
    have hobt := (hsl.ext hwf x2).one (AI.ints_at (l := v.now.s.r) (i := i) hlt)
    obtain ⟨b, o, cs, q, hba, u1, u2⟩ := hobt
    have hobt := (hsl.ext hwf x2).one (AI.ints_at (l := v.now.s.r) (i := k') hkl)
    obtain ⟨b2, o2, cs2, q2', hba2, v1, v2⟩ := hobt
    rw [hba] at hba2; injection hba2 with hba2; injection hba2 with hb2 ho2 _; subst hb2; subst ho2
    rw [u1] at v1; injection v1 with v1; injection v1 with v1 _ _; subst v1
    have hownl : (ownN v.v i).length ≤ 1000 := by
      unfold ownN; split <;> simp <;> omega
    have hobx : ∃ w : Ow, w = ⟨v.now.s.r[k']'hkl, v.now.s.r[i]'hlt, v.now.s.w.bw⟩ := ⟨_, rfl⟩
    obtain ⟨w, hwd⟩ := hobx
    have hobt := own_push oo (y := 24) (r := w.enc) hw2 (by omega) ⟨rfl, rfl⟩ (by omega) (by omega) (by simp; omega)
    obtain ⟨u', A3, p1, p2, p3, p4⟩ := hobt
    have hst2 : ownN v.v (i + 1) = ownN v.v i ++ [w] := by
      rw [hst, hwd]; subst hk'; rfl
    rw [show (ownN v.v i).map Ow.enc ++ [w.enc] = (ownN v.v (i + 1)).map Ow.enc by rw [hst2]; simp] at p2
    have hobt := own_slm p2
    obtain ⟨a5, c5, rfl, -⟩ := hobt
    rw [show w.enc = [.int .i64 (v.now.s.r[k']'hkl), .int .i64 (v.now.s.r[i]'hlt), .int .u64 v.now.s.w.bw] by rw [hwd]; rfl] at p1
    have hset := askM_set v.w (ownN v.v i) (ownN v.v (i + 1)) ao a5 co c5
    have ga3 : A3.get (A.next + 3) = some (.row (askM v.w (ownN v.v i) ao co).enc 67 false) := by rw [p4 _ (by omega)]; exact ga
    have e8 : (askM v.w (ownN v.v i) ao co).enc[8]'(by rw [q1]; omega) = .slice ao (ownN v.v i).length co := rfl
    simp [E6, E9, E10, gv, vl, e18, hlt, hlt', e14, e3, hh, ga, q1, e8, hgk, hba, u1, u2, hkl, v2, e12, p1, ga3, hset, hgi]
    have xs3 : Ext A A3 := fun b hb => by rw [p4 b (by omega), x2 b hb]
    exact NX.of ⟨k - 1, by omega, i + 1, a5, c5, by omega, by omega, Or.inl (by omega), xs3.setnew (by omega) _, by simp; omega, fun b hb => by rw [AH.get_set, if_neg (by omega), p4 b (by omega), k2 b hb], by rw [AH.get_set, if_pos rfl], own_kept p2 fun b y hb hy => by rw [AH.get_set, if_neg (by omega)], by simp [E1], by simp [E3], by simp [E4], by simp [E6], by simp [E8], by simp [E9], by simp⟩
  · rintro E A2 ⟨ao, co, x2, n2, hw2, k2, ga, oo, E1, E3, E4, E6, E8, E9⟩
    have hobt := alF (ownL v.v) ao co
    obtain ⟨q1, q2, q3⟩ := hobt
    have gm : A2.get A.next = some (.row R.enc 32 false) := by rw [k2 _ (by omega)]; exact g0
    have gv : A2.get (A.next + 1) = some (.row v.enc 107 false) := by rw [k2 _ (by omega)]; exact g1
    have gz : A2.get (A.next + 2) = some (.row [Value.int .i64 0, .int .i64 0, .slice none 0 0, .int .i64 0, .slice none 0 0, .slice none 0 0] 32 false) := by rw [k2 _ (by omega)]; exact g2
    have aok : (askM v.w (ownL v.v) ao co).ok A2 73 := by
      have hobt := own_slm oo
      obtain ⟨a', c', e, s', -⟩ := hobt
      injection e with e _ _; subst e
      exact ⟨Sl.nil Pla.no _ _ _, Sl.nil Pla.no _ _ _, s'⟩
    simp [E1, E3, E4, E6, E8, E9, gm, gv, rl, vl, r0, r1, e1, ga, q1, q3]
    refine CN.use (rfind_ok (hl.ext hwf x2) hx hln (askM v.w (ownL v.v) ao co) aok hw R.n R.hd v.tl) ?_
    rintro _ A3 hw3 hn3 ⟨x3, ra, rc, r, xc, e, rfl, hF, hrs, hrl2, hrt⟩
    have hFN : FN R.m.n l (askV v.v) R.m.head v.v.tl = (e, r) := FN_is hF
    have gm3 := x3.get hw2 gm
    have gv3 := x3.get hw2 gv
    have gz3 := x3.get hw2 gz
    have x03 := x2.trans (by omega) x3
    have h3 := h.ext hwf x03
    have hv3 : v.ok A3 := VwM.ok.fr hv (FrT.ext hwf x03)
    have fin : ∀ {A4 : AH} {m' : Mg} {r : Value}, A3.next ≤ A4.next → A4.wf → RgP A3 R m' r A4 → R.m.rtries v.v now l = m' → ∃ R' : RgM, r = .agg R'.enc.toArray ∧ A4.get (A.next + 2) = some (.row [Value.int .i64 0, .int .i64 0, .slice none 0 0, .int .i64 0, .slice none 0 0, .slice none 0 0] 32 false) ∧ RgP A R (R.m.rtries v.v now l) (.agg R'.enc.toArray) (A4.set (A.next + 2) (.row R'.enc 32 false)) := fun {A4 m' r} hn hw ⟨x4, R', e1, hR, hm, hlb⟩ e2 => by
      have g := x4.get hw3 gz3
      exact ⟨R', e1, g, (x03.trans (by omega) x4).setnew (by omega) _, R', rfl, hR.box g (by decide) _, by rw [hm, e2], fun c hc hl => hlb c (by omega) hl⟩
    by_cases he : e = 0
    rotate_left
    · simp [E1, E4, E6, E8, gm3, gv3, rl, rt, vl, vt, he]
      refine CN.use (rfails_ok h3 v hv3 now e hl1 hl2 hnow hhd hbk) ?_
      rintro r4 A4 hw4 hn4 hP
      have hobt := fin hn4 hw4 hP (by unfold Mg.rtries; rw [hFN, if_pos he])
      obtain ⟨R', rfl, g4, hfin⟩ := hobt
      have rz := rg_z R'
      simp [E8, g4, rg_len, rz, rg_take]
      exact ⟨rg_one R', DN.of hfin⟩
    by_cases hcm : 65535 ≤ R.cnt
    · simp [E1, E4, E6, E8, gm3, gv3, rl, rt, vl, vt, he, r3, hcm]
      refine CN.use (rfails_ok h3 v hv3 now 7 hl1 hl2 hnow hhd hbk) ?_
      rintro r4 A4 hw4 hn4 hP
      have hobt := fin hn4 hw4 hP (by unfold Mg.rtries; rw [hFN, if_neg (by simp [he]), if_pos (show 65535 ≤ R.m.count from hcm)])
      obtain ⟨R', rfl, g4, hfin⟩ := hobt
      have rz := rg_z R'
      simp [E8, g4, rg_len, rz, rg_take]
      exact ⟨rg_one R', DN.of hfin⟩
    have hcw : IntKind.i64.wrap (R.cnt + 1) = R.cnt + 1 := i64_in (by omega) (by omega)
    have hnw : IntKind.i64.wrap (now + 10) = now + 10 := i64_in (by omega) (by omega)
    have hobx : ∃ R1 : RgM, R1 = { R with cnt := R.cnt + 1 } := ⟨_, rfl⟩
    obtain ⟨R1, hR1⟩ := hobx
    have c1 : spl R.enc 3 [.int .i64 (R.cnt + 1)] = R1.enc := by rw [hR1]; rfl
    have l1 := rg_len R1
    have t1 := rg_take R1
    have c0 : R1.enc[0]'(by rw [rg_len]; omega) = .int .i64 R.hd := by simp only [hR1]; rfl
    have c3 : R1.enc[3]'(by rw [rg_len]; omega) = .int .i64 (R.cnt + 1) := by simp only [hR1]; rfl
    have hobx : ∃ k : Ky, k = ⟨v.tl, v.tn, R.hd, R.cnt + 1⟩ := ⟨_, rfl⟩
    obtain ⟨k, hk⟩ := hobx
    have hobx : ∃ y : LsM, y = ⟨⟨k, v.w, r⟩, ra, rc⟩ := ⟨_, rfl⟩
    obtain ⟨y, hy⟩ := hobx
    have hobx : ∃ tv, tv = spl (spl [Value.int IntKind.u64 0, Value.int IntKind.i64 0, Value.int IntKind.i64 0, Value.int IntKind.u32 0, Value.int IntKind.u32 0, Value.int IntKind.u32 0, Value.slice none 0 0] 0 v.w.enc) 6 [Value.slice ra r.length rc] := ⟨_, rfl⟩
    obtain ⟨tv, htv⟩ := hobx
    have tl0 : (spl [Value.int IntKind.u64 0, Value.int IntKind.i64 0, Value.int IntKind.i64 0, Value.int IntKind.u32 0, Value.int IntKind.u32 0, Value.int IntKind.u32 0, Value.slice none 0 0] 0 v.w.enc).length = 7 := rfl
    have tl1 : tv.length = 7 := by rw [htv]; rfl
    have tl2 : ∀ v ∈ tv, oneB v = true := by
      have : tv.all oneB = true := by rw [htv]; rfl
      exact List.all_eq_true.1 this
    have hobx : ∃ v1 : VwM, v1 = { v with new := y } := ⟨_, rfl⟩
    obtain ⟨v1, hv1⟩ := hobx
    have hobx : ∃ v2 : VwM, v2 = { v with new := y, wait := now + 10 } := ⟨_, rfl⟩
    obtain ⟨v2, hv2⟩ := hobx
    have s1 : spl v.enc 19 (.int .i64 v.tl :: .int .i64 v.tn :: .int .i64 R.hd :: .int .i64 (R.cnt + 1) :: tv) = v1.enc := by rw [htv, hv1, hy, hk]; rfl
    have s2 : spl v1.enc 30 [.int .i64 (now + 10)] = v2.enc := by rw [hv1, hv2]; rfl
    have v1l := vw_len v1
    have v2l := vw_len v2
    have v2t := vw_take v2
    have v2e0 : v2.enc[0]'(by rw [vw_len]; omega) = .int .i64 v.tn := by simp only [hv2]; rfl
    have v2k : (v2.enc.drop 19).take 4 = k.enc := by rw [hv2, hy]; rfl
    have v2w : (v2.enc.drop 2).take 6 = v.w.enc := by rw [hv2]; rfl
    have hke : k.enc = [.int .i64 k.tail, .int .i64 k.tunnel, .int .i64 k.head, .int .i64 k.lsp] := rfl
    have hwe : v.w.enc = [Value.int .u64 v.w.bw, .int .i64 v.w.setup, .int .i64 v.w.hold, .int .u32 v.w.any, .int .u32 v.w.all, .int .u32 v.w.no] := rfl
    have hobx : ∃ A4, A4 = (A3.set A.next (.row R1.enc 32 false)).set (A.next + 1) (.row v2.enc 107 false) := ⟨_, rfl⟩
    obtain ⟨A4, hA4⟩ := hobx
    have w4 : A4.wf := by rw [hA4]; exact AH.wf_set (AH.wf_set hw3 (by omega) _) (by simp; omega) _
    have n4 : A4.next = A3.next := by rw [hA4]; rfl
    have gm4 : A4.get A.next = some (.row R1.enc 32 false) := by rw [hA4]; simp [AH.get_set]
    have gv4 : A4.get (A.next + 1) = some (.row v2.enc 107 false) := by rw [hA4]; simp [AH.get_set]
    have gz4 : A4.get (A.next + 2) = some (.row [Value.int .i64 0, .int .i64 0, .slice none 0 0, .int .i64 0, .slice none 0 0, .slice none 0 0] 32 false) := by rw [hA4]; simp [AH.get_set]; exact gz3
    have x04 : Ext A A4 := by rw [hA4]; exact (x03.setnew (by omega) _).setnew (by omega) _
    have hR4 : R1.ok A4 := by
      have := h.ext hwf x04
      rw [hR1]; exact ⟨this.l, this.lo, this.a, this.ao, this.n, this.tl, this.ta, this.tn⟩
    have yo : y.ok A4 := by
      have hne : ∀ b cs ro, A3.get b = some (.row cs 3 ro) → A4.get b = A3.get b := fun b cs ro g => by
        rw [hA4, AH.get_set, if_neg, AH.get_set, if_neg]
        · intro e; subst e; rw [gm3] at g; injection g with g; injection g with _ g _; revert g; decide
        · intro e; subst e; rw [gv3] at g; injection g with g; injection g with _ g _; revert g; decide
      rw [hy]
      exact LsM.ok.int (x := ⟨⟨k, v.w, r⟩, ra, rc⟩) ⟨hrs, fun _ b o e => hrt b o e, hrl2⟩ hne
    have v2o : v2.ok A4 := by rw [hv2]; exact ⟨hv.1.fr (FrT.ext hwf x04), yo⟩
    have b1 : (spl [Value.int IntKind.i64 0, Value.int IntKind.i64 0, Value.int IntKind.i64 0, Value.int IntKind.i64 0, Value.int IntKind.u64 0, Value.int IntKind.i64 0, Value.int IntKind.i64 0, Value.int IntKind.u32 0, Value.int IntKind.u32 0, Value.int IntKind.u32 0, Value.slice none 0 0] 0 k.enc).length = 11 := rfl
    have b2 : (spl (spl [Value.int IntKind.i64 0, Value.int IntKind.i64 0, Value.int IntKind.i64 0, Value.int IntKind.i64 0, Value.int IntKind.u64 0, Value.int IntKind.i64 0, Value.int IntKind.i64 0, Value.int IntKind.u32 0, Value.int IntKind.u32 0, Value.int IntKind.u32 0, Value.slice none 0 0] 0 k.enc) 4 v.w.enc).length = 11 := rfl
    simp [E1, E4, E6, E8, gm3, gv3, rl, rt, vl, vt, he, r3, r0, e1, e0, hcm, hcw, hnw, vwant, wl, c1, l1, t1, c0, c3, ← htv, tl0, tl1, s1, v1l, s2, ← hA4, gm4, gv4, v2l, v2t, v2e0, v2k, v2w, b1, b2]
    refine ⟨tl2, ?_⟩
    refine CN.use (rput_ok hR4 v2 v2o (by rw [hR1]; exact hl1)) ?_
    rintro _ A5 hw5 hn5 ⟨x5, R5, rfl, hR5, hm5, lb5⟩
    have g5 := x5.get w4 gz4
    have hl5 : R5.acs.length ≤ 100000 := by
      have e := congrArg (fun m => m.acts.length) hm5
      simp [RgM.m, putR, hR1] at e; omega
    have hobx : ∃ z : AcM, z = ⟨⟨1, v.tn, k, v.w, r⟩, ra, rc⟩ := ⟨_, rfl⟩
    obtain ⟨z, hz⟩ := hobx
    have b3 : Value.int .i64 1 :: Value.int .i64 v.tn :: spl (spl (spl [Value.int IntKind.i64 0, Value.int IntKind.i64 0, Value.int IntKind.i64 0, Value.int IntKind.i64 0, Value.int IntKind.u64 0, Value.int IntKind.i64 0, Value.int IntKind.i64 0, Value.int IntKind.u32 0, Value.int IntKind.u32 0, Value.int IntKind.u32 0, Value.slice none 0 0] 0 k.enc) 4 v.w.enc) 10 [Value.slice ra r.length rc] = z.enc := by rw [hz]; rfl
    have zo : z.ok A5 := by
      have h1 : AcM.ok A4 z := by rw [hz]; have := yo; rw [hy] at this; exact this
      exact h1.fr (FrT.ext w4 x5)
    have gv5 := x5.get w4 gv4
    simp [b3, gv5, v2l, v2w, v2k, v2e0]
    refine CN.use (rdoes_ok hR5 z zo hl5) ?_
    rintro r6 A6 hw6 hn6 ⟨x6, R6, rfl, hR6, hm6, lb6⟩
    have g6 := x6.get hw5 g5
    have rz := rg_z R6
    simp [E8, g6, rg_len, rz, rg_take]
    refine ⟨rg_one R6, DN.of ⟨((x04.trans (by omega) x5).trans (by omega) x6).setnew (by omega) _, R6, rfl, hR6.box g6 (by decide) _, ?_, fun c hc hl => lb6 c (by omega) (lb5 c (by omega) (by rw [hR1]; exact hl))⟩⟩
    rw [hm6, hm5]
    unfold Mg.rtries
    rw [hFN, if_neg (by simp [he]), if_neg (show ¬ 65535 ≤ R.m.count from hcm), hz, hR1, hv2, hy, hk]
    rfl
def RgR (A : AH) (m : Mg × Int) (r : Value) (A' : AH) : Prop := Ext A A' ∧ ∃ R : RgM, r = .tuple #[.agg R.enc.toArray, .int .i64 m.2] ∧ R.ok A' ∧ R.m = m.1
theorem rgr_fin {A A4 : AH} {R : RgM} {m : Mg × Int} {c : Nat} {cs : List Value} (x : Ext A A4) (hc : A.next ≤ c) (g : A4.get c = some (.row cs 32 false)) (hR : R.ok A4) (hm : R.m = m.1) : RgR A m (.tuple #[.agg R.enc.toArray, .int .i64 m.2]) (A4.set c (.row R.enc 32 false)) := ⟨x.setnew hc _, R, rfl, hR.box g (by decide) _, hm⟩
theorem rg_spl (R S : RgM) : spl R.enc 0 S.enc = S.enc := rfl
theorem vset_nowZ (x : VwM) : spl x.enc 8 [Value.int .i64 0, .int .i64 0, .int .i64 0, .int .i64 0, .int .u64 0, .int .i64 0, .int .i64 0, .int .u32 0, .int .u32 0, .int .u32 0, .slice none 0 0] = VwM.enc { x with now := lmZ } := rfl
theorem vset_newZ (x : VwM) : spl x.enc 19 [Value.int .i64 0, .int .i64 0, .int .i64 0, .int .i64 0, .int .u64 0, .int .i64 0, .int .i64 0, .int .u32 0, .int .u32 0, .int .u32 0, .slice none 0 0] = VwM.enc { x with new := lmZ } := rfl
theorem vw_newK (x : VwM) : (x.enc.drop 19).take 4 = x.new.s.k.enc := rfl
def Mg.revent (m : Mg) (now : Int) (e : Ev) : Mg × Int :=
  if mayB now = false then (m, 2) else
  match ownI m.l e.k with
  | none => (m, 8)
  | some i =>
    let v := m.l.getD i vwZ
    if e.what = 1 ∧ v.new.k = e.k then (m.rups v now, 0)
    else if e.what = 2 ∧ v.new.k = e.k then ((m.does ⟨2, v.tn, v.new.k, wtZ, []⟩).rfails { v with new := lsZ } now e.code, 0)
    else if e.what = 2 then ((putR ((m.does ⟨4, v.tn, kyZ, wtZ, []⟩).does ⟨2, v.tn, v.now.k, wtZ, []⟩) { v with now := lsZ, wait := now + 1, back := 1 }).says ⟨now, v.tn, 2, e.code⟩, 0)
    else (m, 0)
structure RgM.fit (R : RgM) : Prop where
  xs2 : R.xs.length ≤ 400
  acs : R.acs.length ≤ 80000
  lns : R.lns.length ≤ 80000
  hd : 0 ≤ R.hd ∧ R.hd < 16
  cnt : 0 ≤ R.cnt ∧ R.cnt ≤ 65535
  vs : ∀ x ∈ R.xs, (0 ≤ x.back ∧ x.back ≤ 8) ∧ x.v.wf
theorem RgM.fit.xs {R : RgM} (h : R.fit) : R.xs.length ≤ 1000 := by have := h.xs2; omega
theorem RgP.m_len {R' : RgM} {m : Mg} (hm : R'.m = m) : R'.acs.length = m.acts.length ∧ R'.lns.length = m.lines.length ∧ R'.xs.length = m.l.length ∧ R'.hd = m.head ∧ R'.n = m.n ∧ R'.cnt = m.count := by
  subst hm; simp [RgM.m]
set_option maxHeartbeats 8000000 in
theorem revent_ok {A : AH} {R : RgM} (h : R.ok A) (hf : R.fit) (now : Int) (e : Ev) : ACall Tryz.prog 27 [.agg R.enc.toArray, .int .i64 now, .agg e.enc.toArray] A fun r A' => RgR A (R.m.revent now e) r A' := by
  have el : e.enc.length = 6 := rfl
  have e0 : e.enc[0]'(by omega) = .int .i64 e.what := rfl
  have e5 : e.enc[5]'(by omega) = .int .i64 e.code := rfl
  have ek : (e.enc.drop 1).take 4 = e.k.enc := rfl
  have ek' : List.take 4 e.enc.tail = e.k.enc := rfl
  refine ACall.wf fun hwf => ?_
  have hobx : ∃ A1, A1 = ((A.alloc (.row R.enc 32 false)).alloc (.row e.enc 40 false)).alloc (.row [Value.int .i64 0, .int .i64 0, .slice none 0 0, .int .i64 0, .slice none 0 0, .slice none 0 0] 32 false) := ⟨_, rfl⟩
  obtain ⟨A1, hA1⟩ := hobx
  have w1 : A1.wf := by rw [hA1]; exact AH.wf_alloc (AH.wf_alloc (AH.wf_alloc hwf _) _) _
  have n1 : A1.next = A.next + 3 := by rw [hA1]; rfl
  have x1 : Ext A A1 := by rw [hA1]; exact ((Ext.alloc A _).app (by simp) _).app (by simp; omega) _
  have g0 : A1.get A.next = some (.row R.enc 32 false) := by rw [hA1]; simp [AH.get_alloc]
  have g1 : A1.get (A.next + 1) = some (.row e.enc 40 false) := by rw [hA1]; simp [AH.get_alloc]
  have g2 : A1.get (A.next + 2) = some (.row [Value.int .i64 0, .int .i64 0, .slice none 0 0, .int .i64 0, .slice none 0 0, .slice none 0 0] 32 false) := by rw [hA1]; simp [AH.get_alloc]
  have ro := rg_one R
  refine code27.call (by simp) fun hwf => ?_
  unfold c27
  simp [rg_len, el, ← hA1]
  refine CN.use (tickable_ok now A1) ?_
  rintro _ A1' - - ⟨rfl, rfl⟩
  by_cases hmay : mayB now = true
  rotate_left
  · have hev : R.m.revent now e = (R.m, 2) := by unfold Mg.revent; rw [if_pos (by simpa using hmay)]
    simp [hmay, g0, g2, rg_len, rg_take, rg_z]
    refine ⟨ro, DN.of ?_⟩
    rw [hev]; exact rgr_fin (m := (R.m, 2)) x1 (by omega) g2 (h.ext hwf x1) rfl
  have hmay' : 0 ≤ now ∧ now ≤ 1099511627766 := by simpa [mayB] using hmay
  have h1 := h.ext hwf x1
  simp [hmay, g0, g1, rg_len, rg_take, el, ek']
  refine CN.use (rowner_ok h1 e.k hf.xs) ?_
  rintro _ A2 hw2 hn2 ⟨x2, ho⟩
  have x02 := x1.trans (by omega) x2
  have h2 := h1.ext w1 x2
  have g02 := x2.get w1 g0
  have g12 := x2.get w1 g1
  have g22 := x2.get w1 g2
  rcases ho with ⟨i, x, hxi, hoi, rfl⟩ | ⟨hon, rfl⟩
  rotate_left
  · have hev : R.m.revent now e = (R.m, 8) := by unfold Mg.revent; rw [if_neg (by simp [hmay]), hon]
    have vzl := vw_len vzM
    have vzo := vw_one vzM
    have x3 := Ext.alloc A2 (.row vzM.enc 107 false)
    have g03 : (A2.alloc (.row vzM.enc 107 false)).get A.next = some (.row R.enc 32 false) := x3.get hw2 g02
    have g23 : (A2.alloc (.row vzM.enc 107 false)).get (A.next + 2) = some (.row [Value.int .i64 0, .int .i64 0, .slice none 0 0, .int .i64 0, .slice none 0 0, .slice none 0 0] 32 false) := x3.get hw2 g22
    have hobx : ∃ A3, A3 = A2.alloc (.row vzM.enc 107 false) := ⟨_, rfl⟩
    obtain ⟨A3, hA3⟩ := hobx
    rw [← hA3] at x3 g03 g23
    simp [vzl, vw_z, ← hA3, g03, g23, rg_len, rg_take, rg_z]
    refine ⟨vzo, ro, DN.of ?_⟩
    rw [hev]; exact rgr_fin (m := (R.m, 8)) (x02.trans (by omega) x3) (by omega) g23 (h2.ext hw2 x3) rfl
  have hobx : ∃ v, v = x.v := ⟨_, rfl⟩
  obtain ⟨v, hv⟩ := hobx
  have hvi : R.m.l[i]? = some x.v := by rw [show R.m.l = R.xs.map VwM.v from rfl, List.getElem?_map, hxi]; rfl
  have hxm := List.mem_of_getElem? hxi
  have hxf := hf.vs x hxm
  have hobx : ∃ A3, A3 = A2.alloc (.row x.enc 107 false) := ⟨_, rfl⟩
  obtain ⟨A3, hA3⟩ := hobx
  have w3 : A3.wf := by rw [hA3]; exact AH.wf_alloc hw2 _
  have n3 : A3.next = A2.next + 1 := by rw [hA3]; rfl
  have x3 : Ext A2 A3 := by rw [hA3]; exact Ext.alloc A2 _
  have gx : A3.get A2.next = some (.row x.enc 107 false) := by rw [hA3, AH.get_new]
  have x03 := x02.trans (by omega) x3
  have h3 := h2.ext hw2 x3
  have xo3 := (h3.lo x hxm)
  have g03 := x3.get hw2 g02
  have g13 := x3.get hw2 g12
  have g23 := x3.get hw2 g22
  have xo := vw_one x
  have hev : R.m.revent now e = (if e.what = 1 ∧ x.v.new.k = e.k then (R.m.rups x.v now, 0)
    else if e.what = 2 ∧ x.v.new.k = e.k then ((R.m.does ⟨2, x.v.tn, x.v.new.k, wtZ, []⟩).rfails { x.v with new := lsZ } now e.code, 0)
    else if e.what = 2 then ((putR ((R.m.does ⟨4, x.v.tn, kyZ, wtZ, []⟩).does ⟨2, x.v.tn, x.v.now.k, wtZ, []⟩) { x.v with now := lsZ, wait := now + 1, back := 1 }).says ⟨now, x.v.tn, 2, e.code⟩, 0)
    else (R.m, 0)) := by unfold Mg.revent; rw [if_neg (by simp [hmay]), hoi]; simp only [at_getD hvi]
  by_cases hw0 : e.what ≠ 1 ∧ e.what ≠ 2 ∨ (e.what = 1 ∧ ¬ x.new.s.k = e.k)
  · have hev2 : R.m.revent now e = (R.m, 0) := by
      rw [hev]
      rcases hw0 with ⟨a, b⟩ | ⟨a, b⟩
      · rw [if_neg (fun h => a h.1), if_neg (fun h => b h.1), if_neg b]
      · rw [if_neg (fun h => b h.2), if_neg (fun h => b h.2), if_neg (by omega)]
    have fin : RgR A (R.m.revent now e) (.tuple #[.agg R.enc.toArray, .int .i64 0]) (A3.set (A.next + 2) (.row R.enc 32 false)) := by
      rw [hev2]; exact rgr_fin (m := (R.m, 0)) x03 (by omega) g23 h3 rfl
    rcases hw0 with ⟨a, b⟩ | ⟨a, b⟩
    · simp [vw_len, vw_z, ← hA3, gx, g13, el, ek', vw_newK, e0, a, b, g03, g23, rg_len, rg_take, rg_z]
      exact ⟨xo, ro, DN.of fin⟩
    · simp [vw_len, vw_z, ← hA3, gx, g13, el, ek', vw_newK, e0, a, b, g03, g23, rg_len, rg_take, rg_z]
      exact ⟨xo, ro, DN.of fin⟩
  by_cases hw1 : e.what = 1
  · have hk : x.new.s.k = e.k := Decidable.byContradiction fun hk => hw0 (Or.inr ⟨hw1, hk⟩)
    simp [vw_len, vw_z, ← hA3, gx, g13, el, ek', vw_newK, e0, hw1, hk, g03, rg_len, rg_take, vw_take]
    refine ⟨xo, ?_⟩
    refine CN.use (rups_ok h3 x xo3 now hf.xs (by have := hf.lns; omega) (by have := hf.acs; omega)) ?_
    rintro _ A4 hw4 hn4 ⟨x4, R4, rfl, hR4, hm4, lb4⟩
    have g24 := x4.get w3 g23
    simp [g24, rg_len, rg_z, rg_take]
    refine ⟨rg_one R4, DN.of ?_⟩
    rw [hev, if_pos ⟨hw1, hk⟩]; exact rgr_fin (m := (R.m.rups x.v now, 0)) (x03.trans (by omega) x4) (by omega) g24 hR4 hm4
  have hw2' : e.what = 2 := by
    by_cases h2 : e.what = 2
    · exact h2
    · exact absurd (Or.inl ⟨hw1, h2⟩) hw0
  have hn1 : ¬ (2 : Int) = 1 := by omega
  by_cases hk : x.new.s.k = e.k
  · simp [vw_len, vw_z, ← hA3, gx, g13, el, ek', vw_newK, e0, hw2', hk, g03, rg_len, rg_take, vw_take, vw_new]
    refine ⟨xo, ?_⟩
    refine CN.use (rstop_ok h3 x x.new (by have := hf.acs; omega)) ?_
    rintro _ A4 hw4 hn4 ⟨x4, R4, rfl, hR4, hm4, lb4⟩
    have g04 := x4.get w3 g03
    have gx4 := x4.get w3 gx
    have hobx : ∃ A5, A5 = (A4.set A.next (.row R4.enc 32 false)).set A2.next (.row (VwM.enc { x with new := lmZ }) 107 false) := ⟨_, rfl⟩
    obtain ⟨A5, hA5⟩ := hobx
    have hne : ¬ A2.next = A.next := by omega
    have hne' : ¬ A.next = A2.next := by omega
    have w5 : A5.wf := by rw [hA5]; exact AH.wf_set (AH.wf_set hw4 (by omega) _) (by simp; omega) _
    have n5 : A5.next = A4.next := by rw [hA5]; rfl
    have x05 : Ext A A5 := by rw [hA5]; exact ((x03.trans (by omega) x4).setnew (by omega) _).setnew (by omega) _
    have g05 : A5.get A.next = some (.row R4.enc 32 false) := by rw [hA5, AH.get_set, if_neg hne', AH.get_set, if_pos rfl]
    have gx5 : A5.get A2.next = some (.row (VwM.enc { x with new := lmZ }) 107 false) := by rw [hA5, AH.get_set, if_pos rfl]
    have g15 : A5.get (A.next + 1) = some (.row e.enc 40 false) := by rw [hA5, AH.get_set, if_neg (by omega), AH.get_set, if_neg (by omega)]; exact x4.get w3 g13
    have g25 : A5.get (A.next + 2) = some (.row [Value.int .i64 0, .int .i64 0, .slice none 0 0, .int .i64 0, .slice none 0 0, .slice none 0 0] 32 false) := by rw [hA5, AH.get_set, if_neg (by omega), AH.get_set, if_neg (by omega)]; exact x4.get w3 g23
    have hml := RgP.m_len hm4
    have hR5 : R4.ok A5 := by
      have hk1 := hR4.box g04 (by decide) (.row R4.enc 32 false)
      rw [hA5]
      exact hk1.vbox (c := A2.next) (by rw [AH.get_set, if_neg hne]; exact gx4) (lb4 _ (by omega) (h2.lbs hw2 (Nat.le_refl _))) _
    have xok : VwM.ok A5 { x with new := lmZ } := ⟨(h.lo x hxm).1.fr (FrT.ext hwf x05), lmZ_ok _⟩
    simp [g04, rg_len, rg_spl, gx4, hne, hne', vw_len, vset_newZ, ← hA5, g05, gx5, g15, el, e5, rg_take, vw_take]
    refine ⟨rg_one R4, ?_⟩
    have hfa := rfails_ok hR5 { x with new := lmZ } xok now e.code (by rw [hml.2.2.1]; have := hf.xs; simpa [RgM.m, Mg.does] using this) (by rw [hml.2.1]; have := hf.lns; simp [RgM.m, Mg.does]; omega) hmay' (by rw [hml.2.2.2.1]; exact hf.hd) hxf.1
    refine CN.use hfa ?_
    rintro _ A6 hw6 hn6 ⟨x6, R6, rfl, hR6, hm6, lb6⟩
    have g26 := x6.get w5 g25
    simp [g26, rg_len, rg_z, rg_take]
    refine ⟨rg_one R6, DN.of ?_⟩
    rw [hev, if_neg (fun h => hw1 h.1), if_pos ⟨hw2', hk⟩]
    exact rgr_fin (m := ((R.m.does ⟨2, x.v.tn, x.v.new.k, wtZ, []⟩).rfails { x.v with new := lsZ } now e.code, 0)) (x05.trans (by omega) x6) (by omega) g26 hR6 (by rw [hm6, hm4]; rfl)
  · have gx30 : spl (VwM.enc { x with now := lmZ }) 30 [.int .i64 (now + 1)] = VwM.enc { x with now := lmZ, wait := now + 1 } := rfl
    have gx31 : spl (VwM.enc { x with now := lmZ, wait := now + 1 }) 31 [.int .i64 1] = VwM.enc { x with now := lmZ, wait := now + 1, back := 1 } := rfl
    have hnw : IntKind.i64.wrap (now + 1) = now + 1 := i64_in (by omega) (by omega)
    simp [vw_len, vw_z, ← hA3, gx, g13, el, ek', vw_newK, e0, hw2', hk, g03, rg_len, rg_take, vw_take, vw_now]
    refine ⟨xo, ?_⟩
    refine CN.use (runmap_ok h3 x (by have := hf.acs; omega)) ?_
    rintro _ A4 hw4 hn4 ⟨x4, R4, rfl, hR4, hm4, lb4⟩
    have gx4 := x4.get w3 gx
    have hml4 := RgP.m_len hm4
    simp [gx4, vw_len, vw_take, vw_now]
    refine CN.use (rstop_ok hR4 x x.now (by rw [hml4.1]; have := hf.acs; simp [RgM.m, Mg.does]; omega)) ?_
    rintro _ A5 hw5 hn5 ⟨x5, R5, rfl, hR5, hm5, lb5⟩
    have x35 := x4.trans hn4 x5
    have g05 := x35.get w3 g03
    have gx5 := x35.get w3 gx
    have hne : ¬ A2.next = A.next := by omega
    have hne' : ¬ A.next = A2.next := by omega
    have hobx : ∃ v3 : VwM, v3 = { x with now := lmZ, wait := now + 1, back := 1 } := ⟨_, rfl⟩
    obtain ⟨v3, hv3⟩ := hobx
    have v3e0 : v3.enc[0]'(by rw [vw_len]; omega) = .int .i64 x.tn := by simp only [hv3]; rfl
    rw [← hv3] at gx31
    have v3l := vw_len v3
    have v3q : v3.enc[0]? = some (.int .i64 x.tn) := by rw [hv3]; rfl
    have hobx : ∃ A6, A6 = (A5.set A.next (.row R5.enc 32 false)).set A2.next (.row v3.enc 107 false) := ⟨_, rfl⟩
    obtain ⟨A6, hA6⟩ := hobx
    have w6 : A6.wf := by rw [hA6]; exact AH.wf_set (AH.wf_set hw5 (by omega) _) (by simp; omega) _
    have n6 : A6.next = A5.next := by rw [hA6]; rfl
    have x06 : Ext A A6 := by rw [hA6]; exact ((x03.trans (by omega) x35).setnew (by omega) _).setnew (by omega) _
    have g06 : A6.get A.next = some (.row R5.enc 32 false) := by rw [hA6, AH.get_set, if_neg hne', AH.get_set, if_pos rfl]
    have gx6 : A6.get A2.next = some (.row v3.enc 107 false) := by rw [hA6, AH.get_set, if_pos rfl]
    have g16 : A6.get (A.next + 1) = some (.row e.enc 40 false) := by rw [hA6, AH.get_set, if_neg (by omega), AH.get_set, if_neg (by omega)]; exact x35.get w3 g13
    have g26 : A6.get (A.next + 2) = some (.row [Value.int .i64 0, .int .i64 0, .slice none 0 0, .int .i64 0, .slice none 0 0, .slice none 0 0] 32 false) := by rw [hA6, AH.get_set, if_neg (by omega), AH.get_set, if_neg (by omega)]; exact x35.get w3 g23
    have hR6 : R5.ok A6 := by
      have hk1 := hR5.box g05 (by decide) (.row R5.enc 32 false)
      rw [hA6]
      exact hk1.vbox (c := A2.next) (by rw [AH.get_set, if_neg hne]; exact gx5) (lb5 _ (by omega) (lb4 _ (by omega) (h2.lbs hw2 (Nat.le_refl _)))) _
    have v3o : v3.ok A6 := by rw [hv3]; exact ⟨lmZ_ok _, (h.lo x hxm).2.fr (FrT.ext hwf x06)⟩
    have hm5' : R5.m = (R.m.does ⟨4, x.v.tn, kyZ, wtZ, []⟩).does ⟨2, x.v.tn, x.v.now.k, wtZ, []⟩ := by rw [hm5, hm4]; rfl
    have hml5 := RgP.m_len hm5'
    simp [g05, rg_len, rg_spl, gx5, hne, hne', vw_len, vset_nowZ, hnw, gx30, gx31, ← hA6, g06, gx6, g16, el, e5, v3l, v3q, v3e0, rg_take, vw_take]
    refine ⟨rg_one R5, ?_⟩
    refine CN.use (rput_ok hR6 v3 v3o (by rw [hml5.2.2.1]; have := hf.xs; simpa [RgM.m, Mg.does] using this)) ?_
    rintro _ A7 hw7 hn7 ⟨x7, R7, rfl, hR7, hm7, lb7⟩
    have gx7 := x7.get w6 gx6
    have g17 := x7.get w6 g16
    have g27 := x7.get w6 g26
    have hml7 := RgP.m_len hm7
    simp [gx7, g17, vw_len, el, e5, v3l, v3q, v3e0]
    refine CN.use (rline_ok hR7 now x.tn 2 e.code (by rw [hml7.2.1, hm5']; have := hf.lns; simp [RgM.m, Mg.does, putR]; omega)) ?_
    rintro _ A8 hw8 hn8 ⟨x8, R8, rfl, hR8, hm8, lb8⟩
    have g28 := x8.get hw7 g27
    simp [g28, rg_len, rg_z, rg_take]
    refine ⟨rg_one R8, DN.of ?_⟩
    rw [hev, if_neg (fun h => hk h.2), if_neg (fun h => hk h.2), if_pos hw2']
    exact rgr_fin (m := ((putR ((R.m.does ⟨4, x.v.tn, kyZ, wtZ, []⟩).does ⟨2, x.v.tn, x.v.now.k, wtZ, []⟩) { x.v with now := lsZ, wait := now + 1, back := 1 }).says ⟨now, x.v.tn, 2, e.code⟩, 0)) ((x06.trans (by omega) x7).trans (by omega) x8) (by omega) g28 hR8 (by rw [hm8, hm7, hm5', hv3]; rfl)
def hasT (m : Mg) (n : Int) : Bool := m.l.any fun v => decide (v.tn = n)
theorem hasT_yes {R : RgM} {i : Nat} {x : VwM} {n : Int} (h : R.xs[i]? = some x) (hn : x.tn = n) : hasT R.m n = true := List.any_eq_true.2 ⟨x.v, List.mem_map_of_mem (List.mem_of_getElem? h), decide_eq_true hn⟩
theorem hasT_no {R : RgM} {n : Int} (h : ∀ y ∈ R.xs, y.tn ≠ n) : hasT R.m n = false := by
  unfold hasT
  rw [List.any_eq_false]
  intro y hy
  have hobt := List.mem_map.1 hy
  obtain ⟨z, hz, rfl⟩ := hobt
  exact fun hc => h z hz (of_decide_eq_true hc)
theorem rfind2_ok {A : AH} {R : RgM} (h : R.ok A) (n : Int) (hl : R.xs.length ≤ 1000) : ACall Tryz.prog 67 [.agg R.enc.toArray, .int .i64 n] A fun r A' => Ext A A' ∧ ∃ (u : VwM) (b : Bool), r = .tuple #[.agg u.enc.toArray, .bool b] ∧ hasT R.m n = b ∧ (b = true → u.tn = n ∧ ∃ i : Nat, R.xs[i]? = some u) := by
  refine (rfindv_ok h n hl).mono fun r A' _ _ hr => ?_
  obtain ⟨hx, hr⟩ := hr
  rcases hr with ⟨i, x, h1, h2, -, h3⟩ | ⟨h1, h2⟩
  · exact ⟨hx, x, true, h3, hasT_yes h1 h2, fun _ => ⟨h2, i, h1⟩⟩
  · exact ⟨hx, vzM, false, h2, hasT_no h1, fun hb => by cases hb⟩
noncomputable def Mg.rcreate (m : Mg) (now n tail : Int) (w : Wt) (l : List Adv) : Mg × Int :=
  if mayB now = false ∨ n < 1 ∨ 65535 < n ∨ tail < 0 ∨ m.n ≤ tail ∨ tail = m.head ∨ rightB w = false then (m, 2)
  else if hasT m n = true then (m, 9)
  else if 16 ≤ m.l.length then (m, 7)
  else (if busyB m = true then putR m ⟨n, tail, w, lsZ, lsZ, now, 1⟩ else m.rtries ⟨n, tail, w, lsZ, lsZ, now, 1⟩ now l, 0)
set_option maxHeartbeats 8000000 in
theorem rcreate_ok {A : AH} {R : RgM} (h : R.ok A) (hf : R.fit) (now n tail : Int) (w : Wt) (hw : w.wf) {al : Option Addr} {cl : Nat} {l : List Adv} (hl : Sl A 132 15 al (l.map Adv.enc)) (hx : ∀ x ∈ l, x.wf) (hln : l.length ≤ 1000) : ACall Tryz.prog 28 [.agg R.enc.toArray, .int .i64 now, .int .i64 n, .int .i64 tail, .agg w.enc.toArray, .slice al l.length cl] A fun r A' => RgR A (R.m.rcreate now n tail w l) r A' := by
  have wl : w.enc.length = 6 := rfl
  have wt' : w.enc.take 6 = w.enc := rfl
  have hwe : w.enc = [Value.int .u64 w.bw, .int .i64 w.setup, .int .i64 w.hold, .int .u32 w.any, .int .u32 w.all, .int .u32 w.no] := rfl
  have r0 : R.enc[0]'(by rw [rg_len]; omega) = .int .i64 R.hd := rfl
  have r1 : R.enc[1]'(by rw [rg_len]; omega) = .int .i64 R.n := rfl
  have r2 : R.enc[2]'(by rw [rg_len]; omega) = .slice R.la R.xs.length R.lc := rfl
  have ro := rg_one R
  have rl := rg_len R
  refine ACall.wf fun hwf => ?_
  have hobx : ∃ A1, A1 = ((A.alloc (.row R.enc 32 false)).alloc (.row w.enc 36 false)).alloc (.row [Value.int .i64 0, .int .i64 0, .slice none 0 0, .int .i64 0, .slice none 0 0, .slice none 0 0] 32 false) := ⟨_, rfl⟩
  obtain ⟨A1, hA1⟩ := hobx
  have w1 : A1.wf := by rw [hA1]; exact AH.wf_alloc (AH.wf_alloc (AH.wf_alloc hwf _) _) _
  have n1 : A1.next = A.next + 3 := by rw [hA1]; rfl
  have x1 : Ext A A1 := by rw [hA1]; exact ((Ext.alloc A _).app (by simp) _).app (by simp; omega) _
  have g0 : A1.get A.next = some (.row R.enc 32 false) := by rw [hA1]; simp [AH.get_alloc]
  have g1 : A1.get (A.next + 1) = some (.row w.enc 36 false) := by rw [hA1]; simp [AH.get_alloc]
  have g2 : A1.get (A.next + 2) = some (.row [Value.int .i64 0, .int .i64 0, .slice none 0 0, .int .i64 0, .slice none 0 0, .slice none 0 0] 32 false) := by rw [hA1]; simp [AH.get_alloc]
  have h1 := h.ext hwf x1
  refine code28.call (by simp) fun hwf => ?_
  unfold c28
  simp [rl, rg_len, wl, ← hA1, g0, rg_take]
  refine CN.use (rfind2_ok h1 n hf.xs) ?_
  rintro _ A2 hw2 hn2 ⟨x2, u, b, rfl, hbT, -⟩
  have uo := vw_one u
  have hobx : ∃ A3, A3 = A2.alloc (.row u.enc 107 false) := ⟨_, rfl⟩
  obtain ⟨A3, hA3⟩ := hobx
  have w3 : A3.wf := by rw [hA3]; exact AH.wf_alloc hw2 _
  have n3 : A3.next = A2.next + 1 := by rw [hA3]; rfl
  have x13 : Ext A1 A3 := by rw [hA3]; exact x2.trans (by omega) (Ext.alloc A2 _)
  have g03 := x13.get w1 g0
  have g13 := x13.get w1 g1
  have g23 := x13.get w1 g2
  have h3 := h1.ext w1 x13
  have x03 := x1.trans (by omega) x13
  have err : ∀ {c : Int} {A4 : AH}, Ext A3 A4 → R.m.rcreate now n tail w l = (R.m, c) → RgR A (R.m.rcreate now n tail w l) (.tuple #[.agg R.enc.toArray, .int .i64 c]) (A4.set (A.next + 2) (.row R.enc 32 false)) := fun x e => by
    rw [e]; exact rgr_fin (m := (R.m, _)) (x03.trans (by omega) x) (by omega) (x.get w3 g23) (h3.ext w3 x) rfl
  have c2 : (mayB now = false ∨ n < 1 ∨ 65535 < n ∨ tail < 0 ∨ R.m.n ≤ tail ∨ tail = R.m.head ∨ rightB w = false) → R.m.rcreate now n tail w l = (R.m, 2) := fun h => by unfold Mg.rcreate; rw [if_pos h]
  simp [vw_len, vw_z, ← hA3]
  refine ⟨uo, ?_⟩
  refine CN.use (tickable_ok now A3) ?_
  rintro _ A3' - - ⟨rfl, rfl⟩
  by_cases e1 : mayB now = true
  rotate_left
  · simp [e1, g03, g23, rl, rg_len, rg_take, rg_z]
    exact ⟨ro, DN.of (err (Ext.refl _) (c2 (Or.inl (by simpa using e1))))⟩
  by_cases e2 : n < 1
  · simp [e1, e2, g03, g23, rl, rg_len, rg_take, rg_z]
    exact ⟨ro, DN.of (err (Ext.refl _) (c2 (by simp [e2])))⟩
  by_cases e3 : 65535 < n
  · simp [e1, e2, e3, g03, g23, rl, rg_len, rg_take, rg_z]
    exact ⟨ro, DN.of (err (Ext.refl _) (c2 (by simp [e3])))⟩
  by_cases e4 : tail < 0
  · simp [e1, e2, e3, e4, g03, g23, rl, rg_len, rg_take, rg_z]
    exact ⟨ro, DN.of (err (Ext.refl _) (c2 (by simp [e4])))⟩
  by_cases e5 : R.n ≤ tail
  · simp [e1, e2, e3, e4, e5, r1, g03, g23, rl, rg_len, rg_take, rg_z]
    exact ⟨ro, DN.of (err (Ext.refl _) (c2 (by simp [RgM.m, e5])))⟩
  by_cases e6 : tail = R.hd
  · have e5' : ¬ R.n ≤ R.hd := by omega
    have e4' : ¬ R.hd < 0 := by omega
    subst e6
    simp [e1, e2, e3, e4', e5', r1, r0, g03, g23, rl, rg_len, rg_take, rg_z]
    exact ⟨ro, DN.of (err (Ext.refl _) (c2 (by simp [RgM.m])))⟩
  simp [e1, e2, e3, e4, e5, e6, r1, r0, g03, g13, rl, rg_len, wl, wt']
  refine CN.use (rright_ok w A3') ?_
  rintro _ A4 hw4 hn4 ⟨rfl, x4⟩
  have g04 := x4.get w3 g03
  have g14 := x4.get w3 g13
  have g24 := x4.get w3 g23
  by_cases e7 : rightB w = true
  rotate_left
  · simp [e7, g04, g24, rl, rg_len, rg_take, rg_z]
    exact ⟨ro, DN.of (err x4 (c2 (by simp [e7])))⟩
  have ne : ¬ (mayB now = false ∨ n < 1 ∨ 65535 < n ∨ tail < 0 ∨ R.m.n ≤ tail ∨ tail = R.m.head ∨ rightB w = false) := by simp [e1, e2, e3, e4, e7, RgM.m, e5, e6]
  by_cases e8 : b = true
  · simp [e7, e8, g04, g24, rl, rg_len, rg_take, rg_z]
    exact ⟨ro, DN.of (err x4 (by unfold Mg.rcreate; rw [if_neg ne, if_pos (by rw [hbT]; exact e8)]))⟩
  have hml : R.m.l.length = R.xs.length := by simp [RgM.m]
  by_cases e9 : 16 ≤ R.xs.length
  · have e9' : (16 : Int) ≤ R.xs.length := by omega
    simp [e7, e8, r2, e9', g04, g24, rl, rg_len, rg_take, rg_z]
    exact ⟨ro, DN.of (err x4 (by unfold Mg.rcreate; rw [if_neg ne, if_neg (by rw [hbT]; exact e8), if_pos (by omega)]))⟩
  have e9' : ¬ (16 : Int) ≤ R.xs.length := by omega
  have hobx : ∃ y : VwM, y = ⟨n, tail, w, lmZ, lmZ, now, 1⟩ := ⟨_, rfl⟩
  obtain ⟨y, hy⟩ := hobx
  have hrow : [Value.int .i64 n, Value.int .i64 tail, Value.int .u64 w.bw, Value.int .i64 w.setup, Value.int .i64 w.hold, Value.int .u32 w.any, Value.int .u32 w.all, Value.int .u32 w.no, Value.int .i64 0, .int .i64 0, .int .i64 0, .int .i64 0, .int .u64 0, .int .i64 0, .int .i64 0, .int .u32 0, .int .u32 0, .int .u32 0, .slice none 0 0, Value.int .i64 0, .int .i64 0, .int .i64 0, .int .i64 0, .int .u64 0, .int .i64 0, .int .i64 0, .int .u32 0, .int .u32 0, .int .u32 0, .slice none 0 0, Value.int .i64 now, Value.int .i64 1] = y.enc := by rw [hy]; rfl
  have hobx : ∃ A5, A5 = A4.alloc (.row y.enc 107 false) := ⟨_, rfl⟩
  obtain ⟨A5, hA5⟩ := hobx
  have w5 : A5.wf := by rw [hA5]; exact AH.wf_alloc hw4 _
  have n5 : A5.next = A4.next + 1 := by rw [hA5]; rfl
  have x5 : Ext A4 A5 := by rw [hA5]; exact Ext.alloc A4 _
  have gy5 : A5.get A4.next = some (.row y.enc 107 false) := by rw [hA5, AH.get_new]
  have x35 := x4.trans hn4 x5
  have g05 := x35.get w3 g03
  have g25 := x35.get w3 g23
  have h5 := h3.ext w3 x35
  have yo : y.ok A5 := by rw [hy]; exact ⟨lmZ_ok _, lmZ_ok _⟩
  have hyv : y.v = ⟨n, tail, w, lsZ, lsZ, now, 1⟩ := by rw [hy]; rfl
  have hcr : R.m.rcreate now n tail w l = (if busyB R.m = true then putR R.m y.v else R.m.rtries y.v now l, 0) := by
    unfold Mg.rcreate; rw [if_neg ne, if_neg (by rw [hbT]; exact e8), if_neg (by omega), hyv]
  have yl := vw_len y
  have yz := vw_z y
  have yw := vw_one y
  have yt := vw_take y
  simp [e7, e8, r2, e9', g04, g14, rl, rg_len, hwe, hrow, yl, yz, ← hA5, g05, rg_take]
  refine ⟨yw, ?_⟩
  refine CN.use (rbusy_ok h5 hf.xs) ?_
  rintro _ A6 hw6 hn6 ⟨x6, rfl⟩
  have g06 := x6.get w5 g05
  have g26 := x6.get w5 g25
  have gy6 := x6.get w5 gy5
  have h6 := h5.ext w5 x6
  have yo6 := VwM.ok.fr yo (FrT.ext w5 x6)
  have x06 := (x03.trans (by omega) x35).trans (by omega) x6
  by_cases hb : busyB R.m = true
  · simp [hb, g06, gy6, rl, rg_take, yl, yt]
    refine CN.use (rput_ok h6 y yo6 hf.xs) ?_
    rintro _ A7 hw7 hn7 ⟨x7, R7, rfl, hR7, hm7, lb7⟩
    have g27 := x7.get hw6 g26
    simp [g27, rg_len, rg_z, rg_take]
    refine ⟨rg_one R7, DN.of ?_⟩
    rw [hcr, if_pos hb]
    exact rgr_fin (m := (putR R.m y.v, 0)) (x06.trans (by omega) x7) (by omega) g27 hR7 hm7
  · simp [hb, g06, gy6, rl, rg_take, yl, yt]
    have hmn : 0 ≤ now ∧ now ≤ 1099511627766 := by simpa [mayB] using e1
    have hyw : y.v.wf := by rw [hyv]; exact ⟨by show (0:Int) ≤ 1 ∧ (1 : Int) ≤ 8; omega, hw, wtZ_wf, wtZ_wf⟩
    have haw : (askV y.v).wf := ask_wf hyw (by rw [hyv]; simp [lsZ])
    refine CN.use (rtries_ok (cl := cl) h6 y yo6 now hf.xs (by have := hf.lns; omega) (by have := hf.acs; omega) hmn hf.hd (by rw [hy]; show (0:Int) ≤ 1 ∧ (1 : Int) ≤ 8; omega) hf.cnt haw (hl.ext hwf x06) hx hln) ?_
    rintro _ A7 hw7 hn7 ⟨x7, R7, rfl, hR7, hm7, lb7⟩
    have g27 := x7.get hw6 g26
    simp [g27, rg_len, rg_z, rg_take]
    refine ⟨rg_one R7, DN.of ?_⟩
    rw [hcr, if_neg hb]
    exact rgr_fin (m := (R.m.rtries y.v now l, 0)) (x06.trans (by omega) x7) (by omega) g27 hR7 hm7
noncomputable def Mg.rmodV (m : Mg) (v : Vw) (now : Int) (w : Wt) (l : List Adv) : Mg :=
  let v1 : Vw := { v with w := w, new := lsZ, wait := now, back := 1 }
  let m2 := putR (if v.new.k.lsp = 0 then m else m.does ⟨2, v.tn, v.new.k, wtZ, []⟩) v1
  if lacksB v1 = true ∧ busyB m2 = false then m2.rtries v1 now l else m2
def RMod (R : RgM) (now n : Int) (w : Wt) (l : List Adv) (M : Mg × Int) : Prop :=
  ((mayB now = false ∨ rightB w = false) ∧ M = (R.m, 2)) ∨ ((¬ (mayB now = false ∨ rightB w = false)) ∧ ((hasT R.m n = false ∧ M = (R.m, 8)) ∨ (hasT R.m n = true ∧ ∃ x ∈ R.xs, x.tn = n ∧ M = (R.m.rmodV x.v now w l, 0))))
set_option maxHeartbeats 8000000 in
theorem rmodify_ok {A : AH} {R : RgM} (h : R.ok A) (hf : R.fit) (now n : Int) (w : Wt) (hw : w.wf) {al : Option Addr} {cl : Nat} {l : List Adv} (hl : Sl A 132 15 al (l.map Adv.enc)) (hx : ∀ x ∈ l, x.wf) (hln : l.length ≤ 1000) : ACall Tryz.prog 29 [.agg R.enc.toArray, .int .i64 now, .int .i64 n, .agg w.enc.toArray, .slice al l.length cl] A fun r A' => ∃ M, RgR A M r A' ∧ RMod R now n w l M := by
  have wl : w.enc.length = 6 := rfl
  have wt' : w.enc.take 6 = w.enc := rfl
  have wo : ∀ v ∈ w.enc, oneB v = true := List.all_eq_true.1 (rfl : w.enc.all oneB = true)
  have ro := rg_one R
  have rl := rg_len R
  refine ACall.wf fun hwf => ?_
  have hobx : ∃ A1, A1 = ((A.alloc (.row R.enc 32 false)).alloc (.row w.enc 36 false)).alloc (.row [Value.int .i64 0, .int .i64 0, .slice none 0 0, .int .i64 0, .slice none 0 0, .slice none 0 0] 32 false) := ⟨_, rfl⟩
  obtain ⟨A1, hA1⟩ := hobx
  have w1 : A1.wf := by rw [hA1]; exact AH.wf_alloc (AH.wf_alloc (AH.wf_alloc hwf _) _) _
  have n1 : A1.next = A.next + 3 := by rw [hA1]; rfl
  have x1 : Ext A A1 := by rw [hA1]; exact ((Ext.alloc A _).app (by simp) _).app (by simp; omega) _
  have g0 : A1.get A.next = some (.row R.enc 32 false) := by rw [hA1]; simp [AH.get_alloc]
  have g1 : A1.get (A.next + 1) = some (.row w.enc 36 false) := by rw [hA1]; simp [AH.get_alloc]
  have g2 : A1.get (A.next + 2) = some (.row [Value.int .i64 0, .int .i64 0, .slice none 0 0, .int .i64 0, .slice none 0 0, .slice none 0 0] 32 false) := by rw [hA1]; simp [AH.get_alloc]
  have h1 := h.ext hwf x1
  refine code29.call (by simp) fun hwf => ?_
  unfold c29
  simp [rl, rg_len, wl, ← hA1, g0, rg_take]
  refine CN.use (rfind2_ok h1 n hf.xs) ?_
  rintro _ A2 hw2 hn2 ⟨x2, u, b, rfl, hbT, hbi⟩
  have uo := vw_one u
  have ul := vw_len u
  have ut := vw_take u
  have hobx : ∃ A3, A3 = A2.alloc (.row u.enc 107 false) := ⟨_, rfl⟩
  obtain ⟨A3, hA3⟩ := hobx
  have w3 : A3.wf := by rw [hA3]; exact AH.wf_alloc hw2 _
  have n3 : A3.next = A2.next + 1 := by rw [hA3]; rfl
  have x13 : Ext A1 A3 := by rw [hA3]; exact x2.trans (by omega) (Ext.alloc A2 _)
  have gu3 : A3.get A2.next = some (.row u.enc 107 false) := by rw [hA3, AH.get_new]
  have g03 := x13.get w1 g0
  have g13 := x13.get w1 g1
  have g23 := x13.get w1 g2
  have h3 := h1.ext w1 x13
  have x03 := x1.trans (by omega) x13
  have err : ∀ {c : Int} {A4 : AH}, Ext A3 A4 → RMod R now n w l (R.m, c) → ∃ M, RgR A M (.tuple #[.agg R.enc.toArray, .int .i64 c]) (A4.set (A.next + 2) (.row R.enc 32 false)) ∧ RMod R now n w l M := fun x e => ⟨_, rgr_fin (m := (R.m, _)) (x03.trans (by omega) x) (by omega) (x.get w3 g23) (h3.ext w3 x) rfl, e⟩
  simp [ul, vw_z, ← hA3]
  refine ⟨uo, ?_⟩
  refine CN.use (tickable_ok now A3) ?_
  rintro _ A3' - - ⟨rfl, rfl⟩
  by_cases e1 : mayB now = true
  rotate_left
  · simp [e1, g03, g23, rl, rg_take, rg_z]
    exact ⟨ro, DN.of (err (Ext.refl _) (Or.inl ⟨Or.inl (by simpa using e1), rfl⟩))⟩
  simp [e1, g03, g13, rl, wl, wt']
  refine CN.use (rright_ok w A3') ?_
  rintro _ A4 hw4 hn4 ⟨rfl, x4⟩
  have g04 := x4.get w3 g03
  have g14 := x4.get w3 g13
  have g24 := x4.get w3 g23
  have gu4 := x4.get w3 gu3
  by_cases e7 : rightB w = true
  rotate_left
  · simp [e7, g04, g24, rl, rg_take, rg_z]
    exact ⟨ro, DN.of (err x4 (Or.inl ⟨Or.inr (by simpa using e7), rfl⟩))⟩
  have ne : ¬ (mayB now = false ∨ rightB w = false) := by simp [e1, e7]
  by_cases e8 : b = true
  rotate_left
  · simp [e7, e8, g04, g24, rl, rg_take, rg_z]
    exact ⟨ro, DN.of (err x4 (Or.inr ⟨ne, Or.inl ⟨by rw [hbT]; simpa using e8, rfl⟩⟩))⟩
  have hobt := hbi e8
  obtain ⟨htn, i, hui⟩ := hobt
  have hum := List.mem_of_getElem? hui
  have huf := hf.vs u hum
  have hne : ¬ A2.next = A.next := by omega
  have hne' : ¬ A.next = A2.next := by omega
  have e22 : (VwM.enc { u with w := w })[22]'(by rw [vw_len]; omega) = .int .i64 u.new.s.k.lsp := rfl
  have enw : ((VwM.enc { u with w := w }).drop 19).take 11 = u.new.enc := rfl
  have hobx : ∃ u1 : VwM, u1 = { u with w := w } := ⟨_, rfl⟩
  obtain ⟨u1, hu1⟩ := hobx
  have u1l := vw_len u1
  have u1t := vw_take u1
  have s1 : spl u.enc 2 w.enc = u1.enc := by rw [hu1]; rfl
  have u122 : u1.enc[22]'(by rw [vw_len]; omega) = .int .i64 u.new.s.k.lsp := by simp only [hu1]; rfl
  have u1n : (u1.enc.drop 19).take 11 = u.new.enc := by rw [hu1]; rfl
  have hobx : ∃ v : VwM, v = { u with w := w, new := lmZ, wait := now, back := 1 } := ⟨_, rfl⟩
  obtain ⟨v, hv⟩ := hobx
  have s2 : spl u1.enc 19 [Value.int .i64 0, .int .i64 0, .int .i64 0, .int .i64 0, .int .u64 0, .int .i64 0, .int .i64 0, .int .u32 0, .int .u32 0, .int .u32 0, .slice none 0 0] = VwM.enc { u with w := w, new := lmZ } := by rw [hu1]; rfl
  have s3 : spl (VwM.enc { u with w := w, new := lmZ }) 30 [.int .i64 now] = VwM.enc { u with w := w, new := lmZ, wait := now } := rfl
  have s4 : spl (VwM.enc { u with w := w, new := lmZ, wait := now }) 31 [.int .i64 1] = v.enc := by rw [hv]; rfl
  have vl := vw_len v
  have vt := vw_take v
  have vlc := vw_len { u with w := w, new := lmZ }
  have vld := vw_len { u with w := w, new := lmZ, wait := now }
  have hvv : v.v = { u.v with w := w, new := lsZ, wait := now, back := 1 } := by rw [hv]; rfl
  have h4 := h3.ext w3 x4
  have x04 := x03.trans (by omega) x4
  by_cases hz : u.new.s.k.lsp = 0
  · obtain ⟨A5, hA5⟩ : ∃ A5, A5 = A4.set A2.next (.row v.enc 107 false) := ⟨_, rfl⟩
    have w5 : A5.wf := by rw [hA5]; exact AH.wf_set hw4 (by omega) _
    have n5 : A5.next = A4.next := by rw [hA5]; rfl
    have x05 : Ext A A5 := by rw [hA5]; exact x04.setnew (by omega) _
    have g05 : A5.get A.next = some (.row R.enc 32 false) := by rw [hA5, AH.get_set, if_neg hne']; exact g04
    have gv5 : A5.get A2.next = some (.row v.enc 107 false) := by rw [hA5, AH.get_set, if_pos rfl]
    have g25 : A5.get (A.next + 2) = some (.row [Value.int .i64 0, .int .i64 0, .slice none 0 0, .int .i64 0, .slice none 0 0, .slice none 0 0] 32 false) := by rw [hA5, AH.get_set, if_neg (by omega)]; exact g24
    have hR5 : R.ok A5 := by rw [hA5]; exact h4.vbox gu4 (h1.lbs w1 (by omega)) _
    have hx5 : R.xs.length ≤ 400 := hf.xs2
    have ha5 : R.acs.length ≤ 90000 := by have := hf.acs; omega
    have hl5 : R.lns.length ≤ 100000 := by have := hf.lns; omega
    have hd5 : 0 ≤ R.hd ∧ R.hd < 16 := hf.hd
    have hc5 : 0 ≤ R.cnt ∧ R.cnt ≤ 65535 := hf.cnt
    have hM5 : R.m.rmodV u.v now w l = if lacksB v.v = true ∧ busyB (putR R.m v.v) = false then (putR R.m v.v).rtries v.v now l else putR R.m v.v := by
      unfold Mg.rmodV; rw [hvv, show (if u.v.new.k.lsp = 0 then R.m else R.m.does ⟨2, u.v.tn, u.v.new.k, wtZ, []⟩) = R.m from if_pos hz]
    simp [e7, e8, gu4, g14, wl, wt', ul, hne, hne', s1, u1l, u122, hz, s2, vlc, s3, vld, s4, ← hA5, g05, gv5, rl, rg_take, vl, vt]
    refine ⟨wo, ?_⟩
    have vok : v.ok A5 := by rw [hv]; exact ⟨(h.lo u hum).1.fr (FrT.ext hwf x05), lmZ_ok _⟩
    refine CN.use (rput_ok hR5 v vok (by omega)) ?_
    rintro _ A6 hw6 hn6 ⟨x6, R6, rfl, hR6, hm6, lb6⟩
    have g06 := x6.get w5 g05
    have gv6 := x6.get w5 gv5
    have g26 := x6.get w5 g25
    have ro6 := rg_one R6
    have rl6 := rg_len R6
    have hml6 := RgP.m_len hm6
    have hobx : ∃ A7, A7 = A6.set A.next (.row R6.enc 32 false) := ⟨_, rfl⟩
    obtain ⟨A7, hA7⟩ := hobx
    have w7 : A7.wf := by rw [hA7]; exact AH.wf_set hw6 (by omega) _
    have n7 : A7.next = A6.next := by rw [hA7]; rfl
    have x07 : Ext A A7 := by rw [hA7]; exact (x05.trans (by omega) x6).setnew (by omega) _
    have g07 : A7.get A.next = some (.row R6.enc 32 false) := by rw [hA7, AH.get_set, if_pos rfl]
    have gv7 : A7.get A2.next = some (.row v.enc 107 false) := by rw [hA7, AH.get_set, if_neg hne]; exact gv6
    have g27 : A7.get (A.next + 2) = some (.row [Value.int .i64 0, .int .i64 0, .slice none 0 0, .int .i64 0, .slice none 0 0, .slice none 0 0] 32 false) := by rw [hA7, AH.get_set, if_neg (by omega)]; exact g26
    have hR7 : R6.ok A7 := by rw [hA7]; exact hR6.box g06 (by decide) _
    simp [g06, rl6, rl, rg_spl, ← hA7, gv7, vl, vt]
    refine ⟨ro6, ?_⟩
    refine CN.use (rlacks_ok v A7) ?_
    rintro _ A8 hw8 hn8 ⟨x8, rfl⟩
    have g08 := x8.get w7 g07
    have gv8 := x8.get w7 gv7
    have g28 := x8.get w7 g27
    have hR8 := hR7.ext w7 x8
    have x08 := x07.trans (by omega) x8
    have hM : R.m.rmodV u.v now w l = if lacksB v.v = true ∧ busyB R6.m = false then R6.m.rtries v.v now l else R6.m := by rw [hm6]; exact hM5
    by_cases k1 : lacksB v.v = true
    rotate_left
    · simp [k1, g08, g28, rl6, rg_take, rg_z]
      exact ⟨ro6, DN.of ⟨_, rgr_fin (m := (R6.m, 0)) x08 (by omega) g28 hR8 rfl, Or.inr ⟨ne, Or.inr ⟨by rw [hbT]; exact e8, u, hum, htn, by rw [hM, if_neg (fun h => k1 h.1)]⟩⟩⟩⟩
    simp [k1, g08, rl6, rg_take]
    have hx6 : R6.xs.length ≤ 1000 := by
      rw [hml6.2.2.1]
      have := putM_len v R.xs false
      have e : (putR R.m v.v).l.length = (putM v R.xs false).length := by rw [show (putR R.m v.v).l = putW v.v (R.xs.map VwM.v) false from rfl, ← putM_v, List.length_map]
      omega
    refine CN.use (rbusy_ok hR8 hx6) ?_
    rintro _ A9 hw9 hn9 ⟨x9, rfl⟩
    have g09 := x9.get hw8 g08
    have gv9 := x9.get hw8 gv8
    have g29 := x9.get hw8 g28
    have hR9 := hR8.ext hw8 x9
    have x09 := x08.trans (by omega) x9
    by_cases k2 : busyB R6.m = true
    · simp [k1, k2, g09, g29, rl6, rg_take, rg_z]
      exact ⟨ro6, DN.of ⟨_, rgr_fin (m := (R6.m, 0)) x09 (by omega) g29 hR9 rfl, Or.inr ⟨ne, Or.inr ⟨by rw [hbT]; exact e8, u, hum, htn, by rw [hM, if_neg (fun h => by rw [k2] at h; cases h.2)]⟩⟩⟩⟩
    simp [k1, k2, g09, gv9, rl6, rg_take, vl, vt]
    have hmn : 0 ≤ now ∧ now ≤ 1099511627766 := by simpa [mayB] using e1
    have vok9 : v.ok A9 := by rw [hv]; exact ⟨(h.lo u hum).1.fr (FrT.ext hwf x09), lmZ_ok _⟩
    have hvw : v.v.wf := by rw [hvv]; exact ⟨by show (0:Int) ≤ 1 ∧ (1 : Int) ≤ 8; omega, hw, huf.2.2.2.1, wtZ_wf⟩
    have haw : (askV v.v).wf := ask_wf hvw (by rw [hvv]; exact (h.lo u hum).1.2.2)
    refine CN.use (rtries_ok (cl := cl) hR9 v vok9 now hx6 (by have e : R6.lns.length = R.lns.length := hml6.2.1; omega) (by have e : R6.acs.length = R.acs.length := by { rw [hml6.1]; exact (RgP.m_len (R' := R) rfl).1.symm }; omega) hmn (by have e : R6.hd = R.hd := hml6.2.2.2.1; rw [e]; exact hd5) (by rw [hv]; show (0:Int) ≤ 1 ∧ (1 : Int) ≤ 8; omega) (by have e : R6.cnt = R.cnt := hml6.2.2.2.2.2; rw [e]; exact hc5) haw (hl.ext hwf x09) hx hln) ?_
    rintro _ A10 hw10 hn10 ⟨x10, R10, rfl, hR10, hm10, lb10⟩
    have g210 := x10.get hw9 g29
    simp [g210, rg_len, rg_z, rg_take]
    exact ⟨rg_one R10, DN.of ⟨_, rgr_fin (m := (R6.m.rtries v.v now l, 0)) (x09.trans (by omega) x10) (by omega) g210 hR10 hm10, Or.inr ⟨ne, Or.inr ⟨by rw [hbT]; exact e8, u, hum, htn, by rw [hM, if_pos ⟨k1, by simpa using k2⟩]⟩⟩⟩⟩
  · obtain ⟨A41, hA41⟩ : ∃ A41, A41 = A4.set A2.next (.row u1.enc 107 false) := ⟨_, rfl⟩
    have w41 : A41.wf := by rw [hA41]; exact AH.wf_set hw4 (by omega) _
    have n41 : A41.next = A4.next := by rw [hA41]; rfl
    have x041 : Ext A A41 := by rw [hA41]; exact x04.setnew (by omega) _
    have g041 : A41.get A.next = some (.row R.enc 32 false) := by rw [hA41, AH.get_set, if_neg hne']; exact g04
    have gv41 : A41.get A2.next = some (.row u1.enc 107 false) := by rw [hA41, AH.get_set, if_pos rfl]
    have g241 : A41.get (A.next + 2) = some (.row [Value.int .i64 0, .int .i64 0, .slice none 0 0, .int .i64 0, .slice none 0 0, .slice none 0 0] 32 false) := by rw [hA41, AH.get_set, if_neg (by omega)]; exact g24
    have hR41 : R.ok A41 := by rw [hA41]; exact h4.vbox gu4 (h1.lbs w1 (by omega)) _
    simp [e7, e8, gu4, g14, wl, wt', ul, hne, hne', s1, u1l, u1t, u122, u1n, hz, ← hA41, g041, gv41, rl, rg_take]
    refine ⟨wo, ?_⟩
    refine CN.use (rstop_ok hR41 u1 u.new (by have := hf.acs; omega)) ?_
    rintro _ A42 hw42 hn42 ⟨x42, R5, rfl, hR42, hm42, lb42⟩
    have hm5 : R5.m = R.m.does ⟨2, u.v.tn, u.v.new.k, wtZ, []⟩ := by rw [hm42, hu1]; rfl
    have hml5 := RgP.m_len hm5
    have rl5 := rg_len R5
    have g042 := x42.get w41 g041
    have gv42 := x42.get w41 gv41
    have hobx : ∃ A5, A5 = (A42.set A.next (.row R5.enc 32 false)).set A2.next (.row v.enc 107 false) := ⟨_, rfl⟩
    obtain ⟨A5, hA5⟩ := hobx
    have w5 : A5.wf := by rw [hA5]; exact AH.wf_set (AH.wf_set hw42 (by omega) _) (by simp; omega) _
    have n5 : A5.next = A42.next := by rw [hA5]; rfl
    have x05 : Ext A A5 := by rw [hA5]; exact ((x041.trans (by omega) x42).setnew (by omega) _).setnew (by omega) _
    have g05 : A5.get A.next = some (.row R5.enc 32 false) := by rw [hA5, AH.get_set, if_neg hne', AH.get_set, if_pos rfl]
    have gv5 : A5.get A2.next = some (.row v.enc 107 false) := by rw [hA5, AH.get_set, if_pos rfl]
    have g25 : A5.get (A.next + 2) = some (.row [Value.int .i64 0, .int .i64 0, .slice none 0 0, .int .i64 0, .slice none 0 0, .slice none 0 0] 32 false) := by rw [hA5, AH.get_set, if_neg (by omega), AH.get_set, if_neg (by omega)]; exact x42.get w41 g241
    have hR5 : R5.ok A5 := by
      rw [hA5]
      exact (hR42.box g042 (by decide) _).vbox (by rw [AH.get_set, if_neg hne]; exact gv42) (lb42 _ (by omega) (h1.lbs w1 (by omega))) _
    have hx5 : R5.xs.length ≤ 400 := by rw [hml5.2.2.1]; have := hf.xs2; simpa [RgM.m, Mg.does] using this
    have ha5 : R5.acs.length ≤ 90000 := by rw [hml5.1]; have := hf.acs; simp [RgM.m, Mg.does]; omega
    have hl5 : R5.lns.length ≤ 100000 := by rw [hml5.2.1]; have := hf.lns; simp [RgM.m, Mg.does]; omega
    have hd5 : 0 ≤ R5.hd ∧ R5.hd < 16 := by rw [hml5.2.2.2.1]; exact hf.hd
    have hc5 : 0 ≤ R5.cnt ∧ R5.cnt ≤ 65535 := by rw [hml5.2.2.2.2.2]; exact hf.cnt
    have hM5 : R.m.rmodV u.v now w l = if lacksB v.v = true ∧ busyB (putR R5.m v.v) = false then (putR R5.m v.v).rtries v.v now l else putR R5.m v.v := by
      unfold Mg.rmodV; rw [hvv, show (if u.v.new.k.lsp = 0 then R.m else R.m.does ⟨2, u.v.tn, u.v.new.k, wtZ, []⟩) = R5.m by rw [hm5]; exact if_neg hz]
    simp [g042, gv42, rl, rl5, rg_spl, hne, hne', u1l, s2, vlc, s3, vld, s4, ← hA5, g05, gv5, rg_take, vl, vt]
    refine ⟨rg_one R5, ?_⟩
    have vok : v.ok A5 := by rw [hv]; exact ⟨(h.lo u hum).1.fr (FrT.ext hwf x05), lmZ_ok _⟩
    refine CN.use (rput_ok hR5 v vok (by omega)) ?_
    rintro _ A6 hw6 hn6 ⟨x6, R6, rfl, hR6, hm6, lb6⟩
    have g06 := x6.get w5 g05
    have gv6 := x6.get w5 gv5
    have g26 := x6.get w5 g25
    have ro6 := rg_one R6
    have rl6 := rg_len R6
    have hml6 := RgP.m_len hm6
    have hobx : ∃ A7, A7 = A6.set A.next (.row R6.enc 32 false) := ⟨_, rfl⟩
    obtain ⟨A7, hA7⟩ := hobx
    have w7 : A7.wf := by rw [hA7]; exact AH.wf_set hw6 (by omega) _
    have n7 : A7.next = A6.next := by rw [hA7]; rfl
    have x07 : Ext A A7 := by rw [hA7]; exact (x05.trans (by omega) x6).setnew (by omega) _
    have g07 : A7.get A.next = some (.row R6.enc 32 false) := by rw [hA7, AH.get_set, if_pos rfl]
    have gv7 : A7.get A2.next = some (.row v.enc 107 false) := by rw [hA7, AH.get_set, if_neg hne]; exact gv6
    have g27 : A7.get (A.next + 2) = some (.row [Value.int .i64 0, .int .i64 0, .slice none 0 0, .int .i64 0, .slice none 0 0, .slice none 0 0] 32 false) := by rw [hA7, AH.get_set, if_neg (by omega)]; exact g26
    have hR7 : R6.ok A7 := by rw [hA7]; exact hR6.box g06 (by decide) _
    simp [g06, rl6, rl, rg_spl, ← hA7, gv7, vl, vt]
    refine ⟨⟨by omega, ro6⟩, ?_⟩
    refine CN.use (rlacks_ok v A7) ?_
    rintro _ A8 hw8 hn8 ⟨x8, rfl⟩
    have g08 := x8.get w7 g07
    have gv8 := x8.get w7 gv7
    have g28 := x8.get w7 g27
    have hR8 := hR7.ext w7 x8
    have x08 := x07.trans (by omega) x8
    have hM : R.m.rmodV u.v now w l = if lacksB v.v = true ∧ busyB R6.m = false then R6.m.rtries v.v now l else R6.m := by rw [hm6]; exact hM5
    by_cases k1 : lacksB v.v = true
    rotate_left
    · simp [k1, g08, g28, rl6, rg_take, rg_z]
      exact ⟨ro6, DN.of ⟨_, rgr_fin (m := (R6.m, 0)) x08 (by omega) g28 hR8 rfl, Or.inr ⟨ne, Or.inr ⟨by rw [hbT]; exact e8, u, hum, htn, by rw [hM, if_neg (fun h => k1 h.1)]⟩⟩⟩⟩
    simp [k1, g08, rl6, rg_take]
    have hx6 : R6.xs.length ≤ 1000 := by
      rw [hml6.2.2.1]
      have := putM_len v R5.xs false
      have e : (putR R5.m v.v).l.length = (putM v R5.xs false).length := by rw [show (putR R5.m v.v).l = putW v.v (R5.xs.map VwM.v) false from rfl, ← putM_v, List.length_map]
      omega
    refine CN.use (rbusy_ok hR8 hx6) ?_
    rintro _ A9 hw9 hn9 ⟨x9, rfl⟩
    have g09 := x9.get hw8 g08
    have gv9 := x9.get hw8 gv8
    have g29 := x9.get hw8 g28
    have hR9 := hR8.ext hw8 x9
    have x09 := x08.trans (by omega) x9
    by_cases k2 : busyB R6.m = true
    · simp [k1, k2, g09, g29, rl6, rg_take, rg_z]
      exact ⟨ro6, DN.of ⟨_, rgr_fin (m := (R6.m, 0)) x09 (by omega) g29 hR9 rfl, Or.inr ⟨ne, Or.inr ⟨by rw [hbT]; exact e8, u, hum, htn, by rw [hM, if_neg (fun h => by rw [k2] at h; cases h.2)]⟩⟩⟩⟩
    simp [k1, k2, g09, gv9, rl6, rg_take, vl, vt]
    have hmn : 0 ≤ now ∧ now ≤ 1099511627766 := by simpa [mayB] using e1
    have vok9 : v.ok A9 := by rw [hv]; exact ⟨(h.lo u hum).1.fr (FrT.ext hwf x09), lmZ_ok _⟩
    have hvw : v.v.wf := by rw [hvv]; exact ⟨by show (0:Int) ≤ 1 ∧ (1 : Int) ≤ 8; omega, hw, huf.2.2.2.1, wtZ_wf⟩
    have haw : (askV v.v).wf := ask_wf hvw (by rw [hvv]; exact (h.lo u hum).1.2.2)
    refine CN.use (rtries_ok (cl := cl) hR9 v vok9 now hx6 (by have e : R6.lns.length = R5.lns.length := hml6.2.1; omega) (by have e : R6.acs.length = R5.acs.length := by { rw [hml6.1]; exact (RgP.m_len (R' := R5) rfl).1.symm }; omega) hmn (by have e : R6.hd = R5.hd := hml6.2.2.2.1; rw [e]; exact hd5) (by rw [hv]; show (0:Int) ≤ 1 ∧ (1 : Int) ≤ 8; omega) (by have e : R6.cnt = R5.cnt := hml6.2.2.2.2.2; rw [e]; exact hc5) haw (hl.ext hwf x09) hx hln) ?_
    rintro _ A10 hw10 hn10 ⟨x10, R10, rfl, hR10, hm10, lb10⟩
    have g210 := x10.get hw9 g29
    simp [g210, rg_len, rg_z, rg_take]
    exact ⟨rg_one R10, DN.of ⟨_, rgr_fin (m := (R6.m.rtries v.v now l, 0)) (x09.trans (by omega) x10) (by omega) g210 hR10 hm10, Or.inr ⟨ne, Or.inr ⟨by rw [hbT]; exact e8, u, hum, htn, by rw [hM, if_pos ⟨k1, by simpa using k2⟩]⟩⟩⟩⟩
def notT (n : Int) (v : Vw) : Bool := decide (v.tn ≠ n)
def Mg.rdel (m : Mg) (v : Vw) (n : Int) : Mg :=
  let m1 := if v.now.k.lsp = 0 then m else (m.does ⟨4, v.tn, kyZ, wtZ, []⟩).does ⟨2, v.tn, v.now.k, wtZ, []⟩
  let m2 := if v.new.k.lsp = 0 then m1 else m1.does ⟨2, v.tn, v.new.k, wtZ, []⟩
  { m2 with l := m2.l.filter (notT n) }
theorem rdel_is {m m1 m2 : Mg} {v : Vw} {n : Int} (h1 : m1 = if v.now.k.lsp = 0 then m else (m.does ⟨4, v.tn, kyZ, wtZ, []⟩).does ⟨2, v.tn, v.now.k, wtZ, []⟩) (h2 : m2 = if v.new.k.lsp = 0 then m1 else m1.does ⟨2, v.tn, v.new.k, wtZ, []⟩) : { m2 with l := m2.l.filter (notT n) } = m.rdel v n := by rw [h2, h1]; rfl
def RDel (R : RgM) (n : Int) (M : Mg × Int) : Prop := (hasT R.m n = false ∧ M = (R.m, 8)) ∨ (hasT R.m n = true ∧ ∃ x ∈ R.xs, x.tn = n ∧ M = (R.m.rdel x.v n, 0))
def dF (n : Int) (L : List VwM) (i : Nat) : List VwM := (L.take i).filter fun x => notT n x.v
theorem dF_step {L : List VwM} {i : Nat} (h : i < L.length) (n : Int) : dF n L (i + 1) = dF n L i ++ (if L[i].tn = n then [] else [L[i]]) := by
  unfold dF
  rw [List.take_succ_eq_append_getElem h, List.filter_append]
  congr 1
  by_cases e : L[i].tn = n
  · rw [if_pos e]; simp [notT, VwM.v, e]
  · rw [if_neg e]; simp [notT, VwM.v, e]
theorem dF_len (n : Int) (L : List VwM) (i : Nat) : (dF n L i).length ≤ L.length := by
  have := List.length_filter_le (fun x : VwM => notT n x.v) (L.take i)
  have := List.length_take_le i L
  unfold dF; simp at *; omega
theorem dF_v (n : Int) (L : List VwM) : (dF n L L.length).map VwM.v = (L.map VwM.v).filter (notT n) := by
  unfold dF; rw [List.take_length, List.filter_map]; rfl
theorem dF_mem {n : Int} {L : List VwM} {i : Nat} {x : VwM} (h : x ∈ dF n L i) : x ∈ L := List.mem_of_mem_take (List.mem_filter.1 h).1
theorem ddone {A A7 A8 : AH} {R M : RgM} {n : Int} {x : VwM} {a : Option Addr} {c : Nat} (hT : hasT R.m n = true) (hx : x ∈ R.xs) (hxn : x.tn = n) (h : M.ok A7) (w7 : A7.wf) (x07 : Ext A A7) (x8 : Ext A7 A8) (hn : A.next ≤ A7.next) (o : Own A7.next A8 107 32 (.slice a (dF n M.xs M.xs.length).length c) ((dF n M.xs M.xs.length).map VwM.enc)) (g0 : ∃ cs, A8.get A.next = some (.row cs 32 false)) (g1 : ∃ cs, A8.get (A.next + 1) = some (.row cs 32 false))
    (hm : { M.m with l := M.m.l.filter (notT n) } = R.m.rdel x.v n) (r : List Value) : ∃ Q, RgR A Q (.tuple #[.agg (RgM.enc { M with xs := dF n M.xs M.xs.length, la := a, lc := c }).toArray, .int .i64 0]) ((A8.set A.next (.row r 32 false)).set (A.next + 1) (.row (RgM.enc { M with xs := dF n M.xs M.xs.length, la := a, lc := c }) 32 false)) ∧ RDel R n Q := by
  obtain ⟨cs0, g0⟩ := g0
  obtain ⟨cs1, g1⟩ := g1
  have h8 := h.ext w7 x8
  have hobt := own_slm o
  obtain ⟨a', c', e, s8, -⟩ := hobt
  injection e with e _ _; subst e
  have hR : RgM.ok A8 { M with xs := dF n M.xs M.xs.length, la := a, lc := c } := ⟨s8, fun y hy => h8.lo y (dF_mem hy), h8.a, h8.ao, h8.n, own_ty o, h8.ta, h8.tn⟩
  refine ⟨(R.m.rdel x.v n, 0), rgr_fin (m := (R.m.rdel x.v n, 0)) ((x07.trans hn x8).setnew (Nat.le_refl _) _) (by omega) (by rw [AH.get_set, if_neg (by omega)]; exact g1) (hR.box g0 (by decide) _) ?_, Or.inr ⟨hT, x, hx, hxn, rfl⟩⟩
  show _ = R.m.rdel x.v n
  rw [← hm]
  show Mg.mk _ _ ((dF n M.xs M.xs.length).map VwM.v) _ _ _ = _
  rw [dF_v]; rfl
set_option maxHeartbeats 16000000 in
theorem rdelete_ok {A : AH} {R : RgM} (h : R.ok A) (hf : R.fit) (n : Int) : ACall Tryz.prog 30 [.agg R.enc.toArray, .int .i64 n] A fun r A' => ∃ M, RgR A M r A' ∧ RDel R n M := by
  have ro := rg_one R
  have rl := rg_len R
  refine ACall.wf fun hwf => ?_
  have hobx : ∃ A1, A1 = (A.alloc (.row R.enc 32 false)).alloc (.row [Value.int .i64 0, .int .i64 0, .slice none 0 0, .int .i64 0, .slice none 0 0, .slice none 0 0] 32 false) := ⟨_, rfl⟩
  obtain ⟨A1, hA1⟩ := hobx
  have w1 : A1.wf := by rw [hA1]; exact AH.wf_alloc (AH.wf_alloc hwf _) _
  have n1 : A1.next = A.next + 2 := by rw [hA1]; rfl
  have x1 : Ext A A1 := by rw [hA1]; exact (Ext.alloc A _).app (by simp) _
  have g0 : A1.get A.next = some (.row R.enc 32 false) := by rw [hA1]; simp [AH.get_alloc]
  have g2 : A1.get (A.next + 1) = some (.row [Value.int .i64 0, .int .i64 0, .slice none 0 0, .int .i64 0, .slice none 0 0, .slice none 0 0] 32 false) := by rw [hA1]; simp [AH.get_alloc]
  have h1 := h.ext hwf x1
  refine code30.call (by simp) fun hwf => ?_
  unfold c30
  simp [rl, rg_len, ← hA1, g0, rg_take]
  refine CN.use (rfind2_ok h1 n hf.xs) ?_
  rintro _ A2 hw2 hn2 ⟨x2, u, b, rfl, hbT, hbi⟩
  have uo := vw_one u
  have ul := vw_len u
  have ut := vw_take u
  have hobx : ∃ A3, A3 = A2.alloc (.row u.enc 107 false) := ⟨_, rfl⟩
  obtain ⟨A3, hA3⟩ := hobx
  have w3 : A3.wf := by rw [hA3]; exact AH.wf_alloc hw2 _
  have n3 : A3.next = A2.next + 1 := by rw [hA3]; rfl
  have x13 : Ext A1 A3 := by rw [hA3]; exact x2.trans (by omega) (Ext.alloc A2 _)
  have gu3 : A3.get A2.next = some (.row u.enc 107 false) := by rw [hA3, AH.get_new]
  have g03 := x13.get w1 g0
  have g23 := x13.get w1 g2
  have h3 := h1.ext w1 x13
  have x03 := x1.trans (by omega) x13
  by_cases e8 : b = true
  rotate_left
  · simp [ul, vw_z, ← hA3, e8, g03, g23, rl, rg_take, rg_z]
    exact ⟨uo, ro, DN.of ⟨_, rgr_fin (m := (R.m, 8)) x03 (by omega) g23 h3 rfl, Or.inl ⟨by rw [hbT]; simpa using e8, rfl⟩⟩⟩
  have hobt := hbi e8
  obtain ⟨htn, i0, hui⟩ := hobt
  have hum := List.mem_of_getElem? hui
  have hT : hasT R.m n = true := by rw [hbT]; exact e8
  have hne : ¬ A2.next = A.next := by omega
  have e11 : u.enc[11]'(by omega) = .int .i64 u.now.s.k.lsp := rfl
  have e22 : u.enc[22]'(by omega) = .int .i64 u.new.s.k.lsp := rfl
  have unw := vw_now u
  have unn := vw_new u
  by_cases z1 : u.now.s.k.lsp = 0
  · by_cases z2 : u.new.s.k.lsp = 0
    · have hx4 : R.xs.length ≤ 400 := hf.xs2
      have c2 : R.enc[2]'(by rw [rl]; omega) = .slice R.la R.xs.length R.lc := rfl
      have fin : { R.m with l := R.m.l.filter (notT n) } = R.m.rdel u.v n := rdel_is (m1 := R.m) (if_pos (show u.v.now.k.lsp = 0 from z1)).symm (if_pos (show u.v.new.k.lsp = 0 from z2)).symm
      simp [ul, vw_z, ← hA3, e8, gu3, g03, rl, rg_take, ut, unw, unn, e11, e22, z1, z2]
      refine ⟨uo, ?_⟩
      refine LN.use (fun k E A' => ∃ (i : Nat) (z : Value), k + i = R.xs.length ∧ Ext A3 A' ∧ A3.next ≤ A'.next ∧ Own A3.next A' 107 32 z ((dF n R.xs i).map VwM.enc) ∧ E.get 1 = .int .i64 n ∧ E.get 2 = .pointer (some ⟨A.next, 0, none⟩) ∧ E.get 4 = .pointer (some ⟨A.next + 1, 0, none⟩) ∧ E.get 8 = z ∧ E.get 9 = .int .i64 i) R.xs.length
        ⟨0, _, by omega, Ext.refl _, Nat.le_refl _, Own.nil _ _ _ _, by simp, by simp, by simp, by simp, by simp⟩ ?_
      rintro k E A8 hw8 hn8 ⟨i, z, hi, x8, n8, o8, E1, E2, E4, E8, E9⟩
      have g8 := x8.get w3 g03
      by_cases hlt : i < R.xs.length
      rotate_left
      · have hlt' : ¬ (i : Int) < R.xs.length := by omega
        obtain rfl : i = R.xs.length := by omega
        have g28 := x8.get w3 g23
        have hobt := own_slm o8
        obtain ⟨a, c, rfl, -⟩ := hobt
        have hfl := dF_len n R.xs R.xs.length
        have sp : spl R.enc 2 [.slice a (dF n R.xs R.xs.length).length c] = RgM.enc { R with xs := dF n R.xs R.xs.length, la := a, lc := c } := rfl
        have sl := rg_len { R with xs := dF n R.xs R.xs.length, la := a, lc := c }
        have so := rg_one { R with xs := dF n R.xs R.xs.length, la := a, lc := c }
        have hd := ddone hT hum htn h3 w3 x03 x8 (by omega) o8 ⟨_, g8⟩ ⟨_, g28⟩ fin (RgM.enc { R with xs := dF n R.xs R.xs.length, la := a, lc := c })
        simp [E2, E4, E8, E9, g8, rl, c2, hlt', sp, g28, sl, rg_take, rg_z, AH.get_set]
        exact ⟨so, DN.of hd⟩
      have hlt' : (i : Int) < R.xs.length := by omega
      have hgi : IntKind.i64.wrap ((i : Int) + 1) = ((i + 1 : Nat) : Int) := by rw [i64_in (by omega) (by omega)]; simp
      have hst := dF_step hlt n
      have hfl := dF_len n R.xs i
      have hobx : ∃ x, x = R.xs[i] := ⟨_, rfl⟩
      obtain ⟨x, hx⟩ := hobx
      rw [← hx] at hst
      have hobt := h3.l.at (i := i) (by simpa using hlt)
      obtain ⟨bb, o, cs, q, hb, u0, u2, u3⟩ := hobt
      have u1 := x8.get w3 u0
      rw [List.getElem_map, ← hx] at u3
      have d0 := at_cell (i := 0) u3 (by omega)
      rw [show x.enc[0]? = some (.int .i64 x.tn) from rfl, Nat.add_zero] at d0
      have xl := vw_len x
      have xz := vw_z x
      by_cases he : x.tn = n
      · rw [if_pos he, List.append_nil] at hst
        simp [E1, E2, E8, E9, g8, rl, c2, hlt, hlt', hb, u1, u2, d0, he, hgi]
        exact NX.of ⟨k - 1, by omega, i + 1, z, by omega, x8, n8, by rw [hst]; exact o8, by simp [E1], by simp [E2], by simp [E4], by simp [E8], by simp⟩
      · rw [if_neg he] at hst
        have hobt := vown_push o8 hw8 (by omega) (by omega) x
        obtain ⟨a2, c2', a3, c3, A9, rfl, p1, p2, p3, p5, p4⟩ := hobt
        simp [E1, E2, E8, E9, g8, rl, c2, hlt, hlt', hb, u1, u2, u3, d0, he, xl, xz, p1, hgi]
        exact NX.of ⟨k - 1, by omega, i + 1, _, by omega, fun c hc => by rw [p4 c hc, x8 c hc], by omega, by rw [hst]; exact p2, by simp [E1], by simp [E2], by simp [E4], by simp, by simp⟩
    · have ha4 : R.acs.length ≤ 90000 := by have := hf.acs; omega
      simp [ul, vw_z, ← hA3, e8, gu3, g03, rl, rg_take, ut, unw, unn, e11, e22, z1, z2]
      refine ⟨uo, ?_⟩
      refine CN.use (rstop_ok h3 u u.new (by omega)) ?_
      rintro _ B1 hwB1 hnB1 ⟨xB, S1, rfl, hS1, hmS, lbS⟩
      have g0B1 := xB.get w3 g03
      have guB1 := xB.get w3 gu3
      have g2B1 := xB.get w3 g23
      have rs := rg_len S1
      have rso := rg_one S1
      have mlS := RgP.m_len hmS
      have hobx : ∃ B2, B2 = B1.set A.next (.row S1.enc 32 false) := ⟨_, rfl⟩
      obtain ⟨B2, hB2⟩ := hobx
      have wB2 : B2.wf := by rw [hB2]; exact AH.wf_set hwB1 (by omega) _
      have nB2 : B2.next = B1.next := by rw [hB2]; rfl
      have g0B2 : B2.get A.next = some (.row S1.enc 32 false) := by rw [hB2, AH.get_set, if_pos rfl]
      have guB2 : B2.get A2.next = some (.row u.enc 107 false) := by rw [hB2, AH.get_set, if_neg hne]; exact guB1
      have g2B2 : B2.get (A.next + 1) = some (.row [Value.int .i64 0, .int .i64 0, .slice none 0 0, .int .i64 0, .slice none 0 0, .slice none 0 0] 32 false) := by rw [hB2, AH.get_set, if_neg (by omega)]; exact g2B1
      have hrB2 : S1.ok B2 := by rw [hB2]; exact hS1.box g0B1 (by decide) _
      have x0B : Ext A B2 := by rw [hB2]; exact (x03.trans (by omega) xB).setnew (by omega) _
      have hx4 : S1.xs.length ≤ 400 := by rw [mlS.2.2.1]; have := hf.xs2; simpa [RgM.m, Mg.does] using this
      have c2 : S1.enc[2]'(by rw [rs]; omega) = .slice S1.la S1.xs.length S1.lc := rfl
      have fin : { S1.m with l := S1.m.l.filter (notT n) } = R.m.rdel u.v n := rdel_is (m1 := R.m) (if_pos (show u.v.now.k.lsp = 0 from z1)).symm (by rw [hmS]; exact (if_neg (show ¬ u.v.new.k.lsp = 0 from z2)).symm)
      simp [g0B1, rs, rl, rg_spl, ← hB2]
      refine ⟨rso, ?_⟩
      refine LN.use (fun k E A' => ∃ (i : Nat) (z : Value), k + i = S1.xs.length ∧ Ext B2 A' ∧ B2.next ≤ A'.next ∧ Own B2.next A' 107 32 z ((dF n S1.xs i).map VwM.enc) ∧ E.get 1 = .int .i64 n ∧ E.get 2 = .pointer (some ⟨A.next, 0, none⟩) ∧ E.get 4 = .pointer (some ⟨A.next + 1, 0, none⟩) ∧ E.get 8 = z ∧ E.get 9 = .int .i64 i) S1.xs.length
        ⟨0, _, by omega, Ext.refl _, Nat.le_refl _, Own.nil _ _ _ _, by simp, by simp, by simp, by simp, by simp⟩ ?_
      rintro k E A8 hw8 hn8 ⟨i, z, hi, x8, n8, o8, E1, E2, E4, E8, E9⟩
      have g8 := x8.get wB2 g0B2
      by_cases hlt : i < S1.xs.length
      rotate_left
      · have hlt' : ¬ (i : Int) < S1.xs.length := by omega
        obtain rfl : i = S1.xs.length := by omega
        have g28 := x8.get wB2 g2B2
        have hobt := own_slm o8
        obtain ⟨a, c, rfl, -⟩ := hobt
        have hfl := dF_len n S1.xs S1.xs.length
        have sp : spl S1.enc 2 [.slice a (dF n S1.xs S1.xs.length).length c] = RgM.enc { S1 with xs := dF n S1.xs S1.xs.length, la := a, lc := c } := rfl
        have sl := rg_len { S1 with xs := dF n S1.xs S1.xs.length, la := a, lc := c }
        have so := rg_one { S1 with xs := dF n S1.xs S1.xs.length, la := a, lc := c }
        have hd := ddone hT hum htn hrB2 wB2 x0B x8 (by omega) o8 ⟨_, g8⟩ ⟨_, g28⟩ fin (RgM.enc { S1 with xs := dF n S1.xs S1.xs.length, la := a, lc := c })
        simp [E2, E4, E8, E9, g8, rs, c2, hlt', sp, g28, sl, rg_take, rg_z, AH.get_set]
        exact ⟨so, DN.of hd⟩
      have hlt' : (i : Int) < S1.xs.length := by omega
      have hgi : IntKind.i64.wrap ((i : Int) + 1) = ((i + 1 : Nat) : Int) := by rw [i64_in (by omega) (by omega)]; simp
      have hst := dF_step hlt n
      have hfl := dF_len n S1.xs i
      have hobx : ∃ x, x = S1.xs[i] := ⟨_, rfl⟩
      obtain ⟨x, hx⟩ := hobx
      rw [← hx] at hst
      have hobt := hrB2.l.at (i := i) (by simpa using hlt)
      obtain ⟨bb, o, cs, q, hb, u0, u2, u3⟩ := hobt
      have u1 := x8.get wB2 u0
      rw [List.getElem_map, ← hx] at u3
      have d0 := at_cell (i := 0) u3 (by omega)
      rw [show x.enc[0]? = some (.int .i64 x.tn) from rfl, Nat.add_zero] at d0
      have xl := vw_len x
      have xz := vw_z x
      by_cases he : x.tn = n
      · rw [if_pos he, List.append_nil] at hst
        simp [E1, E2, E8, E9, g8, rs, c2, hlt, hlt', hb, u1, u2, d0, he, hgi]
        exact NX.of ⟨k - 1, by omega, i + 1, z, by omega, x8, n8, by rw [hst]; exact o8, by simp [E1], by simp [E2], by simp [E4], by simp [E8], by simp⟩
      · rw [if_neg he] at hst
        have hobt := vown_push o8 hw8 (by omega) (by omega) x
        obtain ⟨a2, c2', a3, c3, A9, rfl, p1, p2, p3, p5, p4⟩ := hobt
        simp [E1, E2, E8, E9, g8, rs, c2, hlt, hlt', hb, u1, u2, u3, d0, he, xl, xz, p1, hgi]
        exact NX.of ⟨k - 1, by omega, i + 1, _, by omega, fun c hc => by rw [p4 c hc, x8 c hc], by omega, by rw [hst]; exact p2, by simp [E1], by simp [E2], by simp [E4], by simp, by simp⟩
  · have ha4 : R.acs.length ≤ 80000 := hf.acs
    simp [ul, vw_z, ← hA3, e8, gu3, g03, rl, rg_take, ut, unw, unn, e11, e22, z1]
    refine ⟨uo, ?_⟩
    refine CN.use (runmap_ok h3 u (by omega)) ?_
    rintro _ C1 hwC1 hnC1 ⟨xC, T1, rfl, hT1, hmT, lbT⟩
    have guC1 := xC.get w3 gu3
    have mlT := RgP.m_len hmT
    simp [guC1, ul, ut, unw]
    refine CN.use (rstop_ok hT1 u u.now (by rw [mlT.1]; simp [RgM.m, Mg.does]; omega)) ?_
    rintro _ C2 hwC2 hnC2 ⟨xC2, T2, rfl, hT2, hmT2, lbT2⟩
    have xCC := xC.trans hnC1 xC2
    have g0C2 := xCC.get w3 g03
    have guC2 := xCC.get w3 gu3
    have g2C2 := xCC.get w3 g23
    have rt := rg_len T2
    have rto := rg_one T2
    have hmT' : T2.m = (R.m.does ⟨4, u.v.tn, kyZ, wtZ, []⟩).does ⟨2, u.v.tn, u.v.now.k, wtZ, []⟩ := by rw [hmT2, hmT]; rfl
    have mlT2 := RgP.m_len hmT'
    have hobx : ∃ C3, C3 = C2.set A.next (.row T2.enc 32 false) := ⟨_, rfl⟩
    obtain ⟨C3, hC3⟩ := hobx
    have wC3 : C3.wf := by rw [hC3]; exact AH.wf_set hwC2 (by omega) _
    have nC3 : C3.next = C2.next := by rw [hC3]; rfl
    have g0C3 : C3.get A.next = some (.row T2.enc 32 false) := by rw [hC3, AH.get_set, if_pos rfl]
    have guC3 : C3.get A2.next = some (.row u.enc 107 false) := by rw [hC3, AH.get_set, if_neg hne]; exact guC2
    have g2C3 : C3.get (A.next + 1) = some (.row [Value.int .i64 0, .int .i64 0, .slice none 0 0, .int .i64 0, .slice none 0 0, .slice none 0 0] 32 false) := by rw [hC3, AH.get_set, if_neg (by omega)]; exact g2C2
    have hrC3 : T2.ok C3 := by rw [hC3]; exact hT2.box g0C2 (by decide) _
    have x0C : Ext A C3 := by rw [hC3]; exact (x03.trans (by omega) xCC).setnew (by omega) _
    by_cases z2 : u.new.s.k.lsp = 0
    · have hx4 : T2.xs.length ≤ 400 := by rw [mlT2.2.2.1]; have := hf.xs2; simpa [RgM.m, Mg.does] using this
      have c2 : T2.enc[2]'(by rw [rt]; omega) = .slice T2.la T2.xs.length T2.lc := rfl
      have fin : { T2.m with l := T2.m.l.filter (notT n) } = R.m.rdel u.v n := rdel_is (m1 := T2.m) (by rw [hmT']; exact (if_neg (show ¬ u.v.now.k.lsp = 0 from z1)).symm) (if_pos (show u.v.new.k.lsp = 0 from z2)).symm
      simp [g0C2, rt, rl, rg_spl, ← hC3, guC3, ul, e22, z2, g0C3]
      refine ⟨rto, ?_⟩
      refine LN.use (fun k E A' => ∃ (i : Nat) (z : Value), k + i = T2.xs.length ∧ Ext C3 A' ∧ C3.next ≤ A'.next ∧ Own C3.next A' 107 32 z ((dF n T2.xs i).map VwM.enc) ∧ E.get 1 = .int .i64 n ∧ E.get 2 = .pointer (some ⟨A.next, 0, none⟩) ∧ E.get 4 = .pointer (some ⟨A.next + 1, 0, none⟩) ∧ E.get 8 = z ∧ E.get 9 = .int .i64 i) T2.xs.length
        ⟨0, _, by omega, Ext.refl _, Nat.le_refl _, Own.nil _ _ _ _, by simp, by simp, by simp, by simp, by simp⟩ ?_
      rintro k E A8 hw8 hn8 ⟨i, z, hi, x8, n8, o8, E1, E2, E4, E8, E9⟩
      have g8 := x8.get wC3 g0C3
      by_cases hlt : i < T2.xs.length
      rotate_left
      · have hlt' : ¬ (i : Int) < T2.xs.length := by omega
        obtain rfl : i = T2.xs.length := by omega
        have g28 := x8.get wC3 g2C3
        have hobt := own_slm o8
        obtain ⟨a, c, rfl, -⟩ := hobt
        have hfl := dF_len n T2.xs T2.xs.length
        have sp : spl T2.enc 2 [.slice a (dF n T2.xs T2.xs.length).length c] = RgM.enc { T2 with xs := dF n T2.xs T2.xs.length, la := a, lc := c } := rfl
        have sl := rg_len { T2 with xs := dF n T2.xs T2.xs.length, la := a, lc := c }
        have so := rg_one { T2 with xs := dF n T2.xs T2.xs.length, la := a, lc := c }
        have hd := ddone hT hum htn hrC3 wC3 x0C x8 (by omega) o8 ⟨_, g8⟩ ⟨_, g28⟩ fin (RgM.enc { T2 with xs := dF n T2.xs T2.xs.length, la := a, lc := c })
        simp [E2, E4, E8, E9, g8, rt, c2, hlt', sp, g28, sl, rg_take, rg_z, AH.get_set]
        exact ⟨so, DN.of hd⟩
      have hlt' : (i : Int) < T2.xs.length := by omega
      have hgi : IntKind.i64.wrap ((i : Int) + 1) = ((i + 1 : Nat) : Int) := by rw [i64_in (by omega) (by omega)]; simp
      have hst := dF_step hlt n
      have hfl := dF_len n T2.xs i
      have hobx : ∃ x, x = T2.xs[i] := ⟨_, rfl⟩
      obtain ⟨x, hx⟩ := hobx
      rw [← hx] at hst
      have hobt := hrC3.l.at (i := i) (by simpa using hlt)
      obtain ⟨bb, o, cs, q, hb, u0, u2, u3⟩ := hobt
      have u1 := x8.get wC3 u0
      rw [List.getElem_map, ← hx] at u3
      have d0 := at_cell (i := 0) u3 (by omega)
      rw [show x.enc[0]? = some (.int .i64 x.tn) from rfl, Nat.add_zero] at d0
      have xl := vw_len x
      have xz := vw_z x
      by_cases he : x.tn = n
      · rw [if_pos he, List.append_nil] at hst
        simp [E1, E2, E8, E9, g8, rt, c2, hlt, hlt', hb, u1, u2, d0, he, hgi]
        exact NX.of ⟨k - 1, by omega, i + 1, z, by omega, x8, n8, by rw [hst]; exact o8, by simp [E1], by simp [E2], by simp [E4], by simp [E8], by simp⟩
      · rw [if_neg he] at hst
        have hobt := vown_push o8 hw8 (by omega) (by omega) x
        obtain ⟨a2, c2', a3, c3, A9, rfl, p1, p2, p3, p5, p4⟩ := hobt
        simp [E1, E2, E8, E9, g8, rt, c2, hlt, hlt', hb, u1, u2, u3, d0, he, xl, xz, p1, hgi]
        exact NX.of ⟨k - 1, by omega, i + 1, _, by omega, fun c hc => by rw [p4 c hc, x8 c hc], by omega, by rw [hst]; exact p2, by simp [E1], by simp [E2], by simp [E4], by simp, by simp⟩
    · have ha5 : T2.acs.length ≤ 90000 := by rw [mlT2.1]; simp [RgM.m, Mg.does]; omega
      simp [g0C2, rt, rl, rg_spl, ← hC3, guC3, ul, ut, e22, unn, z2, g0C3, rg_take]
      refine ⟨rto, ?_⟩
      refine CN.use (rstop_ok hrC3 u u.new (by omega)) ?_
      rintro _ B1 hwB1 hnB1 ⟨xB, S1, rfl, hS1, hmS, lbS⟩
      have g0B1 := xB.get wC3 g0C3
      have guB1 := xB.get wC3 guC3
      have g2B1 := xB.get wC3 g2C3
      have rs := rg_len S1
      have rso := rg_one S1
      have mlS := RgP.m_len hmS
      have hobx : ∃ B2, B2 = B1.set A.next (.row S1.enc 32 false) := ⟨_, rfl⟩
      obtain ⟨B2, hB2⟩ := hobx
      have wB2 : B2.wf := by rw [hB2]; exact AH.wf_set hwB1 (by omega) _
      have nB2 : B2.next = B1.next := by rw [hB2]; rfl
      have g0B2 : B2.get A.next = some (.row S1.enc 32 false) := by rw [hB2, AH.get_set, if_pos rfl]
      have guB2 : B2.get A2.next = some (.row u.enc 107 false) := by rw [hB2, AH.get_set, if_neg hne]; exact guB1
      have g2B2 : B2.get (A.next + 1) = some (.row [Value.int .i64 0, .int .i64 0, .slice none 0 0, .int .i64 0, .slice none 0 0, .slice none 0 0] 32 false) := by rw [hB2, AH.get_set, if_neg (by omega)]; exact g2B1
      have hrB2 : S1.ok B2 := by rw [hB2]; exact hS1.box g0B1 (by decide) _
      have x0B : Ext A B2 := by rw [hB2]; exact (x0C.trans (by omega) xB).setnew (by omega) _
      have hx4 : S1.xs.length ≤ 400 := by rw [mlS.2.2.1, hmT']; have := hf.xs2; simpa [RgM.m, Mg.does] using this
      have c2 : S1.enc[2]'(by rw [rs]; omega) = .slice S1.la S1.xs.length S1.lc := rfl
      have fin : { S1.m with l := S1.m.l.filter (notT n) } = R.m.rdel u.v n := rdel_is (m1 := T2.m) (by rw [hmT']; exact (if_neg (show ¬ u.v.now.k.lsp = 0 from z1)).symm) (by rw [hmS]; exact (if_neg (show ¬ u.v.new.k.lsp = 0 from z2)).symm)
      simp [g0B1, rs, rt, rg_spl, ← hB2]
      refine ⟨rso, ?_⟩
      refine LN.use (fun k E A' => ∃ (i : Nat) (z : Value), k + i = S1.xs.length ∧ Ext B2 A' ∧ B2.next ≤ A'.next ∧ Own B2.next A' 107 32 z ((dF n S1.xs i).map VwM.enc) ∧ E.get 1 = .int .i64 n ∧ E.get 2 = .pointer (some ⟨A.next, 0, none⟩) ∧ E.get 4 = .pointer (some ⟨A.next + 1, 0, none⟩) ∧ E.get 8 = z ∧ E.get 9 = .int .i64 i) S1.xs.length
        ⟨0, _, by omega, Ext.refl _, Nat.le_refl _, Own.nil _ _ _ _, by simp, by simp, by simp, by simp, by simp⟩ ?_
      rintro k E A8 hw8 hn8 ⟨i, z, hi, x8, n8, o8, E1, E2, E4, E8, E9⟩
      have g8 := x8.get wB2 g0B2
      by_cases hlt : i < S1.xs.length
      rotate_left
      · have hlt' : ¬ (i : Int) < S1.xs.length := by omega
        obtain rfl : i = S1.xs.length := by omega
        have g28 := x8.get wB2 g2B2
        have hobt := own_slm o8
        obtain ⟨a, c, rfl, -⟩ := hobt
        have hfl := dF_len n S1.xs S1.xs.length
        have sp : spl S1.enc 2 [.slice a (dF n S1.xs S1.xs.length).length c] = RgM.enc { S1 with xs := dF n S1.xs S1.xs.length, la := a, lc := c } := rfl
        have sl := rg_len { S1 with xs := dF n S1.xs S1.xs.length, la := a, lc := c }
        have so := rg_one { S1 with xs := dF n S1.xs S1.xs.length, la := a, lc := c }
        have hd := ddone hT hum htn hrB2 wB2 x0B x8 (by omega) o8 ⟨_, g8⟩ ⟨_, g28⟩ fin (RgM.enc { S1 with xs := dF n S1.xs S1.xs.length, la := a, lc := c })
        simp [E2, E4, E8, E9, g8, rs, c2, hlt', sp, g28, sl, rg_take, rg_z, AH.get_set]
        exact ⟨so, DN.of hd⟩
      have hlt' : (i : Int) < S1.xs.length := by omega
      have hgi : IntKind.i64.wrap ((i : Int) + 1) = ((i + 1 : Nat) : Int) := by rw [i64_in (by omega) (by omega)]; simp
      have hst := dF_step hlt n
      have hfl := dF_len n S1.xs i
      have hobx : ∃ x, x = S1.xs[i] := ⟨_, rfl⟩
      obtain ⟨x, hx⟩ := hobx
      rw [← hx] at hst
      have hobt := hrB2.l.at (i := i) (by simpa using hlt)
      obtain ⟨bb, o, cs, q, hb, u0, u2, u3⟩ := hobt
      have u1 := x8.get wB2 u0
      rw [List.getElem_map, ← hx] at u3
      have d0 := at_cell (i := 0) u3 (by omega)
      rw [show x.enc[0]? = some (.int .i64 x.tn) from rfl, Nat.add_zero] at d0
      have xl := vw_len x
      have xz := vw_z x
      by_cases he : x.tn = n
      · rw [if_pos he, List.append_nil] at hst
        simp [E1, E2, E8, E9, g8, rs, c2, hlt, hlt', hb, u1, u2, d0, he, hgi]
        exact NX.of ⟨k - 1, by omega, i + 1, z, by omega, x8, n8, by rw [hst]; exact o8, by simp [E1], by simp [E2], by simp [E4], by simp [E8], by simp⟩
      · rw [if_neg he] at hst
        have hobt := vown_push o8 hw8 (by omega) (by omega) x
        obtain ⟨a2, c2', a3, c3, A9, rfl, p1, p2, p3, p5, p4⟩ := hobt
        simp [E1, E2, E8, E9, g8, rs, c2, hlt, hlt', hb, u1, u2, u3, d0, he, xl, xz, p1, hgi]
        exact NX.of ⟨k - 1, by omega, i + 1, _, by omega, fun c hc => by rw [p4 c hc, x8 c hc], by omega, by rw [hst]; exact p2, by simp [E1], by simp [E2], by simp [E4], by simp, by simp⟩
structure Mg.fit (m : Mg) : Prop where
  len : m.l.length ≤ 400
  acs : m.acts.length ≤ 80000
  lns : m.lines.length ≤ 80000
  hd : 0 ≤ m.head ∧ m.head < 16
  cnt : 0 ≤ m.count ∧ m.count ≤ 65535
  vs : ∀ v ∈ m.l, v.wf
theorem Mg.fit.rg {R : RgM} (h : R.m.fit) : R.fit := ⟨by have := h.len; simpa [RgM.m] using this, by have := h.acs; simpa [RgM.m] using this, h.lns, h.hd, h.cnt, fun x hx => ⟨(h.vs x.v (List.mem_map_of_mem hx)).1, h.vs x.v (List.mem_map_of_mem hx)⟩⟩
def Mg.rlapse (now : Int) (L : List Vw) (m : Mg) (i : Nat) : Mg :=
  if lateB (L.getD i vwZ) now = true then (m.does ⟨2, (L.getD i vwZ).tn, (L.getD i vwZ).new.k, wtZ, []⟩).rfails { L.getD i vwZ with new := lsZ } now 17 else m
noncomputable def Mg.rretry (now : Int) (l : List Adv) (L : List Vw) (m : Mg) (i : Nat) : Mg :=
  if lacksB (L.getD i vwZ) = true ∧ (L.getD i vwZ).wait ≤ now ∧ busyB m = false then m.rtries (L.getD i vwZ) now l else m
noncomputable def Mg.rtick (m : Mg) (now : Int) (l : List Adv) : Mg × Int :=
  if mayB now = false then (m, 2) else
  (upto (Mg.rretry now l (upto (Mg.rlapse now m.l) m m.l.length).l) (upto (Mg.rlapse now m.l) m m.l.length) (upto (Mg.rlapse now m.l) m m.l.length).l.length, 0)
def MB (A0 : AH) (A : AH) (m : Mg) : Prop := ∃ R : RgM, R.ok A ∧ R.m = m ∧ Ext A0 A ∧ A0.next + 2 ≤ A.next ∧ A.wf ∧ A.get A0.next = some (.row R.enc 32 false) ∧ ∃ cs, A.get (A0.next + 1) = some (.row cs 32 false) ∧ cs = [Value.int .i64 0, .int .i64 0, .slice none 0 0, .int .i64 0, .slice none 0 0, .slice none 0 0]
theorem mb_set {A0 A : AH} {R S : RgM} {m : Mg} (hS : S.ok A) (hm : S.m = m) (hx : Ext A0 A) (hn : A0.next + 2 ≤ A.next) (hw : A.wf) (g0 : A.get A0.next = some (.row R.enc 32 false)) (g1 : A.get (A0.next + 1) = some (.row [Value.int .i64 0, .int .i64 0, .slice none 0 0, .int .i64 0, .slice none 0 0, .slice none 0 0] 32 false)) : MB A0 (A.set A0.next (.row S.enc 32 false)) m :=
  ⟨S, hS.box g0 (by decide) _, hm, hx.setnew (Nat.le_refl _) _, hn, AH.wf_set hw (by omega) _, by rw [AH.get_set, if_pos rfl], _, by rw [AH.get_set, if_neg (by omega)]; exact g1, rfl⟩
theorem getD_v {R : RgM} {i : Nat} {x : VwM} (h : R.xs[i]? = some x) : R.m.l.getD i vwZ = x.v := at_getD (by rw [show R.m.l = R.xs.map VwM.v from rfl, List.getElem?_map, h]; rfl)
set_option maxHeartbeats 16000000 in
theorem rtick_ok {A : AH} {R : RgM} (h : R.ok A) (now : Int) {al : Option Addr} {cl : Nat} {l : List Adv} (hl : Sl A 132 15 al (l.map Adv.enc)) (hx : ∀ x ∈ l, x.wf) (hln : l.length ≤ 1000)
    (f1 : ∀ i, i ≤ R.m.l.length → (upto (Mg.rlapse now R.m.l) R.m i).fit) (f2 : ∀ i, i ≤ (upto (Mg.rlapse now R.m.l) R.m R.m.l.length).l.length → (upto (Mg.rretry now l (upto (Mg.rlapse now R.m.l) R.m R.m.l.length).l) (upto (Mg.rlapse now R.m.l) R.m R.m.l.length) i).fit) :
    ACall Tryz.prog 31 [.agg R.enc.toArray, .int .i64 now, .slice al l.length cl] A fun r A' => RgR A (R.m.rtick now l) r A' := by
  have ro := rg_one R
  have rl := rg_len R
  have hRf : R.m.fit := f1 0 (Nat.zero_le _)
  have hml : R.m.l.length = R.xs.length := by simp [RgM.m]
  have r2 : R.enc[2]'(by omega) = .slice R.la R.xs.length R.lc := rfl
  refine ACall.wf fun hwf => ?_
  have hobx : ∃ A1, A1 = (A.alloc (.row R.enc 32 false)).alloc (.row [Value.int .i64 0, .int .i64 0, .slice none 0 0, .int .i64 0, .slice none 0 0, .slice none 0 0] 32 false) := ⟨_, rfl⟩
  obtain ⟨A1, hA1⟩ := hobx
  have w1 : A1.wf := by rw [hA1]; exact AH.wf_alloc (AH.wf_alloc hwf _) _
  have n1 : A1.next = A.next + 2 := by rw [hA1]; rfl
  have x1 : Ext A A1 := by rw [hA1]; exact (Ext.alloc A _).app (by simp) _
  have g0 : A1.get A.next = some (.row R.enc 32 false) := by rw [hA1]; simp [AH.get_alloc]
  have g2 : A1.get (A.next + 1) = some (.row [Value.int .i64 0, .int .i64 0, .slice none 0 0, .int .i64 0, .slice none 0 0, .slice none 0 0] 32 false) := by rw [hA1]; simp [AH.get_alloc]
  have h1 := h.ext hwf x1
  have mb1 : MB A A1 R.m := ⟨R, h1, rfl, x1, by omega, w1, g0, _, g2, rfl⟩
  refine code31.call (by simp) fun hwf => ?_
  unfold c31
  simp [rl, rg_len, ← hA1]
  refine CN.use (tickable_ok now A1) ?_
  rintro _ A1' - - ⟨rfl, rfl⟩
  by_cases e1 : mayB now = true
  rotate_left
  · simp [e1, g0, g2, rl, rg_take, rg_z]
    have hev : R.m.rtick now l = (R.m, 2) := by unfold Mg.rtick; rw [if_pos (by simpa using e1)]
    exact ⟨ro, DN.of (by rw [hev]; exact rgr_fin (m := (R.m, 2)) x1 (by omega) g2 h1 rfl)⟩
  have hmn : 0 ≤ now ∧ now ≤ 1099511627766 := by simpa [mayB] using e1
  have hobx : ∃ M1, M1 = upto (Mg.rlapse now R.m.l) R.m R.m.l.length := ⟨_, rfl⟩
  obtain ⟨M1, hM1⟩ := hobx
  rw [← hM1] at f2
  have hev : R.m.rtick now l = (upto (Mg.rretry now l M1.l) M1 M1.l.length, 0) := by unfold Mg.rtick; rw [if_neg (by simp [e1]), ← hM1]
  simp [e1, g0, rl, r2]
  refine LN.join 0 (fun k E A' => ∃ (i : Nat), k + i = R.xs.length ∧ MB A A' (upto (Mg.rlapse now R.m.l) R.m i) ∧ E.get 1 = .int .i64 now ∧ E.get 2 = .slice al l.length cl ∧ E.get 3 = .pointer (some ⟨A.next, 0, none⟩) ∧ E.get 6 = .pointer (some ⟨A.next + 1, 0, none⟩) ∧ E.get 8 = .slice R.la R.xs.length R.lc ∧ E.get 9 = .int .i64 i) R.xs.length
    (fun E A' => MB A A' M1 ∧ E.get 1 = .int .i64 now ∧ E.get 2 = .slice al l.length cl ∧ E.get 3 = .pointer (some ⟨A.next, 0, none⟩) ∧ E.get 6 = .pointer (some ⟨A.next + 1, 0, none⟩))
    ⟨0, by omega, mb1, by simp, by simp, by simp, by simp, by simp, by simp⟩ ?_ ?_
  · rintro k E A2 - - ⟨i, hi, ⟨R2, hR2, hm2, x2, n2, w2, g02, _, g12, rfl⟩, E1, E2, E3, E6, E8, E9⟩
    by_cases hlt : i < R.xs.length
    rotate_left
    · have hlt' : ¬ (i : Int) < R.xs.length := by omega
      obtain rfl : i = R.xs.length := by omega
      simp [E8, E9, hlt']
      exact NX.of ⟨⟨R2, hR2, by rw [hm2, hM1, hml], x2, n2, w2, g02, _, g12, rfl⟩, by simp [E1], by simp [E2], by simp [E3], by simp [E6]⟩
    have hlt' : (i : Int) < R.xs.length := by omega
    have hl400 : R.xs.length ≤ 400 := by have := hRf.len; omega
    have hgi : IntKind.i64.wrap ((i : Int) + 1) = ((i + 1 : Nat) : Int) := by rw [i64_in (by omega) (by omega)]; simp
    have hf2 : R2.m.fit := by rw [hm2]; exact f1 i (by omega)
    have hr2 := hf2.rg
    have hobx : ∃ x, x = R.xs[i] := ⟨_, rfl⟩
    obtain ⟨x, hxd⟩ := hobx
    have hxi : R.xs[i]? = some x := by rw [List.getElem?_eq_getElem hlt, hxd]
    have hxm := List.mem_of_getElem? hxi
    have hxw : x.v.wf := hRf.vs _ (List.mem_map_of_mem hxm)
    have hgd := getD_v hxi
    have hst : upto (Mg.rlapse now R.m.l) R.m (i + 1) = R2.m.rlapse now R.m.l i := by rw [hm2]; rfl
    have hobt := h.l.at (i := i) (by simpa using hlt)
    obtain ⟨b, o, cs, q, hb, u0, u2, u3⟩ := hobt
    have u1 := x2.get hwf u0
    rw [List.getElem_map, ← hxd] at u3
    have xl := vw_len x
    have xo := vw_one x
    have xt := vw_take x
    have xz := vw_z x
    have e22 : x.enc[22]'(by omega) = .int .i64 x.new.s.k.lsp := rfl
    have e30 : x.enc[30]'(by omega) = .int .i64 x.wait := rfl
    have xn := vw_new x
    have hobx : ∃ A3, A3 = A2.alloc (.row x.enc 107 false) := ⟨_, rfl⟩
    obtain ⟨A3, hA3⟩ := hobx
    have w3 : A3.wf := by rw [hA3]; exact AH.wf_alloc w2 _
    have n3 : A3.next = A2.next + 1 := by rw [hA3]; rfl
    have x3 : Ext A2 A3 := by rw [hA3]; exact Ext.alloc A2 _
    have gx3 : A3.get A2.next = some (.row x.enc 107 false) := by rw [hA3, AH.get_new]
    have g03 := x3.get w2 g02
    have g13 := x3.get w2 g12
    have h3 := hR2.ext w2 x3
    have x03 := x2.trans (by omega) x3
    have stay : lateB x.v now = false → MB A A3 (upto (Mg.rlapse now R.m.l) R.m (i + 1)) := fun hn => ⟨R2, h3, by rw [hst]; unfold Mg.rlapse; rw [hgd, if_neg (by rw [hn]; decide)], x03, by omega, w3, g03, _, g13, rfl⟩
    by_cases k1 : x.new.s.k.lsp = 0
    · simp [E8, E9, hlt, hlt', hb, u1, u2, u3, xl, xz, ← hA3, gx3, e22, k1, hgi]
      refine ⟨xo, ?_⟩
      exact NX.of ⟨k - 1, by omega, i + 1, by omega, stay (by simp [lateB, VwM.v, k1]), by simp [E1], by simp [E2], by simp [E3], by simp [E6], by simp [E8, hb], by simp⟩
    by_cases k2 : x.wait < now
    rotate_left
    · simp [E1, E8, E9, hlt, hlt', hb, u1, u2, u3, xl, xz, ← hA3, gx3, e22, e30, k1, k2, hgi]
      refine ⟨xo, ?_⟩
      exact NX.of ⟨k - 1, by omega, i + 1, by omega, stay (by simp [lateB, VwM.v, k2]), by simp [E1], by simp [E2], by simp [E3], by simp [E6], by simp [E8, hb], by simp⟩
    have hne : ¬ A2.next = A.next := by omega
    have hne' : ¬ A.next = A2.next := by omega
    have rl2 := rg_len R2
    simp [E1, E3, E8, E9, hlt, hlt', hb, u1, u2, u3, xl, xz, ← hA3, gx3, e22, e30, k1, k2, g03, rl2, rg_take, xt, xn]
    refine ⟨xo, ?_⟩
    refine CN.use (rstop_ok h3 x x.new (by have := hr2.acs; omega)) ?_
    rintro _ A4 hw4 hn4 ⟨x4, R4, rfl, hR4, hm4, lb4⟩
    have rl4 := rg_len R4
    have ml4 := RgP.m_len hm4
    have g04 := x4.get w3 g03
    have gx4 := x4.get w3 gx3
    have hobx : ∃ v : VwM, v = { x with new := lmZ } := ⟨_, rfl⟩
    obtain ⟨v, hv⟩ := hobx
    have vl := vw_len v
    have vt := vw_take v
    have sv : spl x.enc 19 [Value.int .i64 0, .int .i64 0, .int .i64 0, .int .i64 0, .int .u64 0, .int .i64 0, .int .i64 0, .int .u32 0, .int .u32 0, .int .u32 0, .slice none 0 0] = v.enc := by rw [hv]; rfl
    have hobx : ∃ A5, A5 = (A4.set A.next (.row R4.enc 32 false)).set A2.next (.row v.enc 107 false) := ⟨_, rfl⟩
    obtain ⟨A5, hA5⟩ := hobx
    have w5 : A5.wf := by rw [hA5]; exact AH.wf_set (AH.wf_set hw4 (by omega) _) (by simp; omega) _
    have n5 : A5.next = A4.next := by rw [hA5]; rfl
    have x05 : Ext A A5 := by rw [hA5]; exact ((x03.trans (by omega) x4).setnew (by omega) _).setnew (by omega) _
    have g05 : A5.get A.next = some (.row R4.enc 32 false) := by rw [hA5, AH.get_set, if_neg hne', AH.get_set, if_pos rfl]
    have gv5 : A5.get A2.next = some (.row v.enc 107 false) := by rw [hA5, AH.get_set, if_pos rfl]
    have g15 : A5.get (A.next + 1) = some (.row [Value.int .i64 0, .int .i64 0, .slice none 0 0, .int .i64 0, .slice none 0 0, .slice none 0 0] 32 false) := by rw [hA5, AH.get_set, if_neg (by omega), AH.get_set, if_neg (by omega)]; exact x4.get w3 g13
    have hR5 : R4.ok A5 := by
      rw [hA5]
      exact (hR4.box g04 (by decide) _).vbox (by rw [AH.get_set, if_neg hne]; exact gx4) (lb4 _ (by omega) (hR2.lbs w2 (Nat.le_refl _))) _
    have vok : v.ok A5 := by rw [hv]; exact ⟨(h.lo x hxm).1.fr (FrT.ext hwf x05), lmZ_ok _⟩
    simp [E1, E3, g04, rl4, rl2, rg_spl, gx4, hne, hne', xl, sv, ← hA5, g05, gv5, vl, vt, rg_take]
    refine ⟨rg_one R4, ?_⟩
    refine CN.use (rfails_ok hR5 v vok now 17 (by rw [ml4.2.2.1]; have := hr2.xs2; simp [RgM.m, Mg.does]; omega) (by rw [ml4.2.1]; have := hr2.lns; simp [RgM.m, Mg.does]; omega) hmn (by rw [ml4.2.2.2.1]; exact hr2.hd) (by rw [hv]; exact hxw.1)) ?_
    rintro _ A6 hw6 hn6 ⟨x6, R6, rfl, hR6, hm6, lb6⟩
    have g06 := x6.get w5 g05
    have g16 := x6.get w5 g15
    have rl6 := rg_len R6
    simp [E3, E9, g06, rl6, rl4, rg_spl, hgi]
    refine ⟨rg_one R6, NX.of ⟨k - 1, by omega, i + 1, by omega, mb_set hR6 ?_ (x05.trans (by omega) x6) (by omega) hw6 g06 g16, by simp [E1], by simp [E2], by simp [E3], by simp [E6], by simp [E8, hb], by simp⟩⟩
    rw [hm6, hm4, hst]; unfold Mg.rlapse; rw [hgd, if_pos (by simp [lateB, VwM.v, k1, k2]), hv]; rfl
  · rintro E A2 ⟨⟨R2, hR2, hm2, x2, n2, w2, g02, _, g12, rfl⟩, E1, E2, E3, E6⟩
    have rl2 := rg_len R2
    have c2 : R2.enc[2]'(by omega) = .slice R2.la R2.xs.length R2.lc := rfl
    have hml2 : M1.l.length = R2.xs.length := by rw [← hm2]; simp [RgM.m]
    have hR2f : R2.m.fit := by rw [hm2]; exact f2 0 (Nat.zero_le _)
    simp [E3, g02, rl2, c2]
    have hl400 : R2.xs.length ≤ 400 := by have := hR2f.len; rw [hm2] at this; omega
    have hbA : ∀ b cs T ro, A2.get b = some (.row cs T ro) → T ≠ 32 → b ≠ A.next := fun b cs T ro g ht e => by
      subst e; rw [g02] at g; injection g with g; injection g with _ g _; exact ht g.symm
    refine LN.use (fun k E A' => ∃ (i : Nat), k + i = R2.xs.length ∧ MB A A' (upto (Mg.rretry now l M1.l) M1 i) ∧ A2.next ≤ A'.next ∧ (∀ b, b < A2.next → b ≠ A.next → A'.get b = A2.get b) ∧ E.get 1 = .int .i64 now ∧ E.get 2 = .slice al l.length cl ∧ E.get 3 = .pointer (some ⟨A.next, 0, none⟩) ∧ E.get 6 = .pointer (some ⟨A.next + 1, 0, none⟩) ∧ E.get 8 = .slice R2.la R2.xs.length R2.lc ∧ E.get 11 = .int .i64 i) R2.xs.length
      ⟨0, by omega, ⟨R2, hR2, hm2, x2, n2, w2, g02, _, g12, rfl⟩, Nat.le_refl _, fun b _ _ => rfl, by simp [E1], by simp [E2], by simp [E3], by simp [E6], by simp, by simp⟩ ?_
    clear E1 E2 E3 E6 E
    rintro k E A3 - - ⟨i, hi, ⟨R3, hR3, hm3, x3, n3', w3, g03, _, g13, rfl⟩, n23, k23, E1, E2, E3, E6, E8, E11⟩
    have rl3 := rg_len R3
    by_cases hlt : i < R2.xs.length
    rotate_left
    · have hlt' : ¬ (i : Int) < R2.xs.length := by omega
      obtain rfl : i = R2.xs.length := by omega
      simp [E3, E6, E8, E11, hlt', g03, g13, rl3, rg_take, rg_z]
      refine ⟨rg_one R3, DN.of ?_⟩
      rw [hev, hml2, ← hm3]; exact rgr_fin (m := (R3.m, 0)) x3 (by omega) g13 hR3 rfl
    have hlt' : (i : Int) < R2.xs.length := by omega
    have hgi : IntKind.i64.wrap ((i : Int) + 1) = ((i + 1 : Nat) : Int) := by rw [i64_in (by omega) (by omega)]; simp
    have hf3 : R3.m.fit := by rw [hm3]; exact f2 i (by omega)
    have hr3 := hf3.rg
    have hobx : ∃ x, x = R2.xs[i] := ⟨_, rfl⟩
    obtain ⟨x, hxd⟩ := hobx
    have hxi : R2.xs[i]? = some x := by rw [List.getElem?_eq_getElem hlt, hxd]
    have hxm := List.mem_of_getElem? hxi
    have hxw : x.v.wf := hR2f.vs _ (List.mem_map_of_mem hxm)
    have hgd : M1.l.getD i vwZ = x.v := by rw [← hm2]; exact getD_v hxi
    have hst : upto (Mg.rretry now l M1.l) M1 (i + 1) = R3.m.rretry now l M1.l i := by rw [hm3]; rfl
    have hobt := hR2.l.at (i := i) (by simpa using hlt)
    obtain ⟨b, o, cs, q, hb, u0, u2, u3⟩ := hobt
    have hqT : b ≠ A.next := by
      have hobt := hR2.tl b o hb
      obtain ⟨cs', ro', g⟩ := hobt
      exact hbA b cs' _ ro' g (by decide)
    have u1 : A3.get b = some (.row cs q.1 q.2) := by rw [k23 b (w2 _ _ u0) hqT]; exact u0
    rw [List.getElem_map, ← hxd] at u3
    have xok3 : x.ok A3 := by
      have hi : ∀ b cs ro, A2.get b = some (.row cs 3 ro) → A3.get b = A2.get b := fun b cs ro g => k23 b (w2 _ _ g) (hbA b cs _ ro g (by decide))
      exact ⟨(hR2.lo x hxm).1.int hi, (hR2.lo x hxm).2.int hi⟩
    have xl := vw_len x
    have xo := vw_one x
    have xt := vw_take x
    have xz := vw_z x
    have e30 : x.enc[30]'(by omega) = .int .i64 x.wait := rfl
    have hobx : ∃ A4, A4 = A3.alloc (.row x.enc 107 false) := ⟨_, rfl⟩
    obtain ⟨A4, hA4⟩ := hobx
    have w4 : A4.wf := by rw [hA4]; exact AH.wf_alloc w3 _
    have n4 : A4.next = A3.next + 1 := by rw [hA4]; rfl
    have x4 : Ext A3 A4 := by rw [hA4]; exact Ext.alloc A3 _
    have gx4 : A4.get A3.next = some (.row x.enc 107 false) := by rw [hA4, AH.get_new]
    have fin : ∀ {A5 : AH}, A5.wf → A4.next ≤ A5.next → Ext A4 A5 → MB A A5 R3.m ∧ A2.next ≤ A5.next ∧ ∀ b, b < A2.next → b ≠ A.next → A5.get b = A2.get b := fun {A5} w5 n5 x5 => by
      have x35 := x4.trans (by omega) x5
      exact ⟨⟨R3, hR3.ext w3 x35, rfl, x3.trans (by omega) x35, by omega, w5, x35.get w3 g03, _, x35.get w3 g13, rfl⟩, by omega, fun b h1 h2 => by rw [x35 b (by omega), k23 b h1 h2]⟩
    have stay : ¬ (lacksB x.v = true ∧ x.v.wait ≤ now ∧ busyB R3.m = false) → upto (Mg.rretry now l M1.l) M1 (i + 1) = R3.m := fun hn => by rw [hst]; unfold Mg.rretry; rw [hgd, if_neg hn]
    simp [E1, E2, E3, E6, E8, E11, hlt, hlt', hb, u1, u2, u3, xl, xt, xz, ← hA4, gx4]
    refine ⟨xo, ?_⟩
    refine CN.use (rlacks_ok x A4) ?_
    rintro _ A5 hw5 hn5 ⟨x5, rfl⟩
    have gx5 := x5.get w4 gx4
    have g05 := x5.get w4 (x4.get w3 g03)
    have h35 := (hR3.ext w3 x4).ext w4 x5
    by_cases k1 : lacksB x.v = true
    rotate_left
    · obtain ⟨a1, a2, a3⟩ := fin hw5 hn5 x5
      simp [k1, E11, hgi]
      exact NX.of ⟨k - 1, by omega, i + 1, by omega, by rw [stay (fun h => k1 h.1)]; exact a1, a2, a3, by simp [E1], by simp [E2], by simp [E3], by simp [E6], by simp [E8, hb], by simp⟩
    by_cases k2 : x.wait ≤ now
    rotate_left
    · obtain ⟨a1, a2, a3⟩ := fin hw5 hn5 x5
      simp [k1, gx5, xl, e30, E1, k2, E11, hgi]
      exact NX.of ⟨k - 1, by omega, i + 1, by omega, by rw [stay (fun h => k2 h.2.1)]; exact a1, a2, a3, by simp [E1], by simp [E2], by simp [E3], by simp [E6], by simp [E8, hb], by simp⟩
    simp [k1, gx5, xl, e30, E1, E3, k2, g05, rl3, rg_take]
    refine CN.use (rbusy_ok h35 hr3.xs) ?_
    rintro _ A6 hw6 hn6 ⟨x6, rfl⟩
    have x46 := x5.trans hn5 x6
    by_cases k3 : busyB R3.m = true
    · obtain ⟨a1, a2, a3⟩ := fin hw6 (by omega) x46
      simp [k1, k2, k3, E11, hgi]
      exact NX.of ⟨k - 1, by omega, i + 1, by omega, by rw [stay (fun h => by rw [k3] at h; cases h.2.2)]; exact a1, a2, a3, by simp [E1], by simp [E2], by simp [E3], by simp [E6], by simp [E8, hb], by simp⟩
    have gx6 := x6.get hw5 gx5
    have g06 := x6.get hw5 g05
    have h36 := h35.ext hw5 x6
    have xok6 : x.ok A6 := VwM.ok.fr xok3 (FrT.ext w3 (x4.trans (by omega) x46))
    have x06 := x3.trans (by omega) (x4.trans (by omega) x46)
    simp [k1, k2, k3, E1, E2, E3, g06, rl3, rg_take, gx6, xl, xt]
    refine CN.use (rtries_ok (cl := cl) h36 x xok6 now hr3.xs (by have := hr3.lns; omega) (by have := hr3.acs; omega) hmn hr3.hd hxw.1 hr3.cnt (ask_wf hxw xok6.1.2.2) (hl.ext hwf x06) hx hln) ?_
    rintro _ A7 hw7 hn7 ⟨x7, R7, rfl, hR7, hm7, lb7⟩
    have g07 := x7.get hw6 g06
    have g17 := x7.get hw6 (x46.get w4 (x4.get w3 g13))
    have rl7 := rg_len R7
    have x37 := (x4.trans (by omega) x46).trans (by omega) x7
    simp [E3, E11, g07, rl7, rl3, rg_spl, hgi]
    refine ⟨rg_one R7, NX.of ⟨k - 1, by omega, i + 1, by omega, mb_set hR7 ?_ (x06.trans (by omega) x7) (by omega) hw7 g07 g17, by simp; omega, fun b h1 h2 => by rw [AH.get_set, if_neg h2, x37 b (by omega), k23 b h1 h2], by simp [E1], by simp [E2], by simp [E3], by simp [E6], by simp [E8, hb], by simp⟩⟩
    rw [hm7, hst]; unfold Mg.rretry; rw [hgd, if_pos ⟨k1, k2, by simpa using k3⟩]
def Mg.rforget (now : Int) (L : List Vw) (m : Mg) (i : Nat) : Mg :=
  putR (if (L.getD i vwZ).now.k.lsp = 0 then m else m.says ⟨now, (L.getD i vwZ).tn, 2, 17⟩) { L.getD i vwZ with now := lsZ, new := lsZ, wait := now + 1, back := 1 }
def Mg.rrestart (m : Mg) (now : Int) : Mg × Int :=
  if mayB now = false then (m, 2) else (upto (Mg.rforget now m.l) { m with acts := [] } m.l.length, 0)
set_option maxHeartbeats 16000000 in
theorem rrestart_ok {A : AH} {R : RgM} (h : R.ok A) (now : Int) (f1 : ∀ i, i ≤ R.m.l.length → (upto (Mg.rforget now R.m.l) { R.m with acts := [] } i).fit) : ACall Tryz.prog 32 [.agg R.enc.toArray, .int .i64 now] A fun r A' => RgR A (R.m.rrestart now) r A' := by
  have ro := rg_one R
  have rl := rg_len R
  have hRf : { R.m with acts := [] }.fit := f1 0 (Nat.zero_le _)
  have hml : R.m.l.length = R.xs.length := by simp [RgM.m]
  have hl400 : R.xs.length ≤ 400 := by have := hRf.len; rw [← hml]; exact this
  have r2 : R.enc[2]'(by omega) = .slice R.la R.xs.length R.lc := rfl
  refine ACall.wf fun hwf => ?_
  have hobx : ∃ A1, A1 = (A.alloc (.row R.enc 32 false)).alloc (.row [Value.int .i64 0, .int .i64 0, .slice none 0 0, .int .i64 0, .slice none 0 0, .slice none 0 0] 32 false) := ⟨_, rfl⟩
  obtain ⟨A1, hA1⟩ := hobx
  have w1 : A1.wf := by rw [hA1]; exact AH.wf_alloc (AH.wf_alloc hwf _) _
  have n1 : A1.next = A.next + 2 := by rw [hA1]; rfl
  have x1 : Ext A A1 := by rw [hA1]; exact (Ext.alloc A _).app (by simp) _
  have g0 : A1.get A.next = some (.row R.enc 32 false) := by rw [hA1]; simp [AH.get_alloc]
  have g2 : A1.get (A.next + 1) = some (.row [Value.int .i64 0, .int .i64 0, .slice none 0 0, .int .i64 0, .slice none 0 0, .slice none 0 0] 32 false) := by rw [hA1]; simp [AH.get_alloc]
  have h1 := h.ext hwf x1
  refine code32.call (by simp) fun hwf => ?_
  unfold c32
  simp [rl, rg_len, ← hA1]
  refine CN.use (tickable_ok now A1) ?_
  rintro _ A1' - - ⟨rfl, rfl⟩
  by_cases e1 : mayB now = true
  rotate_left
  · simp [e1, g0, g2, rl, rg_take, rg_z]
    have hev : R.m.rrestart now = (R.m, 2) := by unfold Mg.rrestart; rw [if_pos (by simpa using e1)]
    exact ⟨ro, DN.of (by rw [hev]; exact rgr_fin (m := (R.m, 2)) x1 (by omega) g2 h1 rfl)⟩
  have hmn : 0 ≤ now ∧ now ≤ 1099511627766 := by simpa [mayB] using e1
  have hnw : IntKind.i64.wrap (now + 1) = now + 1 := i64_in (by omega) (by omega)
  have hev : R.m.rrestart now = (upto (Mg.rforget now R.m.l) { R.m with acts := [] } R.xs.length, 0) := by unfold Mg.rrestart; rw [if_neg (by simp [e1]), hml]
  have hobx : ∃ S : RgM, S = { R with acs := [], aa := none, ac := 0 } := ⟨_, rfl⟩
  obtain ⟨S, hS⟩ := hobx
  have sp : spl R.enc 4 [.slice none 0 0] = S.enc := by rw [hS]; rfl
  have slen := rg_len S
  have hSm : S.m = { R.m with acts := [] } := by rw [hS]; rfl
  have hS1 : S.ok A1' := by rw [hS]; exact ⟨h1.l, h1.lo, Sl.nil Pla.no _ _ _, by simp, h1.n, h1.tl, (fun b o e => by cases e), h1.tn⟩
  simp [e1, g0, rl, r2, sp]
  refine LN.use (fun k E A' => ∃ (i : Nat), k + i = R.xs.length ∧ MB A A' (upto (Mg.rforget now R.m.l) { R.m with acts := [] } i) ∧ E.get 1 = .int .i64 now ∧ E.get 2 = .pointer (some ⟨A.next, 0, none⟩) ∧ E.get 4 = .pointer (some ⟨A.next + 1, 0, none⟩) ∧ E.get 6 = .slice R.la R.xs.length R.lc ∧ E.get 7 = .int .i64 i) R.xs.length
    ⟨0, by omega, mb_set hS1 hSm x1 (by omega) w1 g0 g2, by simp, by simp, by simp, by simp, by simp⟩ ?_
  rintro k E A2 - - ⟨i, hi, ⟨R2, hR2, hm2, x2, n2, w2, g02, _, g12, rfl⟩, E1, E2, E4, E6, E7⟩
  have rl2 := rg_len R2
  by_cases hlt : i < R.xs.length
  rotate_left
  · have hlt' : ¬ (i : Int) < R.xs.length := by omega
    obtain rfl : i = R.xs.length := by omega
    simp [E2, E4, E6, E7, hlt', g02, g12, rl2, rg_take, rg_z]
    refine ⟨rg_one R2, DN.of ?_⟩
    rw [hev, ← hm2]; exact rgr_fin (m := (R2.m, 0)) x2 (by omega) g12 hR2 rfl
  have hlt' : (i : Int) < R.xs.length := by omega
  have hgi : IntKind.i64.wrap ((i : Int) + 1) = ((i + 1 : Nat) : Int) := by rw [i64_in (by omega) (by omega)]; simp
  have hf2 : R2.m.fit := by rw [hm2]; exact f1 i (by omega)
  have hr2 := hf2.rg
  have hx2 := hr2.xs
  have hl2 := hr2.lns
  have hobx : ∃ x, x = R.xs[i] := ⟨_, rfl⟩
  obtain ⟨x, hxd⟩ := hobx
  have hxi : R.xs[i]? = some x := by rw [List.getElem?_eq_getElem hlt, hxd]
  have hxm := List.mem_of_getElem? hxi
  have hgd := getD_v hxi
  have hst : upto (Mg.rforget now R.m.l) { R.m with acts := [] } (i + 1) = R2.m.rforget now R.m.l i := by rw [hm2]; rfl
  have hobt := h.l.at (i := i) (by simpa using hlt)
  obtain ⟨b, o, cs, q, hb, u0, u2, u3⟩ := hobt
  have u1 := x2.get hwf u0
  rw [List.getElem_map, ← hxd] at u3
  have xl := vw_len x
  have xo := vw_one x
  have xz := vw_z x
  have e11 : x.enc[11]'(by omega) = .int .i64 x.now.s.k.lsp := rfl
  have e0 : x.enc[0]'(by omega) = .int .i64 x.tn := rfl
  have hobx : ∃ v : VwM, v = { x with now := lmZ, new := lmZ, wait := now + 1, back := 1 } := ⟨_, rfl⟩
  obtain ⟨v, hv⟩ := hobx
  have vl := vw_len v
  have vt := vw_take v
  have s1 : spl x.enc 8 [Value.int .i64 0, .int .i64 0, .int .i64 0, .int .i64 0, .int .u64 0, .int .i64 0, .int .i64 0, .int .u32 0, .int .u32 0, .int .u32 0, .slice none 0 0] = VwM.enc { x with now := lmZ } := rfl
  have s2 : spl (VwM.enc { x with now := lmZ }) 19 [Value.int .i64 0, .int .i64 0, .int .i64 0, .int .i64 0, .int .u64 0, .int .i64 0, .int .i64 0, .int .u32 0, .int .u32 0, .int .u32 0, .slice none 0 0] = VwM.enc { x with now := lmZ, new := lmZ } := rfl
  have s3 : spl (VwM.enc { x with now := lmZ, new := lmZ }) 30 [.int .i64 (now + 1)] = VwM.enc { x with now := lmZ, new := lmZ, wait := now + 1 } := rfl
  have s4 : spl (VwM.enc { x with now := lmZ, new := lmZ, wait := now + 1 }) 31 [.int .i64 1] = v.enc := by rw [hv]; rfl
  have l1 := vw_len { x with now := lmZ }
  have l2 := vw_len { x with now := lmZ, new := lmZ }
  have l3 := vw_len { x with now := lmZ, new := lmZ, wait := now + 1 }
  have hobx : ∃ A3, A3 = A2.alloc (.row x.enc 107 false) := ⟨_, rfl⟩
  obtain ⟨A3, hA3⟩ := hobx
  have w3 : A3.wf := by rw [hA3]; exact AH.wf_alloc w2 _
  have n3 : A3.next = A2.next + 1 := by rw [hA3]; rfl
  have x3 : Ext A2 A3 := by rw [hA3]; exact Ext.alloc A2 _
  have gx3 : A3.get A2.next = some (.row x.enc 107 false) := by rw [hA3, AH.get_new]
  have g03 := x3.get w2 g02
  have g13 := x3.get w2 g12
  have h3 := hR2.ext w2 x3
  have x03 := x2.trans (by omega) x3
  have hne : ¬ A2.next = A.next := by omega
  have hne' : ¬ A.next = A2.next := by omega
  by_cases k1 : x.now.s.k.lsp = 0
  · obtain ⟨B5, hB⟩ : ∃ B5, B5 = A3.set A2.next (.row v.enc 107 false) := ⟨_, rfl⟩
    have wB5 : B5.wf := by rw [hB]; exact AH.wf_set w3 (by omega) _
    have nB5 : B5.next = A3.next := by rw [hB]; rfl
    have xB5 : Ext A B5 := by rw [hB]; exact x03.setnew (by omega) _
    have g0B : B5.get A.next = some (.row R2.enc 32 false) := by rw [hB, AH.get_set, if_neg hne']; exact g03
    have gvB : B5.get A2.next = some (.row v.enc 107 false) := by rw [hB, AH.get_set, if_pos rfl]
    have g1B : B5.get (A.next + 1) = some (.row [Value.int .i64 0, .int .i64 0, .slice none 0 0, .int .i64 0, .slice none 0 0, .slice none 0 0] 32 false) := by rw [hB, AH.get_set, if_neg (by omega)]; exact g13
    have hB5 : R2.ok B5 := by rw [hB]; exact h3.vbox gx3 (hR2.lbs w2 (Nat.le_refl _)) _
    simp [E1, E2, E6, E7, hlt, hlt', hb, u1, u2, u3, xl, xz, ← hA3, gx3, e11, k1, s1, l1, s2, l2, hnw, s3, l3, s4, ← hB, g0B, gvB, rl2, rg_take, vl, vt, hne, hne']
    refine ⟨xo, ?_⟩
    have vok : v.ok B5 := by rw [hv]; exact ⟨lmZ_ok _, lmZ_ok _⟩
    refine CN.use (rput_ok hB5 v vok (by omega)) ?_
    rintro _ A6 hw6 hn6 ⟨x6, R6, rfl, hR6, hm6, lb6⟩
    have g06 := x6.get wB5 g0B
    have g16 := x6.get wB5 g1B
    have rl6 := rg_len R6
    simp [E2, E7, g06, rl6, rl2, rg_spl, hgi]
    refine ⟨rg_one R6, ?_⟩
    exact NX.of ⟨k - 1, by omega, i + 1, by omega, mb_set hR6 (by rw [hm6, hst]; unfold Mg.rforget; rw [hgd, if_pos (show x.v.now.k.lsp = 0 from k1), hv]; rfl) (xB5.trans (by omega) x6) (by omega) hw6 g06 g16, by simp [E1], by simp [E2], by simp [E4], by simp [E6, hb], by simp⟩
  · simp [E1, E2, E6, E7, hlt, hlt', hb, u1, u2, u3, xl, xz, ← hA3, gx3, e11, e0, k1, g03, rl2, rg_take]
    refine ⟨xo, ?_⟩
    refine CN.use (rline_ok h3 now x.tn 2 17 (by omega)) ?_
    rintro _ A4 hw4 hn4 ⟨x4, R4, rfl, hR4, hm4, lb4⟩
    have rl4 := rg_len R4
    have ml4 := RgP.m_len hm4
    have hx4 : R4.xs.length ≤ 1000 := by rw [ml4.2.2.1]; simpa [RgM.m, Mg.says] using hx2
    have g04 := x4.get w3 g03
    have gx4 := x4.get w3 gx3
    have g14 := x4.get w3 g13
    have hobx : ∃ C4, C4 = A4.set A.next (.row R4.enc 32 false) := ⟨_, rfl⟩
    obtain ⟨C4, hC⟩ := hobx
    have wC : C4.wf := by rw [hC]; exact AH.wf_set hw4 (by omega) _
    have nC : C4.next = A4.next := by rw [hC]; rfl
    have xC : Ext A C4 := by rw [hC]; exact (x03.trans (by omega) x4).setnew (by omega) _
    have g0C : C4.get A.next = some (.row R4.enc 32 false) := by rw [hC, AH.get_set, if_pos rfl]
    have gxC : C4.get A2.next = some (.row x.enc 107 false) := by rw [hC, AH.get_set, if_neg hne]; exact gx4
    have g1C : C4.get (A.next + 1) = some (.row [Value.int .i64 0, .int .i64 0, .slice none 0 0, .int .i64 0, .slice none 0 0, .slice none 0 0] 32 false) := by rw [hC, AH.get_set, if_neg (by omega)]; exact g14
    have hRC : R4.ok C4 := by rw [hC]; exact hR4.box g04 (by decide) _
    have hobx : ∃ B5, B5 = C4.set A2.next (.row v.enc 107 false) := ⟨_, rfl⟩
    obtain ⟨B5, hB⟩ := hobx
    have wB5 : B5.wf := by rw [hB]; exact AH.wf_set wC (by omega) _
    have nB5 : B5.next = C4.next := by rw [hB]; rfl
    have xB5 : Ext A B5 := by rw [hB]; exact xC.setnew (by omega) _
    have g0B : B5.get A.next = some (.row R4.enc 32 false) := by rw [hB, AH.get_set, if_neg hne']; exact g0C
    have gvB : B5.get A2.next = some (.row v.enc 107 false) := by rw [hB, AH.get_set, if_pos rfl]
    have g1B : B5.get (A.next + 1) = some (.row [Value.int .i64 0, .int .i64 0, .slice none 0 0, .int .i64 0, .slice none 0 0, .slice none 0 0] 32 false) := by rw [hB, AH.get_set, if_neg (by omega)]; exact g1C
    have hB5 : R4.ok B5 := by rw [hB]; exact hRC.vbox gxC (lb4 _ (by omega) (hR2.lbs w2 (Nat.le_refl _))) _
    simp [E1, E2, g04, rl4, rl2, rg_spl, ← hC, gxC, xl, s1, l1, s2, l2, hnw, s3, l3, s4, ← hB, g0B, gvB, rg_take, vl, vt, hne, hne']
    refine ⟨rg_one R4, ?_⟩
    have vok : v.ok B5 := by rw [hv]; exact ⟨lmZ_ok _, lmZ_ok _⟩
    refine CN.use (rput_ok hB5 v vok (by omega)) ?_
    rintro _ A6 hw6 hn6 ⟨x6, R6, rfl, hR6, hm6, lb6⟩
    have g06 := x6.get wB5 g0B
    have g16 := x6.get wB5 g1B
    have rl6 := rg_len R6
    simp [E2, E7, g06, rl6, rl4, rg_spl, hgi]
    refine ⟨rg_one R6, ?_⟩
    exact NX.of ⟨k - 1, by omega, i + 1, by omega, mb_set hR6 (by rw [hm6, hm4, hst]; unfold Mg.rforget; rw [hgd, if_neg (show ¬ x.v.now.k.lsp = 0 from k1), hv]; rfl) (xB5.trans (by omega) x6) (by omega) hw6 g06 g16, by simp [E1], by simp [E2], by simp [E4], by simp [E6, hb], by simp⟩
def tns (m : Mg) : List Int := m.l.map Vw.tn
def Srt (m : Mg) : Prop := m.l.Pairwise fun u v => u.tn < v.tn
theorem Srt.iff {m : Mg} : Srt m ↔ (tns m).Pairwise (· < ·) := by unfold Srt tns; rw [List.pairwise_map]
theorem Srt.of {m m' : Mg} (h : Srt m) (e : tns m' = tns m) : Srt m' := by rw [Srt.iff, e, ← Srt.iff]; exact h
theorem putW_true {v : Vw} : ∀ {l : List Vw}, (∀ u ∈ l, u.tn ≠ v.tn) → putW v l true = l
  | [], _ => rfl
  | u :: l, h => by
    have hu := h u List.mem_cons_self
    simp only [putW]
    rw [if_neg (by simp), if_pos hu, Bool.true_or, putW_true fun w hw => h w (List.mem_cons_of_mem _ hw)]; rfl
theorem putW_set {v u : Vw} : ∀ {l : List Vw} {i : Nat}, l.Pairwise (fun u v => u.tn < v.tn) → l[i]? = some u → v.tn = u.tn → putW v l false = l.set i v
  | [], i, _, h, _ => by simp at h
  | w :: l, 0, hp, h, e => by
    injection h with h; subst h
    have hobt := List.pairwise_cons.1 hp
    obtain ⟨h1, -⟩ := hobt
    simp only [putW]
    rw [if_pos (by simp; omega), if_neg (by omega), show (false || decide (v.tn ≤ w.tn)) = true by simp; omega, putW_true fun x hx => by have := h1 x hx; omega]; rfl
  | w :: l, i + 1, hp, h, e => by
    have hobt := List.pairwise_cons.1 hp
    obtain ⟨h1, h2⟩ := hobt
    have h : l[i]? = some u := by simpa using h
    have hw := h1 u (List.mem_of_getElem? h)
    simp only [putW]
    rw [if_neg (by omega), if_pos (by omega), show (false || decide (v.tn ≤ w.tn)) = false by simp; omega, putW_set h2 h e]; rfl
theorem putW_ins {v : Vw} : ∀ {l : List Vw}, l.Pairwise (fun u v => u.tn < v.tn) → (∀ u ∈ l, u.tn ≠ v.tn) → putW v l false = l.take (posL l v.tn) ++ v :: l.drop (posL l v.tn)
  | [], _, _ => rfl
  | w :: l, hp, h => by
    have hobt := List.pairwise_cons.1 hp
    obtain ⟨h1, h2⟩ := hobt
    have hw := h w List.mem_cons_self
    have hl : ∀ u ∈ l, u.tn ≠ v.tn := fun u hu => h u (List.mem_cons_of_mem _ hu)
    simp only [putW, posL]
    by_cases e : w.tn < v.tn
    · rw [if_neg (by omega), if_pos hw, show (false || decide (v.tn ≤ w.tn)) = false by simp; omega, putW_ins h2 hl, if_pos e]; rfl
    · rw [if_pos (by simp; omega), if_pos hw, show (false || decide (v.tn ≤ w.tn)) = true by simp; omega, putW_true hl, if_neg e]; rfl
theorem pos_at {u : Vw} : ∀ {l : List Vw} {i : Nat}, l.Pairwise (fun u v => u.tn < v.tn) → l[i]? = some u → posL l u.tn = i
  | [], i, _, h => by simp at h
  | w :: l, 0, hp, h => by
    injection h with h; subst h
    simp only [posL]; rw [if_neg (by omega)]
  | w :: l, i + 1, hp, h => by
    have hobt := List.pairwise_cons.1 hp
    obtain ⟨h1, h2⟩ := hobt
    have h : l[i]? = some u := by simpa using h
    have hw := h1 u (List.mem_of_getElem? h)
    simp only [posL]; rw [if_pos hw, pos_at h2 h]
theorem isL_of {l : List Vw} {i : Nat} {u : Vw} (hp : l.Pairwise (fun u v => u.tn < v.tn)) (h : l[i]? = some u) : isL l u.tn = true := by
  unfold isL; rw [pos_at hp h, h]; simp
theorem has_is {m : Mg} (h : Srt m) (n : Int) : hasT m n = isL m.l n := by
  cases hh : isL m.l n
  · unfold hasT
    rw [List.any_eq_false]
    intro v hv hc
    have e := of_decide_eq_true hc
    have hobt := List.getElem?_of_mem hv
    obtain ⟨i, hi⟩ := hobt
    have := isL_of h hi
    rw [e, hh] at this; cases this
  · obtain ⟨v, hv, hn⟩ := isL_at hh
    exact List.any_eq_true.2 ⟨v, List.mem_of_getElem? hv, decide_eq_true hn⟩
structure Like (m m' : Mg) (i : Nat) (t : Int) : Prop where
  n : m'.n = m.n
  hd : m'.head = m.head
  cnt : m'.count = m.count
  acts : m'.acts = m.acts
  lines : m'.lines = m.lines
  put : ∀ w : Vw, w.tn = t → putW w m.l false = m'.l.set i w
theorem Like.putR {m m' : Mg} {i : Nat} {t : Int} (h : Like m m' i t) {w : Vw} (hw : w.tn = t) : putR m w = m'.put i w := by
  unfold AC.putR Mg.put; rw [h.put w hw, h.n, h.hd, h.cnt, h.acts, h.lines]
theorem Like.self {m : Mg} (h : Srt m) {i : Nat} {u : Vw} (hu : m.l[i]? = some u) : Like m m i u.tn := ⟨rfl, rfl, rfl, rfl, rfl, fun w hw => putW_set h hu hw⟩
theorem Like.ins {m : Mg} (h : Srt m) {v : Vw} (hv : isL m.l v.tn = false) : Like m (m.insV (posL m.l v.tn) v) (posL m.l v.tn) v.tn := ⟨rfl, rfl, rfl, rfl, rfl, fun w hw => by
  have hn : ∀ u ∈ m.l, u.tn ≠ w.tn := fun u hu e => by
    have hobt := List.getElem?_of_mem hu
    obtain ⟨j, hj⟩ := hobt
    have := isL_of h hj
    rw [e, hw, hv] at this; cases this
  rw [putW_ins h hn, hw]
  show _ = (m.l.take _ ++ v :: m.l.drop _).set _ w
  rw [List.set_append_right _ _ (by rw [List.length_take]; exact Nat.min_le_left _ _), List.length_take, Nat.min_eq_left (posL_le _ _), Nat.sub_self]; rfl⟩
theorem Like.fails {m m' : Mg} {i : Nat} {v : Vw} (h : Like m m' i v.tn) (now code : Int) : m.rfails v now code = m'.fails i v now code := by
  unfold Mg.rfails Mg.fails
  rw [h.hd, h.putR (w := { v with wait := now + v.back + m.head, back := min (2 * v.back) 8 }) rfl]
theorem Like.up {m m' : Mg} {i : Nat} {t : Int} (h : Like m m' i t) : Like { m with count := m.count + 1 } { m' with count := m'.count + 1 } i t := ⟨h.n, h.hd, by show m'.count + 1 = m.count + 1; rw [h.cnt], h.acts, h.lines, h.put⟩
theorem Like.tries {m m' : Mg} {i : Nat} {v : Vw} (h : Like m m' i v.tn) (now : Int) (l : List Adv) : m.rtries v now l = m'.tries i v now l := by
  unfold Mg.rtries Mg.tries
  simp only
  rw [h.n, h.hd, h.cnt]
  have hobx : ∃ f, f = FN m.n l (askV v) m.head v.tl := ⟨_, rfl⟩
  obtain ⟨f, hf⟩ := hobx
  rw [← hf]
  by_cases h0 : f.1 = 0
  · by_cases h7 : 65535 ≤ m.count
    · rw [if_neg (by simp [h0]), if_pos h7, if_pos (show f.1 = 0 ∧ 65535 ≤ m.count from ⟨h0, h7⟩), if_pos (by decide), h.fails]
    · rw [if_neg (by simp [h0]), if_neg h7, if_neg (show ¬ (f.1 = 0 ∧ 65535 ≤ m.count) from fun x => h7 x.2), if_neg (by simp [h0])]
      have hu := h.up.putR (w := { v with new := ⟨⟨v.tl, v.tn, m.head, m.count + 1⟩, v.w, f.2⟩, wait := now + 10 }) rfl
      rw [h.cnt, h.n, h.hd] at hu
      rw [hu]
  · rw [if_pos h0, if_neg (show ¬ (f.1 = 0 ∧ 65535 ≤ m.count) from fun x => h0 x.1), if_pos h0, h.fails]
theorem stop_yes {m : Mg} {tn : Int} {x : Ls} (h : x.k.lsp ≠ 0) : m.stop tn x = m.does ⟨2, tn, x.k, wtZ, []⟩ := if_neg h
theorem Srt.same {m m' : Mg} (h : Srt m) (e : m'.l = m.l) : Srt m' := by unfold Srt; rw [e]; exact h
theorem fails_put {m : Mg} {i : Nat} {v w : Vw} (now code : Int) : (m.put i w).fails i v now code = m.fails i v now code := by
  unfold Mg.fails
  rw [show (m.put i w).head = m.head from rfl, Mg.put_put]
theorem revent_is {m : Mg} (h : Srt m) (now : Int) (e : Ev) : m.revent now e = m.event now e := by
  unfold Mg.revent Mg.event
  by_cases h1 : mayB now = false
  · rw [if_pos h1, if_pos h1]
  rw [if_neg h1, if_neg h1]
  cases ho : ownI m.l e.k with
  | none => rfl
  | some i =>
    have hobt := ownI_at ho
    obtain ⟨v, hv, hh⟩ := hobt
    have hz : e.k.lsp ≠ 0 := by simp [hitB] at hh; exact hh.1
    simp only [at_getD hv]
    have hs := Like.self h hv
    by_cases c1 : e.what = 1 ∧ v.new.k = e.k
    · rw [if_pos c1, if_pos c1]
      congr 1
      unfold Mg.rups Mg.ups Mg.stop
      simp only
      rw [hs.putR (w := { v with now := v.new, new := lsZ, back := 1 }) rfl]
    rw [if_neg c1, if_neg c1]
    by_cases c2 : e.what = 2 ∧ v.new.k = e.k
    · rw [if_pos c2, if_pos c2]
      congr 1
      rw [stop_yes (by rw [c2.2]; exact hz), fails_put]
      have h2 : Srt (m.does ⟨2, v.tn, v.new.k, wtZ, []⟩) := h
      exact (Like.self (m := m.does ⟨2, v.tn, v.new.k, wtZ, []⟩) h2 hv).fails (v := { v with new := lsZ }) now e.code
    rw [if_neg c2, if_neg c2]
    by_cases c3 : e.what = 2
    · rw [if_pos c3, if_pos c3]
      have hnk : v.now.k = e.k := by
        simp [hitB] at hh
        rcases hh.2 with e1 | e1
        · exact e1
        · exact absurd ⟨c3, e1⟩ c2
      have hnz : v.now.k.lsp ≠ 0 := by rw [hnk]; exact hz
      congr 1
      have hp := (Like.self (m := (m.does ⟨4, v.tn, kyZ, wtZ, []⟩).does ⟨2, v.tn, v.now.k, wtZ, []⟩) (show Srt m from h) hv).putR (w := { v with now := lsZ, wait := now + 1, back := 1 }) rfl
      rw [hp]
      unfold Mg.leave
      rw [if_neg hnz, stop_yes hnz, ← Mg.says_put, Mg.says_put, Mg.put_put]; rfl
    · rw [if_neg c3, if_neg c3]
theorem busy_ins {m : Mg} (i : Nat) {v : Vw} (h : v.new.k.lsp = 0) : busyB (m.insV i v) = busyB m := by
  have e : m.l = m.l.take i ++ m.l.drop i := (List.take_append_drop i m.l).symm
  unfold busyB
  show (m.l.take i ++ v :: m.l.drop i).any _ = _
  rw [e, List.take_append_drop, List.any_append, List.any_cons]
  conv => rhs; rw [e, List.any_append]
  simp [h]
theorem set_same {l : List Vw} {i : Nat} {v : Vw} (h : l[i]? = some v) : l.set i v = l := by
  apply List.ext_getElem?
  intro k
  rw [List.getElem?_set]
  split
  · rename_i e; subst e
    rw [if_pos (List.getElem?_eq_some_iff.1 h).1, h]
  · rfl
theorem rcreate_is {m : Mg} (h : Srt m) (now n tail : Int) (w : Wt) (l : List Adv) : m.rcreate now n tail w l = m.create now n tail w l := by
  unfold Mg.rcreate Mg.create
  rw [has_is h]
  split
  · rfl
  split
  · rfl
  split
  · rfl
  · rename_i h1 h2 h3
    have hi := Like.ins h (v := ⟨n, tail, w, lsZ, lsZ, now, 1⟩) (by simpa using h2)
    simp only
    congr 1
    rw [busy_ins _ rfl]
    split
    · have := hi.putR (w := ⟨n, tail, w, lsZ, lsZ, now, 1⟩) rfl
      rw [this]
      show Mg.put (m.insV (posL m.l n) ⟨n, tail, w, lsZ, lsZ, now, 1⟩) (posL m.l n) ⟨n, tail, w, lsZ, lsZ, now, 1⟩ = _
      unfold Mg.put
      have hat : (m.insV (posL m.l n) ⟨n, tail, w, lsZ, lsZ, now, 1⟩).l[posL m.l n]? = some ⟨n, tail, w, lsZ, lsZ, now, 1⟩ := insV_at (posL_le _ _) _
      rw [set_same hat]
    · exact hi.tries now l
theorem Srt.put {m : Mg} (h : Srt m) {i : Nat} {v w : Vw} (hv : m.l[i]? = some v) (e : w.tn = v.tn) : Srt (m.put i w) := by
  refine h.of ?_
  show (m.l.set i w).map Vw.tn = m.l.map Vw.tn
  apply List.ext_getElem?
  intro k
  rw [List.map_set, List.getElem?_set]
  split
  · rename_i e2; subst e2
    rw [if_pos (by rw [List.length_map]; exact (List.getElem?_eq_some_iff.1 hv).1), List.getElem?_map, hv, e]; rfl
  · rfl
theorem Srt.fails {m : Mg} (h : Srt m) {i : Nat} {v w : Vw} (hv : m.l[i]? = some v) (e : w.tn = v.tn) (now c : Int) : Srt (m.fails i w now c) := (h.put hv (w := { w with wait := now + w.back + m.head, back := min (2 * w.back) 8 }) e).same rfl
theorem Srt.tries {m : Mg} (h : Srt m) {i : Nat} {v : Vw} (hv : m.l[i]? = some v) (now : Int) (l : List Adv) : Srt (m.tries i v now l) := by
  rcases m.tries_is i v now l with ⟨e, -, h2⟩ | ⟨r, -, -, h2⟩
  · rw [h2]; exact h.fails hv rfl _ _
  · rw [h2]; exact Srt.same (m := m.put i { v with new := ⟨⟨v.tl, v.tn, m.head, m.count + 1⟩, v.w, r⟩, wait := now + 10 }) (h.put hv rfl) rfl
theorem Srt.insV {m : Mg} (h : Srt m) {v : Vw} (hv : isL m.l v.tn = false) : Srt (m.insV (posL m.l v.tn) v) := by
  have hn : ∀ u ∈ m.l, u.tn ≠ v.tn := fun u hu e => by
    have hobt := List.getElem?_of_mem hu
    obtain ⟨j, hj⟩ := hobt
    have := isL_of h hj
    rw [e, hv] at this; cases this
  have key : ∀ l : List Vw, l.Pairwise (fun u v => u.tn < v.tn) → (∀ u ∈ l, u.tn ≠ v.tn) → (l.take (posL l v.tn) ++ v :: l.drop (posL l v.tn)).Pairwise (fun u v => u.tn < v.tn) := fun l => by
    induction l with
    | nil => intro _ _; simp [posL]
    | cons w l ih =>
      intro hp hn
      have hobt := List.pairwise_cons.1 hp
      obtain ⟨h1, h2⟩ := hobt
      have hw := hn w List.mem_cons_self
      have hl : ∀ u ∈ l, u.tn ≠ v.tn := fun u hu => hn u (List.mem_cons_of_mem _ hu)
      simp only [posL]
      by_cases e : w.tn < v.tn
      · rw [if_pos e]
        refine List.pairwise_cons.2 ⟨fun u hu => ?_, ih h2 hl⟩
        rcases List.mem_append.1 hu with hu | hu
        · exact h1 u (List.mem_of_mem_take hu)
        · rcases List.mem_cons.1 hu with hu | hu
          · rw [hu]; exact e
          · exact h1 u (List.mem_of_mem_drop hu)
      · rw [if_neg e]
        refine List.pairwise_cons.2 ⟨fun u hu => ?_, hp⟩
        rcases List.mem_cons.1 hu with hu | hu
        · rw [hu]; omega
        · have := h1 u hu; omega
  exact key m.l h hn
theorem Srt.delV {m : Mg} (h : Srt m) (i : Nat) : Srt (m.delV i) := by
  have hs : (m.l.take i ++ m.l.drop (i + 1)).Sublist m.l := by
    have : (m.l.take i ++ m.l.drop (i + 1)).Sublist (m.l.take i ++ m.l.drop i) := List.Sublist.append (List.Sublist.refl _) (List.drop_sublist_drop_left _ (by omega))
    rwa [List.take_append_drop] at this
  exact List.Pairwise.sublist hs h
theorem Srt.stop {m : Mg} (h : Srt m) (tn : Int) (x : Ls) : Srt (m.stop tn x) := h.same (Mg.stop_l m tn x)
theorem rmodV_is {m : Mg} (h : Srt m) {i : Nat} {v : Vw} (hv : m.l[i]? = some v) (now : Int) (w : Wt) (l : List Adv) : m.rmodV v now w l = (if lacksB { v with w := w, new := lsZ, wait := now, back := 1 } = true ∧ busyB ((m.stop v.tn v.new).put i { v with w := w, new := lsZ, wait := now, back := 1 }) = false then ((m.stop v.tn v.new).put i { v with w := w, new := lsZ, wait := now, back := 1 }).tries i { v with w := w, new := lsZ, wait := now, back := 1 } now l else (m.stop v.tn v.new).put i { v with w := w, new := lsZ, wait := now, back := 1 }) := by
  have hv1 : (m.stop v.tn v.new).l[i]? = some v := by rw [Mg.stop_l]; exact hv
  have h1 := h.stop v.tn v.new
  have e := (Like.self h1 hv1).putR (w := { v with w := w, new := lsZ, wait := now, back := 1 }) rfl
  unfold Mg.rmodV
  simp only
  rw [show (if v.new.k.lsp = 0 then m else m.does ⟨2, v.tn, v.new.k, wtZ, []⟩) = m.stop v.tn v.new from rfl, e]
  have h2 : Srt ((m.stop v.tn v.new).put i { v with w := w, new := lsZ, wait := now, back := 1 }) := h1.put hv1 rfl
  rw [(Like.self h2 (Mg.put_at hv1)).tries (v := { v with w := w, new := lsZ, wait := now, back := 1 }) now l]
theorem rmodify_is {R : RgM} (h : Srt R.m) {now n : Int} {w : Wt} {l : List Adv} {M : Mg × Int} (hM : RMod R now n w l M) : M = R.m.modify now n w l := by
  unfold Mg.modify
  rcases hM with ⟨c, rfl⟩ | ⟨c, ⟨c2, rfl⟩ | ⟨c2, x, hx, hn, rfl⟩⟩
  · rw [if_pos c]
  · rw [if_neg c, if_pos (by rw [← has_is h]; exact c2)]
  · rw [if_neg c, if_neg (by rw [← has_is h, c2]; decide)]
    have hobt := List.getElem?_of_mem hx
    obtain ⟨j, hj⟩ := hobt
    have hv : R.m.l[j]? = some x.v := by rw [show R.m.l = R.xs.map VwM.v from rfl, List.getElem?_map, hj]; rfl
    have hp : posL R.m.l n = j := by rw [← hn]; exact pos_at h hv
    simp only [hp, at_getD hv]
    rw [rmodV_is h hv]
theorem leave_is (m : Mg) (i : Nat) (v : Vw) : m.leave i v = (if v.now.k.lsp = 0 then m else (m.does ⟨4, v.tn, kyZ, wtZ, []⟩).does ⟨2, v.tn, v.now.k, wtZ, []⟩).put i { v with now := lsZ } := by
  unfold Mg.leave Mg.stop
  split <;> rfl
theorem filter_at {n : Int} : ∀ {l : List Vw} {i : Nat} {v : Vw}, l.Pairwise (fun u v => u.tn < v.tn) → l[i]? = some v → v.tn = n → l.filter (notT n) = l.take i ++ l.drop (i + 1)
  | [], i, v, _, h, _ => by simp at h
  | w :: l, 0, v, hp, h, e => by
    injection h with h; subst h
    have hobt := List.pairwise_cons.1 hp
    obtain ⟨h1, -⟩ := hobt
    rw [List.filter_cons, if_neg (by simp [notT, e])]
    exact List.filter_eq_self.2 fun u hu => by have := h1 u hu; simp [notT]; omega
  | w :: l, i + 1, v, hp, h, e => by
    have hobt := List.pairwise_cons.1 hp
    obtain ⟨h1, h2⟩ := hobt
    have h : l[i]? = some v := by simpa using h
    have hw := h1 v (List.mem_of_getElem? h)
    rw [List.filter_cons, if_pos (by simp [notT]; omega), filter_at h2 h e]; rfl
theorem rdelete_is {R : RgM} (h : Srt R.m) {n : Int} {M : Mg × Int} (hM : RDel R n M) : M = R.m.delete n := by
  unfold Mg.delete
  rcases hM with ⟨c2, rfl⟩ | ⟨c2, x, hx, hn, rfl⟩
  · rw [if_pos (by rw [← has_is h]; exact c2)]
  · rw [if_neg (by rw [← has_is h, c2]; decide)]
    have hobt := List.getElem?_of_mem hx
    obtain ⟨j, hj⟩ := hobt
    have hv : R.m.l[j]? = some x.v := by rw [show R.m.l = R.xs.map VwM.v from rfl, List.getElem?_map, hj]; rfl
    have hp : posL R.m.l n = j := by rw [← hn]; exact pos_at h hv
    simp only [hp, at_getD hv]
    congr 1
    have hobx : ∃ v, v = x.v := ⟨_, rfl⟩
    obtain ⟨v, hvd⟩ := hobx
    rw [← hvd] at hv ⊢
    rw [leave_is, Mg.stop_put, Mg.put_put]
    have hobx : ∃ m1, m1 = if v.now.k.lsp = 0 then R.m else (R.m.does ⟨4, v.tn, kyZ, wtZ, []⟩).does ⟨2, v.tn, v.now.k, wtZ, []⟩ := ⟨_, rfl⟩
    obtain ⟨m1, hm1⟩ := hobx
    have hl1 : m1.l = R.m.l := by rw [hm1]; split <;> rfl
    have hl2 : (m1.stop v.tn v.new).l = R.m.l := by rw [Mg.stop_l, hl1]
    have hr : R.m.rdel v n = { m1.stop v.tn v.new with l := (m1.stop v.tn v.new).l.filter (notT n) } := by
      unfold Mg.rdel Mg.stop; rw [hm1]
    rw [hr, ← hm1]
    show Mg.mk _ _ _ _ _ _ = Mg.mk _ _ _ _ _ _
    rw [hl2, filter_at h hv (by rw [hvd]; exact hn)]
    congr 1
    show _ = (List.set _ j _).take j ++ (List.set _ j _).drop (j + 1)
    rw [hl2, List.take_set_of_le (Nat.le_refl _), List.drop_set_of_lt (by omega)]
theorem upto_eq {f g : Mg → Nat → Mg} {m : Mg} {L : List Vw} (hL : m.l = L) (hs : Srt m) (step : ∀ (M : Mg) (i : Nat) (v : Vw), Srt M → L[i]? = some v → M.l[i]? = some v → f M i = g M i ∧ Srt (g M i) ∧ ∃ w, (g M i).l = M.l.set i w ∨ (g M i).l = M.l) : ∀ i, i ≤ L.length → upto f m i = upto g m i ∧ Srt (upto g m i) ∧ ∀ j, i ≤ j → (upto g m i).l[j]? = L[j]?
  | 0, _ => ⟨rfl, hs, fun j _ => by show m.l[j]? = _; rw [hL]⟩
  | i + 1, hi => by
    have hobt := upto_eq hL hs step i (by omega)
    obtain ⟨h1, h2, h3⟩ := hobt
    obtain ⟨v, hv⟩ : ∃ v, L[i]? = some v := ⟨L[i]'(by omega), List.getElem?_eq_getElem (by omega)⟩
    have hobt := step (upto g m i) i v h2 hv (by rw [h3 i (Nat.le_refl _)]; exact hv)
    obtain ⟨e1, e2, w, e3⟩ := hobt
    refine ⟨by show f (upto f m i) i = g (upto g m i) i; rw [h1, e1], e2, fun j hj => ?_⟩
    show (g (upto g m i) i).l[j]? = _
    rcases e3 with e3 | e3
    · rw [e3, List.getElem?_set, if_neg (by omega), h3 j (by omega)]
    · rw [e3, h3 j (by omega)]
theorem lapse_step (now : Int) (L : List Vw) (M : Mg) (i : Nat) (v : Vw) (hs : Srt M) (h1 : L[i]? = some v) (h2 : M.l[i]? = some v) : Mg.rlapse now L M i = M.lapse now i ∧ Srt (M.lapse now i) ∧ ∃ w, (M.lapse now i).l = M.l.set i w ∨ (M.lapse now i).l = M.l := by
  unfold Mg.rlapse Mg.lapse
  simp only [at_getD h1, at_getD h2]
  by_cases hb : lateB v now = true
  · rw [if_pos hb, if_pos hb]
    have hz : v.new.k.lsp ≠ 0 := by simp [lateB] at hb; exact hb.1
    rw [stop_yes hz, fails_put]
    refine ⟨(Like.self (m := M.does ⟨2, v.tn, v.new.k, wtZ, []⟩) (show Srt M from hs) h2).fails (v := { v with new := lsZ }) now 17, ?_, ?_⟩
    · exact Srt.fails (m := M.does ⟨2, v.tn, v.new.k, wtZ, []⟩) hs h2 (w := { v with new := lsZ }) rfl now 17
    · exact ⟨_, Or.inl rfl⟩
  · rw [if_neg hb, if_neg hb]; exact ⟨rfl, hs, vwZ, Or.inr rfl⟩
theorem retry_step (now : Int) (l : List Adv) (L : List Vw) (M : Mg) (i : Nat) (v : Vw) (hs : Srt M) (h1 : L[i]? = some v) (h2 : M.l[i]? = some v) : Mg.rretry now l L M i = M.retry now l i ∧ Srt (M.retry now l i) ∧ ∃ w, (M.retry now l i).l = M.l.set i w ∨ (M.retry now l i).l = M.l := by
  unfold Mg.rretry Mg.retry
  simp only [at_getD h1, at_getD h2]
  by_cases hb : lacksB v = true ∧ v.wait ≤ now ∧ busyB M = false
  · rw [if_pos hb, if_pos hb]
    refine ⟨(Like.self hs h2).tries now l, hs.tries h2 now l, ?_⟩
    rcases M.tries_is i v now l with ⟨e, -, h3⟩ | ⟨r, -, -, h3⟩
    · rw [h3]; exact ⟨_, Or.inl rfl⟩
    · rw [h3]; exact ⟨_, Or.inl rfl⟩
  · rw [if_neg hb, if_neg hb]; exact ⟨rfl, hs, vwZ, Or.inr rfl⟩
theorem forget_step (now : Int) (L : List Vw) (M : Mg) (i : Nat) (v : Vw) (hs : Srt M) (h1 : L[i]? = some v) (h2 : M.l[i]? = some v) : Mg.rforget now L M i = M.forget now i ∧ Srt (M.forget now i) ∧ ∃ w, (M.forget now i).l = M.l.set i w ∨ (M.forget now i).l = M.l := by
  unfold Mg.rforget Mg.forget
  simp only [at_getD h1, at_getD h2]
  have hobx : ∃ m1, m1 = if v.now.k.lsp = 0 then M else M.says ⟨now, v.tn, 2, 17⟩ := ⟨_, rfl⟩
  obtain ⟨m1, hm1⟩ := hobx
  have hl1 : m1.l = M.l := by rw [hm1]; split <;> rfl
  have hs1 := hs.same hl1
  have hv1 : m1.l[i]? = some v := by rw [hl1]; exact h2
  rw [← hm1]
  exact ⟨(Like.self hs1 hv1).putR (w := { v with now := lsZ, new := lsZ, wait := now + 1, back := 1 }) rfl, hs1.put hv1 rfl, _, Or.inl (by show m1.l.set i _ = _; rw [hl1])⟩
theorem fit_of {m : Mg} (h : m.wf) (hr : m.room 21000) : m.fit := ⟨by have := h.len; omega, by have := hr.1; omega, by have := hr.2; omega, h.hd, h.cnt, h.vs⟩
theorem tick_fit {m : Mg} (hs : Srt m) (hm : m.wf) (hr : m.room 30000) (now : Int) (l : List Adv) :
    (∀ i, i ≤ m.l.length → (upto (Mg.rlapse now m.l) m i).fit) ∧ (∀ i, i ≤ (upto (Mg.rlapse now m.l) m m.l.length).l.length → (upto (Mg.rretry now l (upto (Mg.rlapse now m.l) m m.l.length).l) (upto (Mg.rlapse now m.l) m m.l.length) i).fit) ∧ m.rtick now l = m.tick now l ∧ Srt (m.tick now l).1 := by
  have hlen := hm.len
  have u1 := upto_eq (f := Mg.rlapse now m.l) (g := Mg.lapse now) rfl hs (fun M i v => lapse_step now m.l M i v)
  have i1 : ∀ i, i ≤ m.l.length → (upto (Mg.lapse now) m i).in m.l.length (22000 + (m.l.length - i) * 2) := fun i hi => upto_in (fun m k i h hi => h.lapse hi now) i hi ⟨hm, rfl, hr.le (by omega)⟩
  have hobt := u1 m.l.length (Nat.le_refl _)
  obtain ⟨e1, s1, -⟩ := hobt
  have hi := i1 m.l.length (Nat.le_refl _)
  have hobx : ∃ M, M = upto (Mg.lapse now) m m.l.length := ⟨_, rfl⟩
  obtain ⟨M, hM⟩ := hobx
  rw [← hM] at e1 s1 hi
  have u2 := upto_eq (f := Mg.rretry now l M.l) (g := Mg.retry now l) rfl s1 (fun N i v => retry_step now l M.l N i v)
  have i2 : ∀ i, i ≤ m.l.length → (upto (Mg.retry now l) M i).in m.l.length (21000 + (m.l.length - i) * 1) := fun i hi' => upto_in (fun m k i h hi => h.retry hi now l) i hi' ⟨hi.1, hi.2.1, hi.2.2.le (by omega)⟩
  refine ⟨fun i h => ?_, fun i h => ?_, ?_, ?_⟩
  · rw [(u1 i h).1]; exact fit_of (i1 i h).1 ((i1 i h).2.2.le (by omega))
  · rw [e1] at h ⊢
    rw [hi.2.1] at h
    rw [(u2 i (by rw [hi.2.1]; exact h)).1]; exact fit_of (i2 i h).1 ((i2 i h).2.2.le (by omega))
  · unfold Mg.rtick Mg.tick
    split
    · rfl
    · rw [e1, (u2 M.l.length (Nat.le_refl _)).1, hi.2.1, hM]
  · unfold Mg.tick
    split
    · exact hs
    · have := (u2 M.l.length (Nat.le_refl _)).2.1
      rw [hi.2.1] at this
      rw [← hM]; exact this
theorem restart_fit {m : Mg} (hs : Srt m) (hm : m.wf) (hr : m.room 30000) (now : Int) :
    (∀ i, i ≤ m.l.length → (upto (Mg.rforget now m.l) { m with acts := [] } i).fit) ∧ m.rrestart now = m.restart now ∧ Srt (m.restart now).1 := by
  have hlen := hm.len
  have w0 : Mg.wf { m with acts := [] } := ⟨hm.hd, hm.n, hm.cnt, hm.vs, hm.len⟩
  have r0 : Mg.room { m with acts := [] } 30000 := ⟨by show 0 + 30000 ≤ 100000; omega, hr.2⟩
  have u1 := upto_eq (f := Mg.rforget now m.l) (g := Mg.forget now) (m := { m with acts := [] }) rfl hs (fun M i v => forget_step now m.l M i v)
  have i1 : ∀ i, i ≤ m.l.length → (upto (Mg.forget now) { m with acts := [] } i).in m.l.length (22000 + (m.l.length - i) * 1) := fun i hi => upto_in (fun m k i h hi => h.forget hi now) i hi ⟨w0, rfl, r0.le (by omega)⟩
  refine ⟨fun i h => ?_, ?_, ?_⟩
  · rw [(u1 i h).1]; exact fit_of (i1 i h).1 ((i1 i h).2.2.le (by omega))
  · unfold Mg.rrestart Mg.restart
    split
    · rfl
    · rw [(u1 m.l.length (Nat.le_refl _)).1]
  · unfold Mg.restart
    split
    · exact hs
    · exact (u1 m.l.length (Nat.le_refl _)).2.1
theorem Srt.event {m : Mg} (h : Srt m) (now : Int) (e : Ev) : Srt (m.event now e).1 := by
  unfold Mg.event
  split
  · exact h
  split
  · exact h
  rename_i i hi
  have hobt := ownI_at hi
  obtain ⟨v, hv, -⟩ := hobt
  simp only [at_getD hv]
  split
  · unfold Mg.ups
    exact Srt.stop (m := ((m.put i { v with now := v.new, new := lsZ, back := 1 }).says ⟨now, v.tn, 1, 0⟩).does ⟨3, v.tn, v.new.k, wtZ, []⟩) ((h.put hv (w := { v with now := v.new, new := lsZ, back := 1 }) rfl).same rfl) _ _
  split
  · rw [fails_put]
    exact (h.stop _ _).fails (v := v) (w := { v with new := lsZ }) (by rw [Mg.stop_l]; exact hv) rfl _ _
  split
  · rw [leave_is]
    have hp := h.put hv (w := { v with now := lsZ, wait := now + 1, back := 1 }) rfl
    refine hp.same ?_
    show ((if v.now.k.lsp = 0 then m else (m.does ⟨4, v.tn, kyZ, wtZ, []⟩).does ⟨2, v.tn, v.now.k, wtZ, []⟩).l.set i _).set i _ = m.l.set i _
    rw [List.set_set]; split <;> rfl
  · exact h
theorem Srt.create {m : Mg} (h : Srt m) (now n tail : Int) (w : Wt) (l : List Adv) : Srt (m.create now n tail w l).1 := by
  unfold Mg.create
  split
  · exact h
  split
  · exact h
  split
  · exact h
  · rename_i h2 _
    have hi := h.insV (v := ⟨n, tail, w, lsZ, lsZ, now, 1⟩) (by simpa using h2)
    simp only
    split
    · exact hi
    · exact hi.tries (insV_at (posL_le _ _) _) now l
theorem Srt.modify {m : Mg} (h : Srt m) (now n : Int) (w : Wt) (l : List Adv) : Srt (m.modify now n w l).1 := by
  unfold Mg.modify
  split
  · exact h
  split
  · exact h
  · rename_i hi
    have hobt := isL_at (by simpa using hi)
    obtain ⟨v, hv, -⟩ := hobt
    simp only [at_getD hv]
    have hv1 : (m.stop v.tn v.new).l[posL m.l n]? = some v := by rw [Mg.stop_l]; exact hv
    have hp := (h.stop v.tn v.new).put hv1 (w := { v with w := w, new := lsZ, wait := now, back := 1 }) rfl
    split
    · exact hp.tries (Mg.put_at hv1) now l
    · exact hp
theorem Srt.delete {m : Mg} (h : Srt m) (n : Int) : Srt (m.delete n).1 := by
  unfold Mg.delete
  split
  · exact h
  · rename_i hi
    have hobt := isL_at (by simpa using hi)
    obtain ⟨v, hv, -⟩ := hobt
    simp only [at_getD hv]
    rw [leave_is, Mg.stop_put, Mg.put_put]
    refine Srt.delV ?_ _
    have h1 : Srt ((if v.now.k.lsp = 0 then m else (m.does ⟨4, v.tn, kyZ, wtZ, []⟩).does ⟨2, v.tn, v.now.k, wtZ, []⟩).stop v.tn v.new) := Srt.stop (by split <;> exact h) _ _
    refine h1.put (v := v) ?_ rfl
    rw [Mg.stop_l]; split <;> exact hv
theorem Srt.act {m : Mg} (h : Srt m) (hm : m.wf) (hr : m.room 30000) (x : At) : Srt (m.act x).1 := by
  unfold Mg.act Mg.actK
  split
  · exact h.event _ _
  · exact h.create _ _ _ _ _
  · exact h.modify _ _ _ _
  · exact h.delete _
  · exact (tick_fit h hm hr _ _).2.2.2
  · exact (restart_fit h hm hr _).2.2
theorem rgr_up {A A1 A2 : AH} {m : Mg × Int} {r : Value} {c : Nat} {cs : List Value} (h : RgR A1 m r A2) (x : Ext A A1) (hn : A.next ≤ A1.next) (hc : A.next ≤ c) (g : A2.get c = some (.row cs 32 false)) : ∃ R : RgM, r = .tuple #[.agg R.enc.toArray, .int .i64 m.2] ∧ RgR A m (.tuple #[.agg R.enc.toArray, .int .i64 m.2]) (A2.set c (.row R.enc 32 false)) := by
  obtain ⟨x2, R, rfl, hR, hm⟩ := h
  exact ⟨R, rfl, rgr_fin (x.trans hn x2) hc g hR hm⟩
set_option maxHeartbeats 8000000 in
theorem model_ok {A : AH} {R : RgM} (h : R.ok A) (hs : Srt R.m) (hm : R.m.wf) (hr : R.m.room 30000) (y : AtM) (hy : y.ok A) (hl : y.x.l.length ≤ 1000) : ACall Tryz.prog 8 [.agg R.enc.toArray, .agg y.enc.toArray] A fun r A' => RgR A (R.m.act y.x) r A' := by
  obtain ⟨hsl, hx, hw, hk6⟩ := hy
  have hrow : y.enc = [.int .u8 y.x.kind, .int .i64 y.x.now, .int .i64 y.x.tn, .int .i64 y.x.tl, .int .u64 y.x.w.bw, .int .i64 y.x.w.setup, .int .i64 y.x.w.hold, .int .u32 y.x.w.any, .int .u32 y.x.w.all, .int .u32 y.x.w.no, .int .i64 y.x.e.what, .int .i64 y.x.e.k.tail, .int .i64 y.x.e.k.tunnel, .int .i64 y.x.e.k.head, .int .i64 y.x.e.k.lsp, .int .i64 y.x.e.code, .slice y.a y.x.l.length y.c] := rfl
  have hf : R.fit := (fit_of hm (hr.le (by omega))).rg
  refine ACall.wf fun hwf => ?_
  have rl := rg_len R
  have ro := rg_one R
  have hmod : y.x.kind % 6 < 6 := Nat.mod_lt _ (by omega)
  have hobx : ∃ k, k = y.x.kind % 6 := ⟨_, rfl⟩
  obtain ⟨k, hk⟩ := hobx
  have hkm : ((y.x.kind : Int).tmod 6) = (k : Int) := by rw [Int.tmod_eq_emod_of_nonneg (by omega)]; omega
  have hku : IntKind.u8.wrap (k : Int) = (k : Int) := by
    have : k = 0 ∨ k = 1 ∨ k = 2 ∨ k = 3 ∨ k = 4 ∨ k = 5 := by omega
    rcases this with e | e | e | e | e | e <;> rw [e] <;> rfl
  have hobx : ∃ A1, A1 = ((A.alloc (.row R.enc 32 false)).alloc (.row y.enc 43 false)).alloc (.row [Value.int .i64 0, .int .i64 0, .slice none 0 0, .int .i64 0, .slice none 0 0, .slice none 0 0] 32 false) := ⟨_, rfl⟩
  obtain ⟨A1, hA1⟩ := hobx
  have w1 : A1.wf := by rw [hA1]; exact AH.wf_alloc (AH.wf_alloc (AH.wf_alloc hwf _) _) _
  have n1 : A1.next = A.next + 3 := by rw [hA1]; rfl
  have x1 : Ext A A1 := by rw [hA1]; exact ((Ext.alloc A _).app (by simp) _).app (by simp; omega) _
  have g0 : A1.get A.next = some (.row R.enc 32 false) := by rw [hA1]; simp [AH.get_alloc]
  have g1 : A1.get (A.next + 1) = some (.row y.enc 43 false) := by rw [hA1]; simp [AH.get_alloc]
  have g2 : A1.get (A.next + 2) = some (.row [Value.int .i64 0, .int .i64 0, .slice none 0 0, .int .i64 0, .slice none 0 0, .slice none 0 0] 32 false) := by rw [hA1]; simp [AH.get_alloc]
  rw [hrow] at hA1 g1
  have h1 := h.ext hwf x1
  have hsl1 := hsl.ext hwf x1
  have hc : k = 0 ∨ k = 1 ∨ k = 2 ∨ k = 3 ∨ k = 4 ∨ k = 5 := by omega
  have tf := tick_fit hs hm hr y.x.now y.x.l
  have rf := restart_fit hs hm hr y.x.now
  have cEv := revent_ok h1 hf y.x.now y.x.e
  rw [revent_is hs] at cEv
  have cCr := rcreate_ok (cl := y.c) h1 hf y.x.now y.x.tn y.x.tl y.x.w hw hsl1 hx hl
  rw [rcreate_is hs] at cCr
  have cMo := (rmodify_ok (cl := y.c) h1 hf y.x.now y.x.tn y.x.w hw hsl1 hx hl).mono (R' := fun r A' => RgR A1 (R.m.modify y.x.now y.x.tn y.x.w y.x.l) r A') fun r A' _ _ ⟨M, q1, q2⟩ => by rw [← rmodify_is hs q2]; exact q1
  have cDe := (rdelete_ok h1 hf y.x.tn).mono (R' := fun r A' => RgR A1 (R.m.delete y.x.tn) r A') fun r A' _ _ ⟨M, q1, q2⟩ => by rw [← rdelete_is hs q2]; exact q1
  have cTi := rtick_ok (cl := y.c) h1 y.x.now hsl1 hx hl tf.1 tf.2.1
  rw [tf.2.2.1] at cTi
  have cRe := rrestart_ok h1 y.x.now rf.1
  rw [rf.2.1] at cRe
  rcases hc with e | e | e | e | e | e
  · have ha : R.m.act y.x = R.m.event y.x.now y.x.e := by unfold Mg.act; rw [← hk, e]; rfl
    rw [ha]
    refine code8.call (by simp) fun hwf => ?_
    unfold c8
    simp [hrow, rl, ← hA1, g0, g1, hkm, hku, e, rg_take]
    refine CN.use cEv ?_
    rintro r2 A2 hw2 hn2 hP
    have g22 : A2.get (A.next + 2) = some (.row [Value.int .i64 0, .int .i64 0, .slice none 0 0, .int .i64 0, .slice none 0 0, .slice none 0 0] 32 false) := hP.1.get w1 g2
    have hobt := rgr_up hP x1 (by omega) (by omega) g22
    obtain ⟨R2, rfl, hfin⟩ := hobt
    have rl2 := rg_len R2
    simp [g22, rl2, rg_z, rg_take]
    exact ⟨rg_one R2, DN.of hfin⟩
  · have ha : R.m.act y.x = R.m.create y.x.now y.x.tn y.x.tl y.x.w y.x.l := by unfold Mg.act; rw [← hk, e]; rfl
    rw [ha]
    refine code8.call (by simp) fun hwf => ?_
    unfold c8
    simp [hrow, rl, ← hA1, g0, g1, hkm, hku, e, rg_take]
    refine CN.use cCr ?_
    rintro r2 A2 hw2 hn2 hP
    have g22 : A2.get (A.next + 2) = some (.row [Value.int .i64 0, .int .i64 0, .slice none 0 0, .int .i64 0, .slice none 0 0, .slice none 0 0] 32 false) := hP.1.get w1 g2
    have hobt := rgr_up hP x1 (by omega) (by omega) g22
    obtain ⟨R2, rfl, hfin⟩ := hobt
    have rl2 := rg_len R2
    simp [g22, rl2, rg_z, rg_take]
    exact ⟨rg_one R2, DN.of hfin⟩
  · have ha : R.m.act y.x = R.m.modify y.x.now y.x.tn y.x.w y.x.l := by unfold Mg.act; rw [← hk, e]; rfl
    rw [ha]
    refine code8.call (by simp) fun hwf => ?_
    unfold c8
    simp [hrow, rl, ← hA1, g0, g1, hkm, hku, e, rg_take]
    refine CN.use cMo ?_
    rintro r2 A2 hw2 hn2 hP
    have g22 : A2.get (A.next + 2) = some (.row [Value.int .i64 0, .int .i64 0, .slice none 0 0, .int .i64 0, .slice none 0 0, .slice none 0 0] 32 false) := hP.1.get w1 g2
    have hobt := rgr_up hP x1 (by omega) (by omega) g22
    obtain ⟨R2, rfl, hfin⟩ := hobt
    have rl2 := rg_len R2
    simp [g22, rl2, rg_z, rg_take]
    exact ⟨rg_one R2, DN.of hfin⟩
  · have ha : R.m.act y.x = R.m.delete y.x.tn := by unfold Mg.act; rw [← hk, e]; rfl
    rw [ha]
    refine code8.call (by simp) fun hwf => ?_
    unfold c8
    simp [hrow, rl, ← hA1, g0, g1, hkm, hku, e, rg_take]
    refine CN.use cDe ?_
    rintro r2 A2 hw2 hn2 hP
    have g22 : A2.get (A.next + 2) = some (.row [Value.int .i64 0, .int .i64 0, .slice none 0 0, .int .i64 0, .slice none 0 0, .slice none 0 0] 32 false) := hP.1.get w1 g2
    have hobt := rgr_up hP x1 (by omega) (by omega) g22
    obtain ⟨R2, rfl, hfin⟩ := hobt
    have rl2 := rg_len R2
    simp [g22, rl2, rg_z, rg_take]
    exact ⟨rg_one R2, DN.of hfin⟩
  · have ha : R.m.act y.x = R.m.tick y.x.now y.x.l := by unfold Mg.act; rw [← hk, e]; rfl
    rw [ha]
    refine code8.call (by simp) fun hwf => ?_
    unfold c8
    simp [hrow, rl, ← hA1, g0, g1, hkm, hku, e, rg_take]
    refine CN.use cTi ?_
    rintro r2 A2 hw2 hn2 hP
    have g22 : A2.get (A.next + 2) = some (.row [Value.int .i64 0, .int .i64 0, .slice none 0 0, .int .i64 0, .slice none 0 0, .slice none 0 0] 32 false) := hP.1.get w1 g2
    have hobt := rgr_up hP x1 (by omega) (by omega) g22
    obtain ⟨R2, rfl, hfin⟩ := hobt
    have rl2 := rg_len R2
    simp [g22, rl2, rg_z, rg_take]
    exact ⟨rg_one R2, DN.of hfin⟩
  · have ha : R.m.act y.x = R.m.restart y.x.now := by unfold Mg.act; rw [← hk, e]; rfl
    rw [ha]
    refine code8.call (by simp) fun hwf => ?_
    unfold c8
    simp [hrow, rl, ← hA1, g0, g1, hkm, hku, e, rg_take]
    refine CN.use cRe ?_
    rintro r2 A2 hw2 hn2 hP
    have g22 : A2.get (A.next + 2) = some (.row [Value.int .i64 0, .int .i64 0, .slice none 0 0, .int .i64 0, .slice none 0 0, .slice none 0 0] 32 false) := hP.1.get w1 g2
    have hobt := rgr_up hP x1 (by omega) (by omega) g22
    obtain ⟨R2, rfl, hfin⟩ := hobt
    have rl2 := rg_len R2
    simp [g22, rl2, rg_z, rg_take]
    exact ⟨rg_one R2, DN.of hfin⟩
theorem lacts_ok {A : AH} {a : Option Addr} {c : Nat} {xs : List AcM} (h : ActsM A a xs) (hl : xs.length ≤ 100000) : ACall Tryz.prog 10 [.slice a xs.length c] A fun r A' => Ext A A' ∧ ∃ (a' : Option Addr) (c' : Nat), r = .slice a' xs.length c' ∧ Sl A' 102 13 a' (xs.map AcM.enc) := by
  obtain ⟨hs, hok, hty⟩ := h
  refine ACall.wf fun hwf => ?_
  refine code10.call (by simp) fun hwf => ?_
  unfold c10
  simp
  refine LN.use (fun k E A' => ∃ (i : Nat) (u : Value), k + i = xs.length ∧ Ext A A' ∧ A.next ≤ A'.next ∧ Own A.next A' 102 13 u ((xs.take i).map AcM.enc) ∧ E.get 3 = u ∧ E.get 6 = .slice a xs.length c ∧ E.get 7 = .int .i64 xs.length ∧ E.get 8 = .int .i64 i) xs.length
    ⟨0, _, by omega, Ext.refl A, Nat.le_refl _, Own.nil _ _ _ _, by simp, by simp, by simp, by simp⟩ ?_
  rintro k E A1 hw1 hn1 ⟨i, u, hi, x1, n1, o1, E3, E6, E7, E8⟩
  by_cases hlt : i < xs.length
  rotate_left
  · have hlt' : ¬ (i : Int) < xs.length := by omega
    rw [List.take_of_length_le (by omega)] at o1
    have hobt := own_slm o1
    obtain ⟨a2, c2, rfl, s2, -⟩ := hobt
    simp [E3, E7, E8, hlt']
    exact DN.of ⟨x1, a2, c2, rfl, s2⟩
  have hlt' : (i : Int) < xs.length := by omega
  have hgi : IntKind.i64.wrap ((i : Int) + 1) = ((i + 1 : Nat) : Int) := by rw [i64_in (by omega) (by omega)]; simp
  have hobx : ∃ x, x = xs[i] := ⟨_, rfl⟩
  obtain ⟨x, hx⟩ := hobx
  have hobt := (hs.ext hwf x1).at (i := i) (by simpa using hlt)
  obtain ⟨b, o, cs, q, rfl, g1, g2, g3⟩ := hobt
  rw [List.getElem_map, ← hx] at g3
  have hrow : x.enc = [.int .i64 x.x.kind, .int .i64 x.x.tn, .int .i64 x.x.k.tail, .int .i64 x.x.k.tunnel, .int .i64 x.x.k.head, .int .i64 x.x.k.lsp, .int .u64 x.x.w.bw, .int .i64 x.x.w.setup, .int .i64 x.x.w.hold, .int .u32 x.x.w.any, .int .u32 x.x.w.all, .int .u32 x.x.w.no, .slice x.a x.x.r.length x.c] := rfl
  have hobx : ∃ A2, A2 = A1.alloc (.row x.enc 63 false) := ⟨_, rfl⟩
  obtain ⟨A2, hA2⟩ := hobx
  have w2 : A2.wf := by rw [hA2]; exact AH.wf_alloc hw1 _
  have n2 : A2.next = A1.next + 1 := by rw [hA2]; rfl
  have x2 : Ext A1 A2 := by rw [hA2]; exact Ext.alloc A1 _
  have gv : A2.get A1.next = some (.row x.enc 63 false) := by rw [hA2, AH.get_new]
  rw [hrow] at hA2 gv g3
  have o2 := o1.ext hw1 x2
  have hobt := own_push o2 (y := 112) (r := x.enc) w2 (by omega) ⟨rfl, rfl⟩ (by omega) (by omega) (by simp; omega)
  obtain ⟨u', A3, p1, p2, p3, p4⟩ := hobt
  rw [hrow] at p1
  have hobt := own_slm o2
  obtain ⟨a2, c2, rfl, -⟩ := hobt
  have hlk : (xs.take i).length = i := by simp; omega
  rw [hlk] at E3 p1
  simp [E3, E6, E7, E8, hlt, hlt', g1, g2, g3, ← hA2, gv, p1, hgi]
  exact NX.of ⟨k - 1, by omega, i + 1, u', by omega, fun c hc => by rw [p4 c (by omega), x2 c (by omega), x1 c hc], by omega, by rw [take_snoc hlt, ← hx, List.map_append]; exact p2, by simp, by simp [E6], by simp [E7], by simp⟩
theorem llines_ok {A : AH} {a : Option Addr} {c : Nat} {xs : List Li} (h : LinesM A a xs) (hl : xs.length ≤ 100000) : ACall Tryz.prog 13 [.slice a xs.length c] A fun r A' => Ext A A' ∧ ∃ (a' : Option Addr) (c' : Nat), r = .slice a' xs.length c' ∧ Sl A' 104 4 a' (xs.map Li.enc) := by
  obtain ⟨hs, hty⟩ := h
  refine ACall.wf fun hwf => ?_
  refine code13.call (by simp) fun hwf => ?_
  unfold c13
  simp
  refine LN.use (fun k E A' => ∃ (i : Nat) (u : Value), k + i = xs.length ∧ Ext A A' ∧ A.next ≤ A'.next ∧ Own A.next A' 104 4 u ((xs.take i).map Li.enc) ∧ E.get 3 = u ∧ E.get 6 = .slice a xs.length c ∧ E.get 7 = .int .i64 xs.length ∧ E.get 8 = .int .i64 i) xs.length
    ⟨0, _, by omega, Ext.refl A, Nat.le_refl _, Own.nil _ _ _ _, by simp, by simp, by simp, by simp⟩ ?_
  rintro k E A1 hw1 hn1 ⟨i, u, hi, x1, n1, o1, E3, E6, E7, E8⟩
  by_cases hlt : i < xs.length
  rotate_left
  · have hlt' : ¬ (i : Int) < xs.length := by omega
    rw [List.take_of_length_le (by omega)] at o1
    have hobt := own_slm o1
    obtain ⟨a2, c2, rfl, s2, -⟩ := hobt
    simp [E3, E7, E8, hlt']
    exact DN.of ⟨x1, a2, c2, rfl, s2⟩
  have hlt' : (i : Int) < xs.length := by omega
  have hgi : IntKind.i64.wrap ((i : Int) + 1) = ((i + 1 : Nat) : Int) := by rw [i64_in (by omega) (by omega)]; simp
  have hobx : ∃ x, x = xs[i] := ⟨_, rfl⟩
  obtain ⟨x, hx⟩ := hobx
  have hobt := (hs.ext hwf x1).at (i := i) (by simpa using hlt)
  obtain ⟨b, o, cs, q, rfl, g1, g2, g3⟩ := hobt
  rw [List.getElem_map, ← hx] at g3
  have hrow : x.enc = [.int .i64 x.tick, .int .i64 x.tn, .int .i64 x.what, .int .i64 x.code] := rfl
  have hobx : ∃ A2, A2 = A1.alloc (.row x.enc 89 false) := ⟨_, rfl⟩
  obtain ⟨A2, hA2⟩ := hobx
  have w2 : A2.wf := by rw [hA2]; exact AH.wf_alloc hw1 _
  have n2 : A2.next = A1.next + 1 := by rw [hA2]; rfl
  have x2 : Ext A1 A2 := by rw [hA2]; exact Ext.alloc A1 _
  have gv : A2.get A1.next = some (.row x.enc 89 false) := by rw [hA2, AH.get_new]
  rw [hrow] at hA2 gv g3
  have o2 := o1.ext hw1 x2
  have hobt := own_push o2 (y := 32) (r := x.enc) w2 (by omega) ⟨rfl, rfl⟩ (by omega) (by omega) (by simp; omega)
  obtain ⟨u', A3, p1, p2, p3, p4⟩ := hobt
  rw [hrow] at p1
  have hobt := own_slm o2
  obtain ⟨a2, c2, rfl, -⟩ := hobt
  have hlk : (xs.take i).length = i := by simp; omega
  rw [hlk] at E3 p1
  simp [E3, E6, E7, E8, hlt, hlt', g1, g2, g3, ← hA2, gv, p1, hgi]
  exact NX.of ⟨k - 1, by omega, i + 1, u', by omega, fun c hc => by rw [p4 c (by omega), x2 c (by omega), x1 c hc], by omega, by rw [take_snoc hlt, ← hx, List.map_append]; exact p2, by simp, by simp [E6], by simp [E7], by simp⟩
theorem slines_ok {A : AH} {a b : Option Addr} {c d : Nat} {xs : List Li} (h : Sl A 104 4 a (xs.map Li.enc)) (h' : Sl A 104 4 b (xs.map Li.enc)) (hl : xs.length ≤ 100000) : ACall Tryz.prog 12 [.slice a xs.length c, .slice b xs.length d] A fun v A' => v = .bool true ∧ A' = A := by
  refine code12.call (by simp) fun hwf => ?_
  unfold c12
  simp
  refine LN.use (fun k E A' => ∃ (i : Nat), k + i = xs.length ∧ A' = A ∧ E.get 0 = .slice a xs.length c ∧ E.get 1 = .slice b xs.length d ∧ E.get 12 = .int .i64 xs.length ∧ E.get 13 = .int .i64 i) xs.length
    ⟨0, by omega, rfl, by simp, by simp, by simp, by simp⟩ ?_
  rintro k E A1 hw1 hn1 ⟨i, hi, rfl, E0, E1, E12, E13⟩
  by_cases hlt : i < xs.length
  rotate_left
  · have hlt' : ¬ (i : Int) < xs.length := by omega
    simp [E12, E13, hlt']
    exact DN.of ⟨rfl, rfl⟩
  have hlt' : (i : Int) < xs.length := by omega
  have hgi : IntKind.i64.wrap ((i : Int) + 1) = ((i + 1 : Nat) : Int) := by rw [i64_in (by omega) (by omega)]; simp
  have hobx : ∃ x, x = xs[i] := ⟨_, rfl⟩
  obtain ⟨x, hx⟩ := hobx
  have hrow : x.enc = [.int .i64 x.tick, .int .i64 x.tn, .int .i64 x.what, .int .i64 x.code] := rfl
  have hobt := h.at (i := i) (by simpa using hlt)
  obtain ⟨b1, o1, cs1, q1, rfl, u1, u2, u3⟩ := hobt
  have hobt := h'.at (i := i) (by simpa using hlt)
  obtain ⟨b2, o2, cs2, q2, rfl, v1, v2, v3⟩ := hobt
  rw [List.getElem_map, ← hx, hrow] at u3 v3
  have hli : ∀ A : AH, aBin Tryz.prog A .neq 104 (.agg ⟨[.int .i64 x.tick, .int .i64 x.tn, .int .i64 x.what, .int .i64 x.code]⟩) (.agg ⟨[.int .i64 x.tick, .int .i64 x.tn, .int .i64 x.what, .int .i64 x.code]⟩) = some (.bool false) := fun A => by
    rw [aBin_neq_agg A _ _ _ eg104]; simp
  simp [E0, E1, E12, E13, hlt, hlt', u1, u2, u3, v1, v2, v3, hli, hgi]
  exact NX.of ⟨k - 1, by omega, i + 1, by omega, rfl, by simp [E0], by simp [E1], by simp [E12], by simp⟩
set_option maxHeartbeats 4000000 in
theorem sacts_ok {A : AH} {a b : Option Addr} {c d : Nat} {xs ys : List AcM} (h : Sl A 102 13 a (xs.map AcM.enc)) (h' : Sl A 102 13 b (ys.map AcM.enc)) (hx : ∀ x ∈ xs, x.ok A) (hy : ∀ x ∈ ys, x.ok A) (he : xs.map AcM.x = ys.map AcM.x) (hl : xs.length ≤ 100000) : ACall Tryz.prog 9 [.slice a xs.length c, .slice b ys.length d] A fun v A' => v = .bool true ∧ Ext A A' := by
  have hn : ys.length = xs.length := by have := congrArg List.length he; simpa using this.symm
  have hnI : (ys.length : Int) = xs.length := by omega
  refine ACall.wf fun hwf => ?_
  refine code9.call (by simp) fun hwf => ?_
  unfold c9
  simp [hnI]
  refine LN.use (fun k E A' => ∃ (i : Nat), k + i = xs.length ∧ Ext A A' ∧ A.next ≤ A'.next ∧ E.get 0 = .slice a xs.length c ∧ E.get 1 = .slice b ys.length d ∧ E.get 5 = .int .i64 i) xs.length
    ⟨0, by omega, Ext.refl A, Nat.le_refl _, by simp, by simp, by simp⟩ ?_
  rintro k E A1 hw1 hn1 ⟨i, hi, x1, n1, E0, E1, E5⟩
  by_cases hlt : i < xs.length
  rotate_left
  · have hlt' : ¬ (i : Int) < xs.length := by omega
    simp [E0, E1, E5, hlt']
    exact DN.of ⟨rfl, x1⟩
  have hlt' : (i : Int) < xs.length := by omega
  have hlt2 : i < ys.length := by omega
  have hgi : IntKind.i64.wrap ((i : Int) + 1) = ((i + 1 : Nat) : Int) := by rw [i64_in (by omega) (by omega)]; simp
  have hobx : ∃ x, x = xs[i] := ⟨_, rfl⟩
  obtain ⟨x, hxd⟩ := hobx
  have hobx : ∃ y, y = ys[i] := ⟨_, rfl⟩
  obtain ⟨y, hyd⟩ := hobx
  have hxy : x.x = y.x := by
    have e1 := congrArg (fun l => l[i]?) he
    simp only [List.getElem?_map, List.getElem?_eq_getElem hlt, List.getElem?_eq_getElem hlt2, Option.map_some, ← hxd, ← hyd] at e1
    injection e1
  have hobt := (h.ext hwf x1).at (i := i) (by simpa using hlt)
  obtain ⟨b1, o1, cs1, q1, rfl, u1, u2, u3⟩ := hobt
  have hobt := (h'.ext hwf x1).at (i := i) (by simpa using hlt2)
  obtain ⟨b2, o2, cs2, q2, rfl, v1, v2, v3⟩ := hobt
  rw [List.getElem_map, ← hxd] at u3
  rw [List.getElem_map, ← hyd] at v3
  have hobt := x.cells
  obtain ⟨xl, xo, xt⟩ := hobt
  have hobt := y.cells
  obtain ⟨yl, yo, yt⟩ := hobt
  have zx : spl [Value.int .i64 0, .int .i64 0, .int .i64 0, .int .i64 0, .int .i64 0, .int .i64 0, .int .u64 0, .int .i64 0, .int .i64 0, .int .u32 0, .int .u32 0, .int .u32 0, .slice none 0 0] 0 x.enc = x.enc := rfl
  have zy : spl [Value.int .i64 0, .int .i64 0, .int .i64 0, .int .i64 0, .int .i64 0, .int .i64 0, .int .u64 0, .int .i64 0, .int .i64 0, .int .u32 0, .int .u32 0, .int .u32 0, .slice none 0 0] 0 y.enc = y.enc := rfl
  have hb1 : ¬ b1 = A1.next := fun e => by have := hw1 _ _ u1; omega
  have hb1' : ¬ b1 = A1.next + 1 := fun e => by have := hw1 _ _ u1; omega
  have hb2 : ¬ b2 = A1.next := fun e => by have := hw1 _ _ v1; omega
  have hb2' : ¬ b2 = A1.next + 1 := fun e => by have := hw1 _ _ v1; omega
  have hobx : ∃ A2, A2 = (((A1.alloc (.row [Value.int .i64 0, .int .i64 0, .int .i64 0, .int .i64 0, .int .i64 0, .int .i64 0, .int .u64 0, .int .i64 0, .int .i64 0, .int .u32 0, .int .u32 0, .int .u32 0, .slice none 0 0] 102 false)).alloc (.row [Value.int .i64 0, .int .i64 0, .int .i64 0, .int .i64 0, .int .i64 0, .int .i64 0, .int .u64 0, .int .i64 0, .int .i64 0, .int .u32 0, .int .u32 0, .int .u32 0, .slice none 0 0] 102 false)).set A1.next (.row x.enc 102 false)).set (A1.next + 1) (.row y.enc 102 false) := ⟨_, rfl⟩
  obtain ⟨A2, hA2⟩ := hobx
  have w2 : A2.wf := by rw [hA2]; exact AH.wf_set (AH.wf_set (AH.wf_alloc (AH.wf_alloc hw1 _) _) (by simp; omega) _) (by simp) _
  have n2 : A2.next = A1.next + 2 := by rw [hA2]; rfl
  have x2 : Ext A1 A2 := by rw [hA2]; exact (((Ext.alloc A1 _).trans (by simp) (Ext.alloc _ _)).setnew (by omega) _).setnew (by omega) _
  have g0 : A2.get A1.next = some (.row x.enc 102 false) := by rw [hA2]; simp [AH.get_set]
  have g1 : A2.get (A1.next + 1) = some (.row y.enc 102 false) := by rw [hA2]; simp [AH.get_set]
  have a0 : x.enc[0]'(by omega) = .int .i64 y.x.kind := by rw [← hxy]; rfl
  have a1 : x.enc[1]'(by omega) = .int .i64 y.x.tn := by rw [← hxy]; rfl
  have a2 : (x.enc.drop 2).take 4 = y.x.k.enc := by rw [← hxy]; rfl
  have a3 : (x.enc.drop 6).take 6 = y.x.w.enc := by rw [← hxy]; rfl
  have a4 : x.enc[12]'(by omega) = .slice x.a x.x.r.length x.c := rfl
  have c0 : y.enc[0]'(by omega) = .int .i64 y.x.kind := rfl
  have c1 : y.enc[1]'(by omega) = .int .i64 y.x.tn := rfl
  have c2 : (y.enc.drop 2).take 4 = y.x.k.enc := rfl
  have c3 : (y.enc.drop 6).take 6 = y.x.w.enc := rfl
  have c4 : y.enc[12]'(by omega) = .slice y.a y.x.r.length y.c := rfl
  have x02 := x1.trans (by omega) x2
  have xo2 := (hx x (by rw [hxd]; exact List.getElem_mem hlt)).fr (FrT.ext hwf x02)
  have yo2 := (hy y (by rw [hyd]; exact List.getElem_mem hlt2)).fr (FrT.ext hwf x02)
  simp [E0, E1, E5, hlt, hlt', hlt2, u1, u2, u3, v1, v2, v3, xl, yl, zx, zy, xt, yt, hb1, hb1', hb2, hb2', ← hA2, g0, g1, a0, a1, a2, a3, a4, c0, c1, c2, c3, c4]
  refine ⟨xo, yo, ?_⟩
  refine CN.use (ints20_ok xo2.1 yo2.1 xo2.2.2) ?_
  rintro _ A3 hw3 hn3 ⟨rfl, x3⟩
  simp [hxy, E5, hgi]
  exact NX.of ⟨k - 1, by omega, i + 1, by omega, x02.trans (by omega) x3, by omega, by simp [E0], by simp [E1], by simp⟩
theorem RgM.ok.frL {n0 : Nat} {A A' : AH} {R : RgM} (h : R.ok A) (hf : FrL n0 A A') : R.ok A' := h.keep fun k cs T ro g hT => hf.2 k cs T ro g (by rcases hT with e | e | e | e <;> rw [e] <;> unfold OwnT <;> decide) (by rcases hT with e | e | e | e <;> rw [e] <;> decide)
theorem FrL.mg {n0 : Nat} {A A' : AH} (hf : FrL n0 A A') {b : Nat} {cs : List Value} (g : A.get b = some (.row cs 32 false)) : A'.get b = some (.row cs 32 false) := (hf.2 b cs _ _ g (by unfold OwnT; decide) (by decide)).trans g
theorem Mg.act_room {m : Mg} (hm : m.wf) (x : At) {k : Nat} (h : m.room (k + 100)) : (m.act x).1.room k := by
  unfold Mg.act Mg.actK
  split
  · unfold Mg.event
    split
    · exact h.le (by omega)
    split
    · exact h.le (by omega)
    · simp only
      split
      · unfold Mg.ups
        exact (((((h.le (j := k + 3) (by omega)).put _ _).says (k := k + 2) _).does (k := k + 1) _).stop _ _)
      split
      · exact Mg.fails_room (((h.le (j := k + 2) (by omega)).stop (k := k + 1) _ _).put _ _) _ _ _ _
      split
      · exact (((h.le (j := k + 3) (by omega)).leave (k := k + 1) _ _).says _).put _ _
      · exact h.le (by omega)
  · unfold Mg.create
    split
    · exact h.le (by omega)
    split
    · exact h.le (by omega)
    split
    · exact h.le (by omega)
    · simp only
      split
      · exact Mg.room.le (k := k + 100) (m := m.insV _ _) h (by omega)
      · exact Mg.tries_room (Mg.room.le (k := k + 100) (m := m.insV _ _) h (by omega)) _ _ _ _
  · unfold Mg.modify
    split
    · exact h.le (by omega)
    split
    · exact h.le (by omega)
    · simp only
      split
      · exact Mg.tries_room (((h.le (j := k + 2) (by omega)).stop (k := k + 1) _ _).put _ _) _ _ _ _
      · exact ((h.le (j := k + 1) (by omega)).stop _ _).put _ _
  · unfold Mg.delete
    split
    · exact h.le (by omega)
    · simp only
      exact ((h.le (j := k + 3) (by omega)).leave (k := k + 1) (posL m.l x.tn) (m.l.getD (posL m.l x.tn) vwZ)).stop _ _
  · unfold Mg.tick
    split
    · exact h.le (by omega)
    · exact (Mg.in.tick hm _ _ (k := k) (h.le (by omega))).2.2
  · unfold Mg.restart
    split
    · exact h.le (by omega)
    · exact (Mg.in.restart hm _ (k := k) (h.le (by omega))).2.2
theorem act_room' {m : Mg} (hm : m.wf) (x : At) (h : m.room 30000) : (m.act x).1.room 29900 := Mg.act_room hm x (k := 29900) h
def rg0 (hd n : Int) : RgM := ⟨hd, n, [], none, 0, 0, [], none, 0, [], none, 0⟩
theorem rg0_ok (hd n : Int) (A : AH) : (rg0 hd n).ok A := ⟨Sl.nil Pla.no _ _ _, fun x hx => (List.not_mem_nil hx).elim, Sl.nil Pla.no _ _ _, fun x hx => (List.not_mem_nil hx).elim, Sl.nil Pla.no _ _ _, (fun b o e => by cases e), (fun b o e => by cases e), (fun b o e => by cases e)⟩
set_option maxRecDepth 20000 in
set_option maxHeartbeats 16000000 in
theorem acts_walk {A : AH} (hd n : Int) {a : Option Addr} {c : Nat} {xs : List AtM} (hs : Sl A 43 17 a (xs.map AtM.enc)) (hy : ∀ y ∈ xs, y.ok A) :
    ACall Tryz.prog 3 [.agg (PlR hd n a xs.length c).toArray] A fun v A' => v = .bool true := by
  refine ACall.wf fun hwf => ?_
  have hobx : ∃ A1, A1 = A.alloc (.row [.int .i64 hd, .int .i64 n, .slice a xs.length c] 24 false) := ⟨_, rfl⟩
  obtain ⟨A1, hA1⟩ := hobx
  have w1 : A1.wf := by rw [hA1]; exact AH.wf_alloc hwf _
  have n1 : A1.next = A.next + 1 := by rw [hA1]; rfl
  have x1 : Ext A A1 := by rw [hA1]; exact Ext.alloc A _
  have g1 : A1.get A.next = some (.row [.int .i64 hd, .int .i64 n, .slice a xs.length c] 24 false) := by rw [hA1, AH.get_new]
  refine code3.call (by simp) fun hwf => ?_
  unfold c3
  simp [PlR, ← hA1]
  refine CN.use (alive_ok A1) ?_
  rintro _ A2 hw2 hn2 ⟨rfl, x2⟩
  have g2 := x2.get w1 g1
  have x02 := x1.trans (by omega) x2
  simp [g2]
  refine CN.use (new_ok hd n A2) ?_
  rintro _ A3 hw3 hn3 ⟨x3, ⟨e, rfl⟩ | ⟨hnb, mb, hmb, rfl, h3⟩⟩
  · have g3 := x3.get hw2 g2
    have hne := newB_false e
    have hn3' : ¬ A.next = A3.next := by omega
    by_cases k1 : n < 1
    · have k1' : ¬ 1 ≤ n := by omega
      simp [g3, k1', AH.get_alloc, hn3']
      refine LN.use (fun k E A' => E.get 3 = .pointer none) 0 (by simp) ?_
      rintro k E A4 - - E3
      simp [E3]
      exact DN.of rfl
    have k1p : 1 ≤ n := by omega
    by_cases k2 : 16 < n
    · have k2' : ¬ n ≤ 16 := by omega
      simp [g3, k1p, k2', AH.get_alloc, hn3']
      refine LN.use (fun k E A' => E.get 3 = .pointer none) 0 (by simp) ?_
      rintro k E A4 - - E3
      simp [E3]
      exact DN.of rfl
    have k2p : n ≤ 16 := by omega
    by_cases k3 : hd < 0
    · have k3' : ¬ 0 ≤ hd := by omega
      simp [g3, k1p, k2p, k3', AH.get_alloc, hn3']
      refine LN.use (fun k E A' => E.get 3 = .pointer none) 0 (by simp) ?_
      rintro k E A4 - - E3
      simp [E3]
      exact DN.of rfl
    have k3p : 0 ≤ hd := by omega
    have k4' : ¬ hd < n := by omega
    simp [g3, k1p, k2p, k3p, k4', AH.get_alloc, hn3']
    refine LN.use (fun k E A' => E.get 3 = .pointer none) 0 (by simp) ?_
    rintro k E A4 - - E3
    simp [E3]
    exact DN.of rfl
  have hnb' := hnb
  simp only [newB, decide_eq_true_eq] at hnb'
  obtain ⟨k1, k2, k3, k4⟩ := hnb'
  have g3 := x3.get hw2 g2
  have hrg : [Value.int .i64 hd, .int .i64 n, .slice none 0 0, .int .i64 0, .slice none 0 0, .slice none 0 0] = (rg0 hd n).enc := rfl
  have hobx : ∃ A4, A4 = A3.alloc (.row (rg0 hd n).enc 32 false) := ⟨_, rfl⟩
  obtain ⟨A4, hA4⟩ := hobx
  have w4 : A4.wf := by rw [hA4]; exact AH.wf_alloc hw3 _
  have n4 : A4.next = A3.next + 1 := by rw [hA4]; rfl
  have x4 : Ext A3 A4 := by rw [hA4]; exact Ext.alloc A3 _
  have gm4 : A4.get A3.next = some (.row (rg0 hd n).enc 32 false) := by rw [hA4, AH.get_new]
  have h4 := h3.ext hw3 x4
  have r0l := rg_len (rg0 hd n)
  have r0z := rg_z (rg0 hd n)
  simp [g3, k1, k2, k3, k4, hrg, r0l, r0z, ← hA4]
  refine ⟨rg_one _, ?_⟩
  refine LN.use (fun k E A' => ∃ (i : Nat) (ps : List Nat) (m : Mg) (R : RgM), k + i = xs.length + 1 ∧ i ≤ xs.length ∧ (∀ b, b < A2.next → A'.get b = A2.get b) ∧ A3.next < A'.next ∧ MP A2.next A' mb ps m ∧ m.wf ∧ m.acts = [] ∧ m.lines = [] ∧ Srt m ∧ R.ok A' ∧ R.m = m ∧ A'.get A3.next = some (.row R.enc 32 false) ∧ E.get 1 = .pointer (some ⟨A.next, 0, none⟩) ∧ E.get 3 = .pointer (some ⟨mb, 0, none⟩) ∧ E.get 4 = .pointer (some ⟨A3.next, 0, none⟩) ∧ E.get 5 = .int .i64 i) (xs.length + 1)
    ⟨0, [], mgN hd n, rg0 hd n, by omega, by omega, fun b hb => by rw [x4 b (by omega), x3 b hb], by omega, h4, mgN_wf hnb, rfl, rfl, List.Pairwise.nil, rg0_ok _ _ _, rfl, gm4, by simp, by simp, by simp, by simp⟩ ?_
  rintro k E A5 hw5 hn5 ⟨i, ps, m, R, hk, hile, lo5, n5, h5, hm, ha, hli, hsr, hR, hRm, gm5, E1, E3, E4, E5⟩
  have g5 : A5.get A.next = some (.row [.int .i64 hd, .int .i64 n, .slice a xs.length c] 24 false) := by rw [lo5 _ (by omega)]; exact g2
  by_cases hlt : i < xs.length
  rotate_left
  · have hlt' : ¬ (i : Int) < xs.length := by omega
    simp [E1, E3, E5, g5, hlt']
    exact DN.of rfl
  have hlt' : (i : Int) < xs.length := by omega
  by_cases h60 : i < 60
  rotate_left
  · have h60' : ¬ (i : Int) < 60 := by omega
    simp [E1, E3, E5, g5, hlt, hlt', h60']
    exact DN.of rfl
  have h60' : (i : Int) < 60 := by omega
  have hgi : IntKind.i64.wrap ((i : Int) + 1) = ((i + 1 : Nat) : Int) := by rw [i64_in (by omega) (by omega)]; simp
  have hobx : ∃ y, y = xs[i] := ⟨_, rfl⟩
  obtain ⟨y, hyd⟩ := hobx
  have hyo := hy y (by rw [hyd]; exact List.getElem_mem hlt)
  have hobt := (hs.ext hwf x02).at (i := i) (by simpa using hlt)
  obtain ⟨b, o, cs, q, hab, u1, u2, u3⟩ := hobt
  rw [List.getElem_map, ← hyd] at u3
  have hb2 : b < A2.next := hw2 _ _ u1
  have u15 : A5.get b = some (.row cs q.1 q.2) := by rw [lo5 b hb2]; exact u1
  have yl : y.enc.length = 17 := rfl
  have yt : y.enc.take 17 = y.enc := rfl
  have yo : ∀ v ∈ y.enc, oneB v = true := List.all_eq_true.1 (rfl : y.enc.all oneB = true)
  have e16 : y.enc[16]'(by omega) = .slice y.a y.x.l.length y.c := rfl
  have hobx : ∃ A6, A6 = A5.alloc (.row y.enc 43 false) := ⟨_, rfl⟩
  obtain ⟨A6, hA6⟩ := hobx
  have w6 : A6.wf := by rw [hA6]; exact AH.wf_alloc hw5 _
  have n6 : A6.next = A5.next + 1 := by rw [hA6]; rfl
  have x6 : Ext A5 A6 := by rw [hA6]; exact Ext.alloc A5 _
  have gy6 : A6.get A5.next = some (.row y.enc 43 false) := by rw [hA6, AH.get_new]
  have lo6 : ∀ b, b < A2.next → A6.get b = A2.get b := fun b hb => by rw [x6 b (by omega), lo5 b hb]
  have h6 := h5.ext hw5 x6
  have gm6 := x6.get hw5 gm5
  have hR6 := hR.ext hw5 x6
  by_cases h100 : 100 < y.x.l.length
  · have h100' : (100 : Int) < y.x.l.length := by omega
    simp [E1, E3, E5, g5, hlt, hlt', h60', hab, u15, u2, u3, yl, yt, ← hA6, gy6, e16, h100', hgi]
    refine ⟨yo, ?_⟩
    exact NX.of ⟨k - 1, by omega, i + 1, ps, m, R, by omega, by omega, lo6, by omega, h6, hm, ha, hli, hsr, hR6, hRm, gm6, by simp [E1], by simp [E3], by simp [E4], by simp⟩
  have h100' : ¬ (100 : Int) < y.x.l.length := by omega
  have hr100 : m.room 30000 := ⟨by rw [ha]; simp, by rw [hli]; simp⟩
  have yo6 : y.ok A6 := hyo.low (fun b hb => by rw [lo6 b (by omega), x02 b hb]) hwf
  simp [E1, E3, E5, g5, hlt, hlt', h60', hab, u15, u2, u3, yl, yt, ← hA6, gy6, e16, h100']
  refine ⟨yo, ?_⟩
  refine CN.use (act_ok h6 hm y yo6 (by omega) (hr100.le (by omega)) (by omega)) ?_
  rintro _ A7 hw7 hn7 ⟨⟨ps7, h7⟩, rfl, f7⟩
  have wf7 := Mg.act_wf hm y.x hyo.2.2.1 (hr100.le (by omega))
  have sr7 := hsr.act hm hr100 y.x
  have lo7 := f7.low lo6
  have gm7 := f7.mg gm6
  have hR7 := hR6.frL f7
  have gy7 : A7.get A5.next = some (.row y.enc 43 false) := by rw [f7.2 _ _ _ _ gy6 (by unfold OwnT; decide) (by decide), gy6]
  have yo7 : y.ok A7 := hyo.low (fun b hb => by rw [lo7 b (by omega), x02 b hb]) hwf
  have rl := rg_len R
  have hobx : ∃ M, M = (m.act y.x).1 := ⟨_, rfl⟩
  obtain ⟨M, hM⟩ := hobx
  have hmo := model_ok hR7 (by rw [hRm]; exact hsr) (by rw [hRm]; exact hm) (by rw [hRm]; exact hr100) y yo7 (by omega)
  rw [hRm] at hmo
  simp [E4, gm7, gy7, rl, rg_take, yl, yt]
  refine CN.use hmo ?_
  rintro _ A8 hw8 hn8 ⟨x8, S, rfl, hS, hSm⟩
  rw [← hM] at h7 wf7 sr7 hSm
  have h8 := h7.ext hw7 x8
  have sl := rg_len S
  have so := rg_one S
  have hobx : ∃ A9, A9 = A8.alloc (.row S.enc 32 false) := ⟨_, rfl⟩
  obtain ⟨A9, hA9⟩ := hobx
  have w9 : A9.wf := by rw [hA9]; exact AH.wf_alloc hw8 _
  have n9 : A9.next = A8.next + 1 := by rw [hA9]; rfl
  have x9 : Ext A8 A9 := by rw [hA9]; exact Ext.alloc A8 _
  have gs9 : A9.get A8.next = some (.row S.enc 32 false) := by rw [hA9, AH.get_new]
  have x79 := x8.trans (by omega) x9
  have h9 := h8.ext hw8 x9
  have hS9 := hS.ext hw8 x9
  have gm9 := x79.get hw7 gm7
  have lo9 : ∀ b, b < A2.next → A9.get b = A2.get b := fun b hb => by rw [x79 b (by omega), lo7 b hb]
  have s4 : S.enc[4]'(by omega) = .slice S.aa S.acs.length S.ac := rfl
  have s5 : S.enc[5]'(by omega) = .slice S.na S.lns.length S.nc := rfl
  have s2 : S.enc[2]'(by omega) = .slice S.la S.xs.length S.lc := rfl
  have hacL : S.acs.map AcM.x = M.acts := by rw [← hSm]; rfl
  have hlnL : S.lns = M.lines := by rw [← hSm]; rfl
  have hxsL : S.xs.map VwM.v = M.l := by rw [← hSm]; rfl
  have hMr : M.room 100 := by rw [hM]; exact (by
    have := hr100
    exact Mg.room.le (k := 29900) (act_room' hm y.x this) (by omega))
  simp [sl, rg_z, ← hA9, gs9, s4, E3]
  refine ⟨so, ?_⟩
  refine CN.use (actions_ok h9 wf7) ?_
  rintro _ A10 hw10 hn10 ⟨o10, h10, acs, a10, c10, rfl, hacs, sa10⟩
  have f10 := o10.frL h9
  have gs10 := f10.mg gs9
  have gm10 := f10.mg gm9
  have hS10 := hS9.frL f10
  have wf10 : Mg.wf { M with acts := [] } := ⟨wf7.hd, wf7.n, wf7.cnt, wf7.vs, wf7.len⟩
  have hacl : acs.length ≤ 100000 := by have := congrArg List.length hacs; have := hMr.1; simp at *; omega
  simp [gs10, sl, s4]
  refine CN.use (lacts_ok sa10 hacl) ?_
  rintro _ A11 hw11 hn11 ⟨x11, a11, c11, rfl, sa11⟩
  have gs11 := x11.get hw10 gs10
  have gm11 := x11.get hw10 gm10
  have hS11 := hS10.ext hw10 x11
  simp [gs11, sl, s4]
  refine CN.use (sacts_ok sa11 hS11.a (fun x hx => (sa10.2.1 x hx).fr (FrT.ext hw10 x11)) hS11.ao (by rw [hacs, hacL]) hacl) ?_
  rintro _ A12 hw12 hn12 ⟨rfl, x12⟩
  have x1012 := x11.trans hn11 x12
  have gs12 := x12.get hw11 gs11
  have gm12 := x12.get hw11 gm11
  have hS12 := hS11.ext hw11 x12
  have h12 := h10.ext hw10 x1012
  simp [gs12, sl, s5, E3]
  refine CN.use (lines_ok h12 wf10) ?_
  rintro _ A13 hw13 hn13 ⟨o13, h13, a13, c13, rfl, sn13⟩
  have f13 := o13.frL h12
  have gs13 := f13.mg gs12
  have gm13 := f13.mg gm12
  have hS13 := hS12.frL f13
  have wf13 : Mg.wf { { M with acts := [] } with lines := [] } := ⟨wf7.hd, wf7.n, wf7.cnt, wf7.vs, wf7.len⟩
  have hlnl : M.lines.length ≤ 100000 := by have := hMr.2; omega
  have hsn13 : LinesM A13 a13 M.lines := sn13
  have hlen13 : ({ M with acts := [] } : Mg).lines.length = M.lines.length := rfl
  simp [gs13, sl, s5]
  refine CN.use (llines_ok hsn13 hlnl) ?_
  rintro _ A14 hw14 hn14 ⟨x14, a14, c14, rfl, sn14⟩
  have gs14 := x14.get hw13 gs13
  have gm14 := x14.get hw13 gm13
  have hS14 := hS13.ext hw13 x14
  have hSn := hS14.n
  rw [hlnL] at hSn
  simp [gs14, sl, s5, hlnL]
  refine CN.use (slines_ok sn14 hSn hlnl) ?_
  rintro _ A14' - - ⟨rfl, rfl⟩
  have h14 := h13.ext hw13 x14
  simp [gs14, sl, s2, E3]
  refine CN.use (tunnels_ok h14 wf13) ?_
  rintro _ A15 hw15 hn15 ⟨x15, vs, a15, c15, rfl, hvs, sv15⟩
  have gs15 := x15.get hw14 gs14
  have gm15 := x15.get hw14 gm14
  have hS15 := hS14.ext hw14 x15
  have h15 := h14.ext hw14 x15
  have hvl : vs.length ≤ 1000 := by have := congrArg List.length hvs; have := wf13.len; simp at *; omega
  simp [gs15, sl, s2]
  refine CN.use (views_ok sv15 hvl) ?_
  rintro _ A16 hw16 hn16 ⟨x16, a16, c16, rfl, sv16⟩
  have gs16 := x16.get hw15 gs15
  have gm16 := x16.get hw15 gm15
  have hS16 := hS15.ext hw15 x16
  have h16 := h15.ext hw15 x16
  simp [gs16, sl, s2]
  refine CN.use (rviews_ok sv16 ⟨hS16.l, hS16.lo, hS16.tl⟩ hvl) ?_
  rintro _ A17 hw17 hn17 ⟨rfl, x17⟩
  have gs17 := x17.get hw16 gs16
  have gm17 := x17.get hw16 gm16
  have hS17 := hS16.ext hw16 x17
  have h17 := h16.ext hw16 x17
  have hve : vs.map VwM.v = S.xs.map VwM.v := by rw [hvs, hxsL]
  have hobx : ∃ T : RgM, T = { S with acs := [], aa := none, ac := 0, lns := [], na := none, nc := 0 } := ⟨_, rfl⟩
  obtain ⟨T, hT⟩ := hobx
  have t1 : spl (spl S.enc 4 [.slice none 0 0]) 5 [.slice none 0 0] = T.enc := by rw [hT]; rfl
  have t0 : (spl S.enc 4 [.slice none 0 0]).length = 6 := rfl
  have tl := rg_len T
  have tt := rg_take T
  have to' := rg_one T
  have tsp : spl R.enc 0 T.enc = T.enc := rfl
  have hne : ¬ A8.next = A3.next := by omega
  have hne' : ¬ A3.next = A8.next := by omega
  have hTok : ∀ B, S.ok B → T.ok B := fun B h => by rw [hT]; exact ⟨h.l, h.lo, Sl.nil Pla.no _ _ _, (fun x hx => (List.not_mem_nil hx).elim), Sl.nil Pla.no _ _ _, h.tl, (fun b o e => by cases e), (fun b o e => by cases e)⟩
  have hTm : T.m = { { M with acts := [] } with lines := [] } := by rw [hT, ← hSm]; rfl
  simp [hve, gs17, sl, t0, t1, AH.get_set, hne, hne', gm17, rl, tl, tt, tsp, E4, E5, hgi]
  have lo17 : ∀ b, b < A2.next → A17.get b = A2.get b := fun b hb => by
    rw [x17 b (by omega), x16 b (by omega), x15 b (by omega), x14 b (by omega), f13.1 b (by omega), x1012 b (by omega), f10.1 b (by omega), lo9 b hb]
  have k17 : ∀ b cs ro T', A17.get b = some (.row cs T' ro) → T' ≠ 32 → ((A17.set A8.next (.row T.enc 32 false)).set A3.next (.row T.enc 32 false)).get b = A17.get b := fun b cs ro T' g ht => by
    rw [AH.get_set, if_neg, AH.get_set, if_neg]
    · intro e; subst e; rw [gs17] at g; injection g with g; injection g with _ g _; exact ht g.symm
    · intro e; subst e; rw [gm17] at g; injection g with g; injection g with _ g _; exact ht g.symm
  refine ⟨to', NX.of ⟨k - 1, by omega, i + 1, ps7, _, T, by omega, by omega, fun b hb => by rw [AH.get_set, if_neg (by omega), AH.get_set, if_neg (by omega), lo17 b hb], by simp; omega, h17.keep fun k cs T' ro g ht => k17 k cs ro T' g (by rcases ht with e | e | e <;> (intro e2; rw [e2] at e; revert e; first | decide | (unfold OwnT; decide))), wf13, rfl, rfl, sr7.same rfl, ?_, hTm, by rw [AH.get_set, if_pos rfl], by simp [E1], by simp [E3], by simp [E4], by simp⟩⟩
  exact ((hTok _ hS17).box gs17 (by decide) _).box (by rw [AH.get_set, if_neg hne']; exact gm17) (by decide) _
end Go.Proofs.YtnlopamlmojbgaaGreat.AC
