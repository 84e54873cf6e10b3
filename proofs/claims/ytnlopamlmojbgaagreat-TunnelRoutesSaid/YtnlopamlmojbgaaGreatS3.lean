/-
  What the functions of the program, and those of the law, do.
-/
import Derived.Test.YtnlopamlmojbgaaGreatS2
import Derived.Test.YtnlopamlmojbgaaGreatS1
import Derived.Test.YtnlopamlmojbgaaGreatP3
set_option linter.unusedSimpArgs false
set_option linter.unusedVariables false
/- Tunnels: all told; what is done and said, taken. -/
namespace Go.Proofs.YtnlopamlmojbgaaGreat.AC
open Go Go.AI Go.Proofs Go.Proofs.YtnlopamlmojbgaaGreat.AQ
set_option linter.unusedVariables false
set_option linter.unusedSimpArgs false
section
variable {n0 : Nat} {A A' : AH} {mb : Nat} {ps : List Nat} {m : Mg} {p i : Nat} {v : Vw}
theorem LsM.ok.int {A A' : AH} {x : LsM} (h : x.ok A) (hf : ∀ b cs ro, A.get b = some (.row cs 3 ro) → A'.get b = A.get b) : x.ok A' := by
  obtain ⟨h1, h2, h3⟩ := h
  by_cases hr : x.s.r = []
  · refine ⟨?_, fun h => absurd hr h, h3⟩
    rw [hr] at h1 ⊢
    exact Sl.nil h1.2.1 _ _ _
  have hk : ∀ b o, x.a = some ⟨b, o, none⟩ → A'.get b = A.get b := fun b o e => by
    have hobt := h2 hr b o e
    obtain ⟨cs, ro, g⟩ := hobt
    exact hf b cs ro g
  exact ⟨h1.kept fun b o y e _ => hk b o e, fun _ b o e => by
    have hobt := h2 hr b o e
    obtain ⟨cs, ro, g⟩ := hobt
    exact ⟨cs, ro, (hk b o e).trans g⟩, h3⟩
def VwsM (A : AH) (a : Option Addr) (xs : List VwM) : Prop := Sl A 71 32 a (xs.map VwM.enc) ∧ (∀ x ∈ xs, x.ok A) ∧ (∀ b o, a = some ⟨b, o, none⟩ → ∃ cs ro, A.get b = some (.row cs 71 ro))
set_option maxHeartbeats 4000000 in
theorem tunnels_ok (h : MP n0 A mb ps m) (hm : m.wf) : ACall Tryz.prog 17 [.pointer (some ⟨mb, 0, none⟩)] A fun r A' => Ext A A' ∧ ∃ (xs : List VwM) (a : Option Addr) (c : Nat), r = .slice a xs.length c ∧ xs.map VwM.v = m.l ∧ VwsM A' a xs := by
  have hl := h.len
  have hml := hm.len
  have hman := h.man
  obtain ⟨lv, av, nv, g, a, c, rfl, hs⟩ := hman
  have hnp : (0 : Int) < m.n := by have := hm.n; omega
  refine ACall.wf fun hwf => ?_
  refine code17.call (by simp) fun hwf => ?_
  unfold c17
  simp
  refine CN.use (mp_good h) ?_
  rintro _ A - - ⟨rfl, rfl⟩
  simp [g, hnp]
  refine LN.use (fun k E A' => ∃ (i : Nat) (ob : Option Nat) (ao : Option Addr) (co : Nat) (xs : List VwM), k + i = ps.length ∧ Ext A A' ∧ A.next ≤ A'.next ∧ xs.map VwM.v = m.l.take i ∧ Lst A' 71 32 ob (.slice ao xs.length co) (xs.map VwM.enc) ∧ (∀ b, ob = some b → A.next ≤ b) ∧ (∀ x ∈ xs, x.ok A') ∧ E.get 3 = .slice ao xs.length co ∧ E.get 13 = .slice a ps.length c ∧ E.get 14 = .int .i64 ps.length ∧ E.get 15 = .int .i64 i) ps.length
    ⟨0, none, none, 0, [], by omega, Ext.refl A, Nat.le_refl _, by simp, by simpa using Lst.nil A 71 32, by simp, by simp, by simp, by simp, by simp, by simp⟩ ?_
  rintro k E A1 hw1 hn1 ⟨i, ob, ao, co, xs, hi, x1, n1, hxs, lo, fo, hok, E3, E13, E14, E15⟩
  have hxl : xs.length = i := by have := congrArg List.length hxs; rw [List.length_map, List.length_take] at this; omega
  by_cases hlt : i < ps.length
  · have hlt' : (i : Int) < ps.length := by omega
    have hgi : IntKind.i64.wrap ((i : Int) + 1) = ((i + 1 : Nat) : Int) := by rw [i64_in (by omega) (by omega)]; simp
    obtain ⟨p, hp⟩ : ∃ p, ps[i]? = some p := ⟨ps[i]'hlt, List.getElem?_eq_getElem hlt⟩
    have hobt := h.vp hp
    obtain ⟨v, hv⟩ := hobt
    have hobt := (h.ext hwf x1).row hp hv
    obtain ⟨x, hx, gp, hxo, -⟩ := hobt
    have rl := row_len x mb
    have rv := row_view x mb
    have hobt := (hs.ext hwf x1).one (i := i) (v := .pointer (some ⟨p, 0, none⟩)) (sl_ptr hs hp)
    obtain ⟨b, o, cs, q, rfl, g1, g2⟩ := hobt
    have v1 := vw_len x
    have v2 := vw_one x
    have v3 := vw_now x
    have v4 := vw_new x
    have v5 := vw_take x
    have z0 : spl [Value.int .i64 0, .int .i64 0, .int .u64 0, .int .i64 0, .int .i64 0, .int .u32 0, .int .u32 0, .int .u32 0, .int .i64 0, .int .i64 0, .int .i64 0, .int .i64 0, .int .u64 0, .int .i64 0, .int .i64 0, .int .u32 0, .int .u32 0, .int .u32 0, .slice none 0 0, .int .i64 0, .int .i64 0, .int .i64 0, .int .i64 0, .int .u64 0, .int .i64 0, .int .i64 0, .int .u32 0, .int .u32 0, .int .u32 0, .slice none 0 0, .int .i64 0, .int .i64 0] 0 x.enc = x.enc := rfl
    have hobx : ∃ A2, A2 = A1.alloc (.row x.enc 71 false) := ⟨_, rfl⟩
    obtain ⟨A2, hA2⟩ := hobx
    have w2 : A2.wf := by rw [hA2]; exact AH.wf_alloc hw1 _
    have n2 : A2.next = A1.next + 1 := by rw [hA2]; rfl
    have x2 : Ext A1 A2 := by rw [hA2]; exact Ext.alloc A1 _
    have gv : A2.get A1.next = some (.row x.enc 71 false) := by rw [hA2, AH.get_new]
    have fx2 := FrT.ext hw1 x2
    simp [E3, E13, E14, E15, hlt, hlt', g1, g2, gp, rl, rv, v1, v5, z0, ← hA2, gv, v3, v4]
    refine ⟨v2, ?_⟩
    refine CN.use (own_ok (hxo.1.fr fx2)) ?_
    rintro _ A3 hw3 hn3 ⟨x3, y1, rfl, hy1, oy1⟩
    have gv3 := x3.get w2 gv
    have fx3 := FrT.ext w2 x3
    simp [gv3, v1, v4]
    refine CN.use (own_ok ((hxo.2.fr fx2).fr fx3)) ?_
    rintro _ A4 hw4 hn4 ⟨x4, y2, rfl, hy2, oy2⟩
    have gv4 := x4.get hw3 gv3
    have s1 := vset_now x y1
    have s2 := vset_new { x with now := y1 } y2
    have u1 := vw_len { x with now := y1 }
    have u2 := vw_one { x with now := y1, new := y2 }
    have u3 := vw_len { x with now := y1, new := y2 }
    have u4 := vw_take { x with now := y1, new := y2 }
    have c1 : y1.enc.length = 11 := rfl
    have c2 : y2.enc.length = 11 := rfl
    have c3 : ∀ v ∈ y1.enc, oneB v = true := List.all_eq_true.1 (rfl : y1.enc.all oneB = true)
    have c4 : ∀ v ∈ y2.enc, oneB v = true := List.all_eq_true.1 (rfl : y2.enc.all oneB = true)
    have hobx : ∃ z : VwM, z = { x with now := y1, new := y2 } := ⟨_, rfl⟩
    obtain ⟨z, hz⟩ := hobx
    have hobx : ∃ A5, A5 = A4.set A1.next (.row z.enc 71 false) := ⟨_, rfl⟩
    obtain ⟨A5, hA5⟩ := hobx
    have w5 : A5.wf := by rw [hA5]; exact AH.wf_set hw4 (by omega) _
    have n5 : A5.next = A4.next := by rw [hA5]; rfl
    have x14 : Ext A1 A4 := x2.trans (by omega) (x3.trans (by omega) x4)
    have x15 : Ext A1 A5 := by rw [hA5]; exact x14.setnew (by omega) _
    have nb : ∀ b, ob = some b → b < A1.next := fun b hb => lo.lt hw1 hb
    have lo5 : Lst A5 71 32 ob (.slice ao xs.length co) (xs.map VwM.enc) := lo.kept fun b hb => x15 b (nb b hb)
    have hpush := lo5.push (y := 264) w5 (r := z.enc) ⟨rfl, rfl⟩ (by omega) (by omega) (by simp; omega) (by simp; omega)
    obtain ⟨v6, A6, ob6, p1, p2, p3, p4, p5⟩ := hpush
    rw [show xs.map VwM.enc ++ [z.enc] = (xs ++ [z]).map VwM.enc by simp] at p2
    have hobt := p2.slm
    obtain ⟨a6, c6, hv6, -⟩ := hobt
    subst hv6
    rw [← hz] at s2 u3 u2 u4
    have gv5 : A5.get A1.next = some (.row z.enc 71 false) := by rw [hA5, AH.get_set, if_pos rfl]
    simp [E3, gv4, v1, c1, s1, u1, c2, s2, u3, u4, ← hA5, gv5, p1, E13, E14, E15, hgi]
    refine ⟨c3, c4, ?_⟩
    have f6 : ∀ b cs T ro, A5.get b = some (.row cs T ro) → T ≠ 71 → A6.get b = A5.get b := fun b cs T ro g hT => p3 b (w5 _ _ g) (Lst.ty lo5 g hT)
    have i6 : ∀ b cs ro, A5.get b = some (.row cs 3 ro) → A6.get b = A5.get b := fun b cs ro g => f6 b cs _ ro g (by decide)
    have f45 : ∀ b cs ro, A4.get b = some (.row cs 3 ro) → A5.get b = A4.get b := fun b cs ro g => by
      rw [hA5, AH.get_set, if_neg]
      intro e; subst e; rw [gv4] at g; injection g with g; injection g with _ g _; revert g; decide
    have x06 : Ext A A6 := fun b hb => by rw [p3 b (by omega) (fun e => by have := fo b e; omega), x15 b (by omega), x1 b hb]
    have hvt : m.l.take (i + 1) = m.l.take i ++ [v] := by
      have hobt := List.getElem?_eq_some_iff.1 hv
      obtain ⟨hil, hie⟩ := hobt
      rw [List.take_succ_eq_append_getElem hil, hie]
    have hzv : z.v = v := by
      rw [← hx, hz]; unfold VwM.v; rw [hy1, hy2]
    have zo : z.ok A6 := by
      rw [hz]
      exact ⟨((oy1.fr (FrT.ext hw3 x4)).int f45).int i6, (oy2.int f45).int i6⟩
    refine NX.of ⟨k - 1, by omega, i + 1, ob6, a6, c6, xs ++ [z], by omega, x06, by omega, by rw [List.map_append, hxs, hvt, ← hzv]; rfl, p2, fun b hb => ?_, fun y hy => ?_, by simp, by simp [E13], by simp [E14], by simp⟩
    · rcases p4 with e | e
      · exact fo b (by rw [← e]; exact hb)
      · rw [e] at hb; injection hb with hb; omega
    · rcases List.mem_append.1 hy with hy | hy
      · have h5 : ∀ u : LsM, u.ok A1 → u.ok A6 := fun u hu => (hu.fr (FrT.ext hw1 x15)).int i6
        exact ⟨h5 _ (hok y hy).1, h5 _ (hok y hy).2⟩
      · rw [List.mem_singleton.1 hy]; exact zo
  · have hlt' : ¬ (i : Int) < ps.length := by omega
    obtain rfl : i = ps.length := by omega
    simp [E3, E14, E15, hlt']
    have hso : Sl A1 71 32 ao (xs.map VwM.enc) ∧ (∀ b o, ao = some ⟨b, o, none⟩ → ob = some b) := by
      have hobt := lo.sl
      obtain ⟨a', c', e1, e2, e3⟩ := hobt
      injection e1 with e1; rw [e1]; exact ⟨e2, fun b o e => (e3 b o e).1⟩
    exact DN.of ⟨x1, xs, ao, co, rfl, by rw [hxs, hl, List.take_length], hso.1, hok, fun b o e => by obtain ⟨cs, g⟩ := lst_get lo (hso.2 b o e); exact ⟨cs, false, g⟩⟩
end
section
variable {n0 : Nat} {A A' : AH} {mb : Nat} {ps : List Nat} {m : Mg} {p i : Nat} {v : Vw}
theorem AcM.ok.int {A A' : AH} {x : AcM} (h : x.ok A) (hf : ∀ b cs ro, A.get b = some (.row cs 3 ro) → A'.get b = A.get b) : x.ok A' := by
  obtain ⟨h1, h2, h3⟩ := h
  by_cases hr : x.x.r = []
  · refine ⟨?_, fun h => absurd hr h, h3⟩
    rw [hr] at h1 ⊢
    exact Sl.nil h1.2.1 _ _ _
  have hk : ∀ b o, x.a = some ⟨b, o, none⟩ → A'.get b = A.get b := fun b o e => by
    have hobt := h2 hr b o e
    obtain ⟨cs, ro, g⟩ := hobt
    exact hf b cs ro g
  exact ⟨h1.kept fun b o y e _ => hk b o e, fun _ b o e => by
    have hobt := h2 hr b o e
    obtain ⟨cs, ro, g⟩ := hobt
    exact ⟨cs, ro, (hk b o e).trans g⟩, h3⟩
def ActsM (A : AH) (a : Option Addr) (xs : List AcM) : Prop := Sl A 63 13 a (xs.map AcM.enc) ∧ (∀ x ∈ xs, x.ok A) ∧ (∀ b o, a = some ⟨b, o, none⟩ → ∃ cs ro, A.get b = some (.row cs 63 ro))
def LinesM (A : AH) (a : Option Addr) (xs : List Li) : Prop := Sl A 89 4 a (xs.map Li.enc) ∧ (∀ b o, a = some ⟨b, o, none⟩ → ∃ cs ro, A.get b = some (.row cs 89 ro))
def Only (mb : Nat) (A A' : AH) : Prop := (∀ k, k ≠ mb → A'.get k = A.get k) ∧ A'.next = A.next
theorem MP.lo (h : MP n0 A mb ps m) : n0 ≤ mb := by
  obtain ⟨X, acts, h1, -⟩ := h
  exact h1.lo
theorem MP.mget (h : MP n0 A mb ps m) : ∃ cs, A.get mb = some (.row cs 92 false) := by
  obtain ⟨X, acts, h1, -⟩ := h
  have hobt := h1.man
  obtain ⟨lv, av, nv, g, -⟩ := hobt
  exact ⟨_, g⟩
theorem Only.fr (h : MP n0 A mb ps m) (ho : Only mb A A') : Fr n0 A A' := by
  have hlo := h.lo
  have hobt := h.mget
  obtain ⟨cs, g⟩ := hobt
  exact ⟨fun b hb => ho.1 b (by omega), fun b cs' T ro gb hT => ho.1 b (fun e => by subst e; rw [g] at gb; injection gb with gb; injection gb with _ gb _; exact hT (Or.inl gb.symm))⟩
theorem actions_ok (h : MP n0 A mb ps m) (hm : m.wf) : ACall Tryz.prog 11 [.pointer (some ⟨mb, 0, none⟩)] A fun r A' => Only mb A A' ∧ MP n0 A' mb ps { m with acts := [] } ∧ ∃ (xs : List AcM) (a : Option Addr) (c : Nat), r = .slice a xs.length c ∧ xs.map AcM.x = m.acts ∧ ActsM A' a xs := by
  have hnp : (0 : Int) < m.n := by have := hm.n; omega
  have hg := mp_good h
  obtain ⟨X, acts, h1, h2, h3⟩ := h
  have hobt := h1.man
  obtain ⟨lv, av, nv, g, hl1, ⟨ob, la, fa⟩, hl3⟩ := hobt
  have hobt := la.slm
  obtain ⟨a, c, rfl, hsa⟩ := hobt
  have hbl : ∀ b o, a = some ⟨b, o, none⟩ → ob = some b := by
    have hobt := la.sl
    obtain ⟨a', c', e1, e2, e3⟩ := hobt
    injection e1 with e1; rw [e1]; exact fun b o e => (e3 b o e).1
  have hmo : ob ≠ some mb := Lst.ty la g (by decide)
  have hobx : ∃ A', A' = A.set mb (.row [.int .i64 m.head, .int .i64 m.n, lv, .int .i64 m.count, .slice none 0 0, nv] 92 false) := ⟨_, rfl⟩
  obtain ⟨A', hA'⟩ := hobx
  have ho : Only mb A A' := ⟨fun k hk => by rw [hA', AH.get_set, if_neg hk], by rw [hA']; rfl⟩
  have hf : Fr2 92 63 A A' := fun b cs T ro gb t1 t2 => ho.1 b fun e => by
    subst e; rw [g] at gb; injection gb with gb; injection gb with _ gb _; exact t1 gb.symm
  have gm : A'.get mb = some (.row [.int .i64 m.head, .int .i64 m.n, lv, .int .i64 m.count, .slice none 0 0, nv] 92 false) := by rw [hA', AH.get_set, if_pos rfl]
  have hmg : MgA n0 A' mb m.head m.n ps X m.count [] m.lines := h1.new_acts (ob := none) g gm (Lst.nil _ _ _) (by simp) hf (by simp)
  have hT := hf.frT (Or.inl rfl) (Or.inr (Or.inr (Or.inr (Or.inl rfl))))
  refine code11.call (by simp) fun hwf => ?_
  unfold c11
  simp
  refine CN.use hg ?_
  rintro _ A - - ⟨rfl, rfl⟩
  simp [g, hnp, ← hA', gm]
  refine DN.of ⟨ho, ⟨X, [], hmg, h2, rfl⟩, acts, a, c, rfl, h3.symm, ?_, fun x hx => (h1.ac x hx).fr hT, fun b o e => ?_⟩
  · exact hsa.kept fun b o y e _ => ho.1 b fun e2 => hmo (by rw [hbl b o e, e2])
  · obtain ⟨cs, gb⟩ := lst_get la (hbl b o e)
    exact ⟨cs, false, by rw [ho.1 b fun e2 => hmo (by rw [hbl b o e, e2]), gb]⟩
theorem lines_ok (h : MP n0 A mb ps m) (hm : m.wf) : ACall Tryz.prog 14 [.pointer (some ⟨mb, 0, none⟩)] A fun r A' => Only mb A A' ∧ MP n0 A' mb ps { m with lines := [] } ∧ ∃ (a : Option Addr) (c : Nat), r = .slice a m.lines.length c ∧ LinesM A' a m.lines := by
  have hnp : (0 : Int) < m.n := by have := hm.n; omega
  have hg := mp_good h
  obtain ⟨X, acts, h1, h2, h3⟩ := h
  have hobt := h1.man
  obtain ⟨lv, av, nv, g, hl1, hl3, ⟨ob, la, fa⟩⟩ := hobt
  have hobt := la.slm
  obtain ⟨a, c, rfl, hsa⟩ := hobt
  have hbl : ∀ b o, a = some ⟨b, o, none⟩ → ob = some b := by
    have hobt := la.sl
    obtain ⟨a', c', e1, e2, e3⟩ := hobt
    injection e1 with e1; rw [e1]; exact fun b o e => (e3 b o e).1
  have hmo : ob ≠ some mb := Lst.ty la g (by decide)
  have hobx : ∃ A', A' = A.set mb (.row [.int .i64 m.head, .int .i64 m.n, lv, .int .i64 m.count, av, .slice none 0 0] 92 false) := ⟨_, rfl⟩
  obtain ⟨A', hA'⟩ := hobx
  have ho : Only mb A A' := ⟨fun k hk => by rw [hA', AH.get_set, if_neg hk], by rw [hA']; rfl⟩
  have hf : Fr2 92 89 A A' := fun b cs T ro gb t1 t2 => ho.1 b fun e => by
    subst e; rw [g] at gb; injection gb with gb; injection gb with _ gb _; exact t1 gb.symm
  have gm : A'.get mb = some (.row [.int .i64 m.head, .int .i64 m.n, lv, .int .i64 m.count, av, .slice none 0 0] 92 false) := by rw [hA', AH.get_set, if_pos rfl]
  have hmg : MgA n0 A' mb m.head m.n ps X m.count acts [] := h1.new_lines (ob := none) g gm (Lst.nil _ _ _) (by simp) hf
  refine code14.call (by simp) fun hwf => ?_
  unfold c14
  simp
  refine CN.use hg ?_
  rintro _ A - - ⟨rfl, rfl⟩
  simp [g, hnp, ← hA', gm]
  refine DN.of ⟨ho, ⟨X, acts, hmg, h2, h3⟩, a, c, rfl, ?_, fun b o e => ?_⟩
  · exact hsa.kept fun b o y e _ => ho.1 b fun e2 => hmo (by rw [hbl b o e, e2])
  · obtain ⟨cs, gb⟩ := lst_get la (hbl b o e)
    exact ⟨cs, false, by rw [ho.1 b fun e2 => hmo (by rw [hbl b o e, e2]), gb]⟩
def mgN (head n : Int) : Mg := ⟨head, n, [], 0, [], []⟩
def newB (head n : Int) : Bool := decide (1 ≤ n ∧ n ≤ 16 ∧ 0 ≤ head ∧ head < n)
theorem mgN_wf {head n : Int} (h : newB head n = true) : (mgN head n).wf := by
  simp only [newB, decide_eq_true_eq] at h
  exact ⟨⟨h.2.2.1, by show head < 16; omega⟩, ⟨h.1, h.2.1⟩, by simp [mgN], by simp [mgN], by simp [mgN]⟩
theorem new_ok (head n : Int) (A : AH) : ACall Tryz.prog 6 [.int .i64 head, .int .i64 n] A fun r A' => Ext A A' ∧ ((newB head n = false ∧ r = .pointer none) ∨ (newB head n = true ∧ ∃ mb, A.next ≤ mb ∧ r = .pointer (some ⟨mb, 0, none⟩) ∧ MP A.next A' mb [] (mgN head n))) := by
  by_cases h : newB head n = true
  · have h' := h
    simp only [newB, decide_eq_true_eq] at h'
    have e1 : ¬ n < 1 := by omega
    have e2 : ¬ 16 < n := by omega
    have e3 : ¬ head < 0 := by omega
    have e4 : ¬ n ≤ head := by omega
    refine code6.call (by simp) fun hwf => ?_
    unfold c6
    simp [e1, e2, e3, e4]
    refine DN.of ⟨Ext.alloc A _, Or.inr ⟨h, A.next, Nat.le_refl _, rfl, fun _ => ⟨0, 0, wtZ, lmZ, lmZ, 0, 0⟩, [], ⟨⟨_, _, _, by rw [AH.get_new]; rfl, ⟨none, Lst.nil _ _ _, by simp⟩, ⟨none, Lst.nil _ _ _, by simp⟩, ⟨none, Lst.nil _ _ _, by simp⟩⟩, Nat.le_refl _, by simp, by simp, by simp⟩, rfl, rfl⟩⟩
  · have h' : newB head n = false := by simpa using h
    have goal : ∀ A' : AH, Ext A A' → Ext A A' ∧ ((newB head n = false ∧ Value.pointer none = .pointer none) ∨ (newB head n = true ∧ ∃ mb, A.next ≤ mb ∧ Value.pointer none = .pointer (some ⟨mb, 0, none⟩) ∧ MP A.next A' mb [] (mgN head n))) := fun A' hx => ⟨hx, Or.inl ⟨h', rfl⟩⟩
    by_cases e1 : n < 1
    · refine code6.call (by simp) fun hwf => ?_
      unfold c6
      simp [e1]
      exact DN.of (goal _ (Ext.refl _))
    by_cases e2 : 16 < n
    · refine code6.call (by simp) fun hwf => ?_
      unfold c6
      simp [e1, e2]
      exact DN.of (goal _ (Ext.refl _))
    by_cases e3 : head < 0
    · refine code6.call (by simp) fun hwf => ?_
      unfold c6
      simp [e1, e2, e3]
      exact DN.of (goal _ (Ext.refl _))
    · have e4 : n ≤ head := by
        simp only [newB, decide_eq_false_iff_not] at h'
        omega
      refine code6.call (by simp) fun hwf => ?_
      unfold c6
      simp [e1, e2, e3, e4]
      exact DN.of (goal _ (Ext.refl _))
end
theorem MgA.keep {n0 : Nat} {A A' : AH} {mb : Nat} {hd n : Int} {ps : List Nat} {X : Nat → VwM} {cnt : Int} {acts : List AcM} {lns : List Li} (h : MgA n0 A mb hd n ps X cnt acts lns) (hf : ∀ k cs T ro, A.get k = some (.row cs T ro) → OwnT T ∨ T = 3 ∨ T = 109 → A'.get k = A.get k) : MgA n0 A' mb hd n ps X cnt acts lns := by
  obtain ⟨⟨lv, av, nv, g, ⟨o1, l1, f1⟩, ⟨o2, l2, f2⟩, ⟨o3, l3, f3⟩⟩, h2, h3, h4, h5⟩ := h
  have hi : ∀ b cs ro, A.get b = some (.row cs 3 ro) → A'.get b = A.get b := fun b cs ro g => hf b cs _ ro g (Or.inr (Or.inl rfl))
  have hk : ∀ {e z ob v L}, OwnT e ∨ e = 3 ∨ e = 109 → Lst A e z ob v L → Lst A' e z ob v L := fun he hl => hl.kept fun b hb => by
    have hobt := lst_get hl hb
    obtain ⟨cs, gb⟩ := hobt
    exact hf b cs _ _ gb he
  exact ⟨⟨lv, av, nv, by rw [hf mb _ _ _ g (Or.inl (Or.inl rfl))]; exact g, ⟨o1, hk (Or.inr (Or.inr rfl)) l1, f1⟩, ⟨o2, hk (Or.inl (by unfold OwnT; decide)) l2, f2⟩, ⟨o3, hk (Or.inl (by unfold OwnT; decide)) l3, f3⟩⟩, h2, fun p hp => ⟨(h3 p hp).1, by rw [hf p _ _ _ (h3 p hp).2.1 (Or.inl (Or.inr (Or.inl rfl)))]; exact (h3 p hp).2.1, (h3 p hp).2.2.1.int hi, (h3 p hp).2.2.2.int hi⟩, h4, fun y hy => (h5 y hy).int hi⟩
section
variable {n0 : Nat} {A A' : AH} {mb : Nat} {ps : List Nat} {m : Mg} {p i : Nat} {v : Vw}
theorem MP.keep (h : MP n0 A mb ps m) (hf : ∀ k cs T ro, A.get k = some (.row cs T ro) → OwnT T ∨ T = 3 ∨ T = 109 → A'.get k = A.get k) : MP n0 A' mb ps m := by
  obtain ⟨X, acts, h1, h2, h3⟩ := h
  exact ⟨X, acts, h1.keep hf, h2, h3⟩
theorem stop_box_ok (h : MP n0 A mb ps m) (hp : ps[i]? = some p) (hv : m.l[i]? = some v) {b : Nat} {y : LsM} (gb : A.get b = some (.row y.enc 69 false)) (hr : m.room 1) (hn0 : n0 ≤ A.next) : ACall Tryz.prog 51 [.pointer (some ⟨p, 0, none⟩), .pointer (some ⟨b, 0, none⟩)] A fun _ A' => MP n0 A' mb ps (m.stop v.tn y.s) ∧ (∀ k, k < n0 → k ≠ b → A'.get k = A.get k) ∧ (∀ k cs T ro, A.get k = some (.row cs T ro) → ¬ OwnT T → k ≠ b → A'.get k = A.get k) := by
  have hobt := y.cells
  obtain ⟨c1, c2, c3, c4, c5, c6, c7⟩ := hobt
  have c5' : y.enc.take 11 = y.enc := c5
  have hb : spl y.enc 0 lmZ.enc = lmZ.enc := rfl
  have hzc : lmZ.enc = [.int .i64 0, .int .i64 0, .int .i64 0, .int .i64 0, .int .u64 0, .int .i64 0, .int .i64 0, .int .u32 0, .int .u32 0, .int .u32 0, .slice none 0 0] := rfl
  rw [hzc] at hb
  refine ACall.wf fun hwf => ?_
  have fin : ∀ A3 : AH, A3.get b = some (.row y.enc 69 false) → ∀ m', MP n0 A3 mb ps m' → Fr n0 A A3 → MP n0 (A3.set b (.row [.int .i64 0, .int .i64 0, .int .i64 0, .int .i64 0, .int .u64 0, .int .i64 0, .int .i64 0, .int .u32 0, .int .u32 0, .int .u32 0, .slice none 0 0] 69 false)) mb ps m' ∧ (∀ k, k < n0 → k ≠ b → (A3.set b (.row [.int .i64 0, .int .i64 0, .int .i64 0, .int .i64 0, .int .u64 0, .int .i64 0, .int .i64 0, .int .u32 0, .int .u32 0, .int .u32 0, .slice none 0 0] 69 false)).get k = A.get k) ∧ (∀ k cs T ro, A.get k = some (.row cs T ro) → ¬ OwnT T → k ≠ b → (A3.set b (.row [.int .i64 0, .int .i64 0, .int .i64 0, .int .i64 0, .int .u64 0, .int .i64 0, .int .i64 0, .int .u32 0, .int .u32 0, .int .u32 0, .slice none 0 0] 69 false)).get k = A.get k) := fun A3 g3 m' h3 f3 => by
    refine ⟨h3.keep fun k cs T ro g hT => ?_, fun k hk hkb => by rw [AH.get_set, if_neg hkb]; exact f3.1 k hk, fun k cs T ro g hT hkb => by rw [AH.get_set, if_neg hkb]; exact f3.2 k cs T ro g hT⟩
    rw [AH.get_set, if_neg]
    intro e; subst e
    rw [g3] at g; injection g with g; injection g with _ g _; subst g
    rcases hT with hT | hT
    · unfold OwnT at hT; revert hT; decide
    · revert hT; decide
  by_cases hk : y.s.k.lsp = 0
  · have hs : m.stop v.tn y.s = m := by unfold Mg.stop; rw [if_pos hk]
    refine code51.call (by simp) fun hwf => ?_
    unfold c51
    simp [gb, c1, c5']
    refine CN.use (lis_ok y A) ?_
    rintro _ A2 hw2 hn2 ⟨rfl, x2⟩
    have gb2 := x2.get hwf gb
    simp [hk, gb2, c1, hb]
    exact DN.of (by rw [hs]; exact fin A2 gb2 m (h.ext hwf x2) (Fr.ext hwf hn0 x2))
  · have hs : m.stop v.tn y.s = m.does ⟨2, v.tn, y.s.k, wtZ, []⟩ := by unfold Mg.stop; rw [if_neg hk]
    have hsb := stop_build y.s.k
    refine code51.call (by simp) fun hwf => ?_
    unfold c51
    simp [gb, c1, c5']
    refine CN.use (lis_ok y A) ?_
    rintro _ A2 hw2 hn2 ⟨rfl, x2⟩
    have gb2 := x2.get hwf gb
    have h2 := h.ext hwf x2
    simp [hk, gb2, c1, c3]
    refine CN.use (mp_does h2 hp hv (stopA y.s.k 0) (stopA_ok _ _ _) hr (by omega)) ?_
    rintro _ A3 hw3 hn3 ⟨h3, f3⟩
    have gb3 : A3.get b = some (.row y.enc 69 false) := by rw [f3.2 b _ _ _ gb2 (by unfold OwnT; decide), gb2]
    simp [gb3, c1, hb]
    exact DN.of (by rw [hs]; exact fin A3 gb3 _ h3 ((Fr.ext hwf hn0 x2).trans f3))
def Mg.ups (m : Mg) (i : Nat) (v : Vw) (now : Int) : Mg := (((m.put i { v with now := v.new, new := lsZ, back := 1 }).says ⟨now, v.tn, 1, 0⟩).does ⟨3, v.tn, v.new.k, wtZ, []⟩).stop v.tn v.now
theorem map_build (k : Ky) : spl (spl [Value.int .i64 0, .int .i64 0, .int .i64 0, .int .i64 0, .int .i64 0, .int .i64 0, .int .u64 0, .int .i64 0, .int .i64 0, .int .u32 0, .int .u32 0, .int .u32 0, .slice none 0 0] 0 [.int .i64 3]) 2 k.enc = (bareA 3 k).enc := rfl
set_option maxHeartbeats 4000000 in
theorem ups_ok (h : MP n0 A mb ps m) (hp : ps[i]? = some p) (hv : m.l[i]? = some v) (now : Int) (hr : m.room 2) (hn0 : n0 ≤ A.next) : ACall Tryz.prog 50 [.pointer (some ⟨p, 0, none⟩), .int .i64 now] A fun _ A' => MP n0 A' mb ps (m.ups i v now) ∧ Fr n0 A A' := by
  have hobt := h.row hp hv
  obtain ⟨x, hx, gp, hxo, hnp⟩ := hobt
  refine ACall.wf fun hwf => ?_
  have hpl := hwf _ _ gp
  have hpn : ¬ p = A.next := by omega
  have rl := row_len x mb
  have rn := row_now x mb
  have rw' := row_new x mb
  have hobx : ∃ A1, A1 = A.alloc (.row x.now.enc 69 false) := ⟨_, rfl⟩
  obtain ⟨A1, hA1⟩ := hobx
  have w1 : A1.wf := by rw [hA1]; exact AH.wf_alloc hwf _
  have n1 : A1.next = A.next + 1 := by rw [hA1]; rfl
  have x1 : Ext A A1 := by rw [hA1]; exact Ext.alloc A _
  have gb1 : A1.get A.next = some (.row x.now.enc 69 false) := by rw [hA1, AH.get_new]
  have h1 := h.ext hwf x1
  have gp1 := x1.get hwf gp
  have hobx : ∃ y : VwM, y = { x with now := x.new, new := lmZ, back := 1 } := ⟨_, rfl⟩
  obtain ⟨y, hy⟩ := hobx
  have hyo : y.ok A1 := by rw [hy]; exact ⟨hxo.2.fr (FrT.ext hwf x1), lmZ_ok _⟩
  have hset := h1.set hp hv hyo
  have hyv : y.v = { v with now := v.new, new := lsZ, back := 1 } := by rw [hy, ← hx]; rfl
  rw [hyv] at hset
  obtain ⟨h2, f12⟩ := hset
  have hobx : ∃ A2, A2 = A1.set p (.row (y.row mb) 111 false) := ⟨_, rfl⟩
  obtain ⟨A2, hA2⟩ := hobx
  rw [← hA2] at h2 f12
  have n2 : A2.next = A1.next := by rw [hA2]; rfl
  have gb2 : A2.get A.next = some (.row x.now.enc 69 false) := by rw [hA2, AH.get_set, if_neg (fun e => hpn e.symm), gb1]
  have i1 : spl (x.row mb) 8 x.new.enc = VwM.row { x with now := x.new } mb := set_now x mb x.new
  have i2 : spl (VwM.row { x with now := x.new } mb) 19 lmZ.enc = VwM.row { x with now := x.new, new := lmZ } mb := set_new _ mb lmZ
  have i3 : spl (VwM.row { x with now := x.new, new := lmZ } mb) 31 [.int .i64 1] = y.row mb := by rw [hy]; exact set_back _ mb 1
  have j1 := row_len { x with now := x.new } mb
  have j2 := row_len { x with now := x.new, new := lmZ } mb
  have hzc : lmZ.enc = [.int .i64 0, .int .i64 0, .int .i64 0, .int .i64 0, .int .u64 0, .int .i64 0, .int .i64 0, .int .u32 0, .int .u32 0, .int .u32 0, .slice none 0 0] := rfl
  rw [hzc] at i2
  have l1 : x.now.enc.length = 11 := rfl
  have l2 : x.new.enc.length = 11 := rfl
  have o1 : ∀ v ∈ x.now.enc, oneB v = true := List.all_eq_true.1 (rfl : x.now.enc.all oneB = true)
  have o2 : ∀ v ∈ x.new.enc, oneB v = true := List.all_eq_true.1 (rfl : x.new.enc.all oneB = true)
  have l3 : spl [Value.int .i64 0, .int .i64 0, .int .i64 0, .int .i64 0, .int .u64 0, .int .i64 0, .int .i64 0, .int .u32 0, .int .u32 0, .int .u32 0, .slice none 0 0] 0 x.now.enc = x.now.enc := rfl
  have hv2 : (m.put i { v with now := v.new, new := lsZ, back := 1 }).l[i]? = some { v with now := v.new, new := lsZ, back := 1 } := by
    show (m.l.set i _)[i]? = _
    rw [List.getElem?_set, if_pos rfl, if_pos (List.getElem?_eq_some_iff.1 hv).1]
  refine code50.call (by simp) fun hwf => ?_
  unfold c50
  simp [gp, rl, rn, l1, l3, ← hA1, hpn, gp1, rw', l2, i1, i2, i3, j1, j2, ← hA2]
  refine ⟨o1, o2, ?_⟩
  refine CN.use (mp_says h2 hp hv2 now 1 0 ⟨by have := hr.1; simp [Mg.put]; omega, by have := hr.2; simp [Mg.put]; omega⟩ (by omega)) ?_
  rintro _ A3 hw3 hn3 ⟨h3, f3⟩
  have hobt := h3.row hp hv2
  obtain ⟨x3, hx3, gp3, -, -⟩ := hobt
  have rk3 := row_nowk x3 mb
  have k3 : x3.now.s.k.enc = v.new.k.enc := by
    have : x3.now.s.k = v.new.k := by
      have := congrArg Vw.now hx3
      have h' := congrArg Ls.k this
      exact h'
    rw [this]
  have rl3 := row_len x3 mb
  have hmb := map_build v.new.k
  simp [gp3, rl3, rk3, k3]
  refine CN.use (mp_does h3 hp hv2 (bareA 3 v.new.k) (bareA_ok _ _ _) ⟨by have := hr.1; simp [Mg.put, Mg.says]; omega, by have := hr.2; simp [Mg.put, Mg.says]; omega⟩ (by omega)) ?_
  rintro _ A4 hw4 hn4 ⟨h4, f4⟩
  have gb3 : A3.get A.next = some (.row x.now.enc 69 false) := by rw [f3.2 _ _ _ _ gb2 (by unfold OwnT; decide), gb2]
  have gb4 : A4.get A.next = some (.row x.now.enc 69 false) := by rw [f4.2 _ _ _ _ gb3 (by unfold OwnT; decide), gb3]
  simp
  refine CN.use (stop_box_ok h4 hp hv2 gb4 ⟨by have := hr.1; simp [Mg.put, Mg.says, Mg.does]; omega, by have := hr.2; simp [Mg.put, Mg.says, Mg.does]; omega⟩ (by omega)) ?_
  rintro _ A5 hw5 hn5 ⟨h5, f5, f5'⟩
  simp
  have hxn : x.now.s = v.now := by rw [← hx]; rfl
  have f04 : Fr n0 A A4 := (Fr.ext hwf hn0 x1).trans (f12.trans (f3.trans f4))
  refine DN.of ⟨by rw [hxn] at h5; exact h5, fun b hb => ?_, fun b cs T ro g hT => ?_⟩
  · rw [f5 b hb (by omega), f04.1 b hb]
  · have hbl := hwf _ _ g
    have g4 := f04.2 b cs T ro g hT
    rw [f5' b cs T ro (g4.trans g) hT (by omega), g4]
end
theorem wtZ_wf : wtZ.wf := by unfold Wt.wf wtZ; simp
theorem Mg.wf.put {m : Mg} (h : m.wf) (i : Nat) {v : Vw} (hv : v.wf) : (m.put i v).wf := ⟨h.hd, h.n, h.cnt, fun u hu => by
  rcases List.mem_or_eq_of_mem_set hu with hu | hu
  · exact h.vs u hu
  · rw [hu]; exact hv, by show (m.l.set i v).length ≤ 16; rw [List.length_set]; exact h.len⟩
theorem Mg.wf.does {m : Mg} (h : m.wf) (a : Ac) : (m.does a).wf := ⟨h.hd, h.n, h.cnt, h.vs, h.len⟩
theorem Mg.wf.says {m : Mg} (h : m.wf) (a : Li) : (m.says a).wf := ⟨h.hd, h.n, h.cnt, h.vs, h.len⟩
theorem Mg.wf.stop {m : Mg} (h : m.wf) (tn : Int) (x : Ls) : (m.stop tn x).wf := by
  unfold Mg.stop; split
  · exact h
  · exact h.does _
theorem Mg.wf.fails {m : Mg} (h : m.wf) (i : Nat) {v : Vw} (hv : v.wf) (now code : Int) : (m.fails i v now code).wf := by
  unfold Mg.fails
  refine (h.put i ?_).says _
  exact ⟨⟨by show 0 ≤ min (2 * v.back) 8; have := hv.1; omega, by show min (2 * v.back) 8 ≤ 8; omega⟩, hv.2⟩
theorem Mg.wf.tries {m : Mg} (h : m.wf) (i : Nat) {v : Vw} (hv : v.wf) (now : Int) (l : List Adv) : (m.tries i v now l).wf := by
  unfold Mg.tries
  simp only
  have hobx : ∃ f, f = FN m.n l (askV v) m.head v.tl := ⟨_, rfl⟩
  obtain ⟨f, hf⟩ := hobx
  rw [← hf]
  have hobx : ∃ E : Int, E = if f.1 = 0 ∧ 65535 ≤ m.count then 7 else f.1 := ⟨_, rfl⟩
  obtain ⟨E, hE⟩ := hobx
  rw [← hE]
  by_cases he : E ≠ 0
  · rw [if_pos he]; exact h.fails i hv _ _
  · rw [if_neg he]
    have hc := h.cnt
    have hp : Vw.wf { v with new := ⟨⟨v.tl, v.tn, m.head, m.count + 1⟩, v.w, f.2⟩, wait := now + 10 } := ⟨hv.1, hv.2.1, hv.2.2.1, hv.2.1⟩
    have hc1 : m.count + 1 ≤ 65535 := by
      by_cases h7 : 65535 ≤ m.count
      · exfalso
        apply he
        rw [hE]
        by_cases hf : f.1 = 0
        · rw [if_pos ⟨hf, h7⟩]; decide
        · rw [if_neg (fun x => hf x.1)]; exact hf
      · omega
    exact Mg.wf.does (Mg.wf.put (m := { m with count := m.count + 1 }) ⟨h.hd, h.n, ⟨by show 0 ≤ m.count + 1; omega, hc1⟩, h.vs, h.len⟩ i hp) _
theorem Mg.wf.leave {m : Mg} (h : m.wf) (i : Nat) {v : Vw} (hv : v.wf) : (m.leave i v).wf := by
  unfold Mg.leave
  refine Mg.wf.put (Mg.wf.stop ?_ _ _) i ⟨hv.1, hv.2.1, wtZ_wf, hv.2.2.2⟩
  split
  · exact h
  · exact h.does _
theorem Mg.wf.ups {m : Mg} (h : m.wf) (i : Nat) {v : Vw} (hv : v.wf) (now : Int) : (m.ups i v now).wf := by
  unfold Mg.ups
  have hp : Vw.wf { v with now := v.new, new := lsZ, back := 1 } := ⟨by show (0:Int) ≤ 1 ∧ (1 : Int) ≤ 8; omega, hv.2.1, hv.2.2.2, wtZ_wf⟩
  exact (((h.put i hp).says _).does _).stop _ _
theorem Mg.put_at {m : Mg} {i : Nat} {v w : Vw} (h : m.l[i]? = some v) : (m.put i w).l[i]? = some w := by
  show (m.l.set i _)[i]? = _
  rw [List.getElem?_set, if_pos rfl, if_pos (List.getElem?_eq_some_iff.1 h).1]
theorem Mg.stop_l (m : Mg) (tn : Int) (x : Ls) : (m.stop tn x).l = m.l := by unfold Mg.stop; split <;> rfl
theorem Mg.stop_lines (m : Mg) (tn : Int) (x : Ls) : (m.stop tn x).lines = m.lines := by unfold Mg.stop; split <;> rfl
theorem Mg.stop_acts (m : Mg) (tn : Int) (x : Ls) : (m.stop tn x).acts.length ≤ m.acts.length + 1 := by unfold Mg.stop Mg.does; split <;> simp
theorem Mg.room.stop {m : Mg} {k : Nat} (h : m.room (k + 1)) (tn : Int) (x : Ls) : (m.stop tn x).room k := by
  have := h.1; have := h.2; have := m.stop_acts tn x
  exact ⟨by omega, by rw [m.stop_lines]; omega⟩
theorem Mg.room.does {m : Mg} {k : Nat} (h : m.room (k + 1)) (a : Ac) : (m.does a).room k := ⟨by have := h.1; simp [Mg.does]; omega, by have := h.2; simp [Mg.does]; omega⟩
theorem Mg.room.says {m : Mg} {k : Nat} (h : m.room (k + 1)) (a : Li) : (m.says a).room k := ⟨by have := h.1; simp [Mg.says]; omega, by have := h.2; simp [Mg.says]; omega⟩
theorem Mg.room.put {m : Mg} {k : Nat} (h : m.room k) (i : Nat) (v : Vw) : (m.put i v).room k := h
theorem Mg.room.le {m : Mg} {k j : Nat} (h : m.room k) (hj : j ≤ k) : m.room j := ⟨by have := h.1; omega, by have := h.2; omega⟩
theorem Mg.room.leave {m : Mg} {k : Nat} (h : m.room (k + 2)) (i : Nat) (v : Vw) : (m.leave i v).room k := by
  unfold Mg.leave
  refine Mg.room.put (Mg.room.stop ?_ _ _) _ _
  split
  · exact h.le (by omega)
  · exact h.does _
theorem Mg.leave_at {m : Mg} {i : Nat} {v : Vw} (h : m.l[i]? = some v) : (m.leave i v).l[i]? = some { v with now := lsZ } := by
  unfold Mg.leave
  apply Mg.put_at (v := v)
  rw [Mg.stop_l]
  split
  · exact h
  · exact h
def mayB (now : Int) : Bool := decide (0 ≤ now ∧ now ≤ 1099511627766)
def vwZ : Vw := ⟨0, 0, wtZ, lsZ, lsZ, 0, 0⟩
structure Ev where
  what : Int
  k : Ky
  code : Int
def Ev.enc (e : Ev) : List Value := (.int .i64 e.what :: e.k.enc) ++ [.int .i64 e.code]
def Mg.event (m : Mg) (now : Int) (e : Ev) : Mg × Int :=
  if mayB now = false then (m, 2) else
  match ownI m.l e.k with
  | none => (m, 8)
  | some i =>
    let v := m.l.getD i vwZ
    if e.what = 1 ∧ v.new.k = e.k then (m.ups i v now, 0)
    else if e.what = 2 ∧ v.new.k = e.k then (((m.stop v.tn v.new).put i { v with new := lsZ }).fails i { v with new := lsZ } now e.code, 0)
    else if e.what = 2 then (((m.leave i v).says ⟨now, v.tn, 2, e.code⟩).put i { v with now := lsZ, wait := now + 1, back := 1 }, 0)
    else (m, 0)
section
variable {n0 : Nat} {A A' : AH} {mb : Nat} {ps : List Nat} {m : Mg} {p i : Nat} {v : Vw}
set_option maxHeartbeats 4000000 in
theorem event_ok (h : MP n0 A mb ps m) (hm : m.wf) (now : Int) (e : Ev) (hr : m.room 10) (hn0 : n0 ≤ A.next) : ACall Tryz.prog 21 [.pointer (some ⟨mb, 0, none⟩), .int .i64 now, .agg e.enc.toArray] A fun r A' => MP n0 A' mb ps (m.event now e).1 ∧ r = .int .i64 (m.event now e).2 ∧ Fr n0 A A' := by
  have hnp : (0 : Int) < m.n := by have := hm.n; omega
  have el : e.enc.length = 6 := rfl
  have e0 : e.enc[0]'(by omega) = .int .i64 e.what := rfl
  have e5 : e.enc[5]'(by omega) = .int .i64 e.code := rfl
  have e1 : List.take 4 e.enc.tail = e.k.enc := rfl
  refine ACall.wf fun hwf => ?_
  have hobx : ∃ A1, A1 = A.alloc (.row e.enc 87 false) := ⟨_, rfl⟩
  obtain ⟨A1, hA1⟩ := hobx
  have w1 : A1.wf := by rw [hA1]; exact AH.wf_alloc hwf _
  have n1 : A1.next = A.next + 1 := by rw [hA1]; rfl
  have x1 : Ext A A1 := by rw [hA1]; exact Ext.alloc A _
  have ge : A1.get A.next = some (.row e.enc 87 false) := by rw [hA1, AH.get_new]
  have h1 := h.ext hwf x1
  have f1 := Fr.ext hwf hn0 x1
  have bm : mayB now = true → 0 ≤ now ∧ now ≤ 1099511627766 := fun h => by simpa [mayB] using h
  cases hmay : mayB now
  · have hev : m.event now e = (m, 2) := by unfold Mg.event; rw [if_pos hmay]
    have hmay' : ¬ (0 ≤ now ∧ now ≤ 1099511627766) := by simpa [mayB] using hmay
    refine code21.call (by simp) fun hwf => ?_
    unfold c21
    simp [el, ← hA1]
    refine CN.use (mp_good h1) ?_
    rintro _ A2 - - ⟨rfl, rfl⟩
    simp [hnp]
    refine CN.use (may_ok now A2) ?_
    rintro _ A3 - - ⟨rfl, rfl⟩
    simp [hmay']
    exact DN.of ⟨by rw [hev]; exact h1, by rw [hev], f1⟩
  have hmay' := bm hmay
  refine code21.call (by simp) fun hwf => ?_
  unfold c21
  simp [el, ← hA1]
  refine CN.use (mp_good h1) ?_
  rintro _ A2 - - ⟨rfl, rfl⟩
  simp [hnp]
  refine CN.use (may_ok now A2) ?_
  rintro _ A3 - - ⟨rfl, rfl⟩
  simp [hmay', ge, el, e1]
  refine CN.use (owner_ok h1 hm e.k) ?_
  rintro r4 A4 hw4 hn4 ⟨x4, ho⟩
  have h4 := h1.ext w1 x4
  have f4 := f1.trans (Fr.ext w1 (by omega) x4)
  have ge4 := x4.get w1 ge
  rcases ho with ⟨ho, rfl⟩ | ⟨i, p, ho, hp, rfl⟩
  · have hev : m.event now e = (m, 8) := by unfold Mg.event; rw [if_neg (by simp [hmay]), ho]
    simp
    exact DN.of ⟨by rw [hev]; exact h4, by rw [hev], f4⟩
  have hobt := h4.vp hp
  obtain ⟨v, hv⟩ := hobt
  have hobt := h4.row hp hv
  obtain ⟨x, hx, gp, -, -⟩ := hobt
  have rl := row_len x mb
  have rk := row_newk x mb
  have hxk : x.new.s.k = v.new.k := by rw [← hx]; rfl
  have hvd : m.l.getD i vwZ = v := by rw [List.getD_eq_getElem?_getD, hv]; rfl
  have hev : m.event now e = (if e.what = 1 ∧ v.new.k = e.k then (m.ups i v now, 0)
    else if e.what = 2 ∧ v.new.k = e.k then (((m.stop v.tn v.new).put i { v with new := lsZ }).fails i { v with new := lsZ } now e.code, 0)
    else if e.what = 2 then (((m.leave i v).says ⟨now, v.tn, 2, e.code⟩).put i { v with now := lsZ, wait := now + 1, back := 1 }, 0)
    else (m, 0)) := by unfold Mg.event; rw [if_neg (by simp [hmay]), ho]; simp only [hvd]
  have hvw := hm.vs v (List.mem_of_getElem? hv)
  by_cases hk : v.new.k = e.k
  · by_cases hw1 : e.what = 1
    · simp [gp, ge4, rl, rk, el, e1, hxk, hk, e0, hw1]
      refine CN.use (ups_ok h4 hp hv now (hr.le (by omega)) (by omega)) ?_
      rintro _ A5 hw5 hn5 ⟨h5, f5⟩
      simp
      exact DN.of ⟨by rw [hev, if_pos ⟨hw1, hk⟩]; exact h5, by rw [hev, if_pos ⟨hw1, hk⟩], f4.trans f5⟩
    · by_cases hw2 : e.what = 2
      · simp [gp, ge4, rl, rk, el, e1, hxk, hk, e0, hw1, hw2]
        refine CN.use (mp_stop_new h4 hp hv (hr.le (by omega)) (by omega)) ?_
        rintro _ A5 hw5 hn5 ⟨h5, f5⟩
        have ge5 : A5.get A.next = some (.row e.enc 87 false) := by rw [f5.2 _ _ _ _ ge4 (by unfold OwnT; decide), ge4]
        simp [ge5, el, e5]
        have hvz : Vw.wf { v with new := lsZ } := ⟨hvw.1, hvw.2.1, hvw.2.2.1, wtZ_wf⟩
        refine CN.use (mp_fails h5 hp (Mg.put_at (by rw [Mg.stop_l]; exact hv)) now e.code (((hr.le (by omega)).stop (k := 1) _ _).put _ _) (by omega) hmay' ((hm.stop _ _).put i hvz)) ?_
        rintro _ A6 hw6 hn6 ⟨h6, f6⟩
        simp
        have hev2 : m.event now e = (((m.stop v.tn v.new).put i { v with new := lsZ }).fails i { v with new := lsZ } now e.code, 0) := by rw [hev, if_neg (fun h => hw1 h.1), if_pos ⟨hw2, hk⟩]
        exact DN.of ⟨by rw [hev2]; exact h6, by rw [hev2], f4.trans (f5.trans f6)⟩
      · have hev2 : m.event now e = (m, 0) := by rw [hev, if_neg (fun h => hw1 h.1), if_neg (fun h => hw2 h.1), if_neg hw2]
        simp [gp, ge4, rl, rk, el, e1, hxk, hk, e0, hw1, hw2]
        exact DN.of ⟨by rw [hev2]; exact h4, by rw [hev2], f4⟩
  · by_cases hw2 : e.what = 2
    · have hw21 : ¬ (2 : Int) = 1 := by omega
      simp [gp, ge4, rl, rk, el, e1, hxk, hk, e0, hw2]
      refine CN.use (leave_ok h4 hp hv (hr.le (by omega)) (by omega)) ?_
      rintro _ A5 hw5 hn5 ⟨h5, f5⟩
      have ge5 : A5.get A.next = some (.row e.enc 87 false) := by rw [f5.2 _ _ _ _ ge4 (by unfold OwnT; decide), ge4]
      simp [ge5, el, e5]
      refine CN.use (mp_says h5 hp (Mg.leave_at hv) now 2 e.code ((hr.le (by omega)).leave (k := 1) _ _) (by omega)) ?_
      rintro _ A6 hw6 hn6 ⟨h6, f6⟩
      have hg1 : IntKind.i64.wrap (now + 1) = now + 1 := i64_in (by omega) (by omega)
      simp [hg1]
      refine CN.use (mp_rests h6 hp (Mg.leave_at hv) (now + 1)) ?_
      rintro _ A7 hw7 hn7 ⟨h7, f7⟩
      simp
      have hev2 : m.event now e = (((m.leave i v).says ⟨now, v.tn, 2, e.code⟩).put i { v with now := lsZ, wait := now + 1, back := 1 }, 0) := by rw [hev, if_neg (fun h => hk h.2), if_neg (fun h => hk h.2), if_pos hw2]
      exact DN.of ⟨by rw [hev2]; exact h7, by rw [hev2], f4.trans (f5.trans (f6.trans f7))⟩
    · have hev2 : m.event now e = (m, 0) := by rw [hev, if_neg (fun h => hk h.2), if_neg (fun h => hk h.2), if_neg hw2]
      by_cases hw1 : e.what = 1
      · simp [gp, ge4, rl, rk, el, e1, hxk, hk, e0, hw1, hw2]
        exact DN.of ⟨by rw [hev2]; exact h4, by rw [hev2], f4⟩
      · simp [gp, ge4, rl, rk, el, e1, hxk, hk, e0, hw1, hw2]
        exact DN.of ⟨by rw [hev2]; exact h4, by rw [hev2], f4⟩
end
section
variable {n0 : Nat} {A A' : AH} {mb : Nat} {hd n : Int} {ps ps' : List Nat} {X : Nat → VwM} {cnt : Int} {acts : List AcM} {lns : List Li} {p : Nat}
theorem rests_raw {x : VwM} (gp : A.get p = some (.row (x.row mb) 111 false)) (u : Int) : ACall Tryz.prog 45 [.pointer (some ⟨p, 0, none⟩), .int .i64 u] A fun _ A' => A' = A.set p (.row (VwM.row { x with wait := u, back := 1 } mb) 111 false) := by
  have rl := row_len x mb
  have s1 := set_wait x mb u
  have rl2 := row_len { x with wait := u } mb
  have s2 := set_back { x with wait := u } mb 1
  refine code45.call (by simp) fun hwf => ?_
  unfold c45
  simp [gp, rl, s1, rl2, s2]
  exact DN.of rfl
theorem MgA.list {lv av nv lv' : Value} {ob : Option Nat} (h : MgA n0 A mb hd n ps X cnt acts lns) (g0 : A.get mb = some (.row [.int .i64 hd, .int .i64 n, lv, .int .i64 cnt, av, nv] 92 false)) (g : A'.get mb = some (.row [.int .i64 hd, .int .i64 n, lv', .int .i64 cnt, av, nv] 92 false)) (hl : Lst A' 109 1 ob lv' (ps'.map ptrT)) (hob : ∀ b, ob = some b → n0 ≤ b) (hf : Fr2 92 109 A A') (X' : Nat → VwM) (ht : ∀ p ∈ ps', (p ∈ ps ∧ X' p = X p) ∨ (n0 ≤ p ∧ A'.get p = some (.row (VwM.row (X' p) mb) 111 false) ∧ (X' p).ok A')) (hn : ps'.Nodup) : MgA n0 A' mb hd n ps' X' cnt acts lns := by
  obtain ⟨⟨lv1, av1, nv1, g1, -, ⟨o2, l2, f2⟩, ⟨o3, l3, f3⟩⟩, h2, h3, h4, h5⟩ := h
  rw [g0] at g1
  injection g1 with g1; injection g1 with g1 _ _
  simp only [List.cons.injEq, and_true, true_and] at g1
  obtain ⟨-, rfl, rfl⟩ := g1
  have hI : ∀ b cs ro, A.get b = some (.row cs 3 ro) → A'.get b = A.get b := fun b cs ro g => hf b cs _ ro g (by decide) (by decide)
  exact ⟨⟨lv', av, nv, g, ⟨ob, hl, hob⟩, ⟨o2, lst_fr2 l2 hf (by decide) (by decide), f2⟩, ⟨o3, lst_fr2 l3 hf (by decide) (by decide), f3⟩⟩, h2, fun p hp => by
    rcases ht p hp with ⟨e1, e2⟩ | e
    · rw [e2]
      exact ⟨(h3 p e1).1, by rw [hf p _ _ _ (h3 p e1).2.1 (by decide) (by decide)]; exact (h3 p e1).2.1, ⟨(h3 p e1).2.2.1.int hI, (h3 p e1).2.2.2.int hI⟩⟩
    · exact e, hn, fun y hy => (h5 y hy).int hI⟩
end
def FrL (n0 : Nat) (A A' : AH) : Prop := (∀ b, b < n0 → A'.get b = A.get b) ∧ ∀ b cs T ro, A.get b = some (.row cs T ro) → ¬ OwnT T → T ≠ 109 → A'.get b = A.get b
theorem Fr.frL {n0 : Nat} {A A' : AH} (h : Fr n0 A A') : FrL n0 A A' := ⟨h.1, fun b cs T ro g h1 _ => h.2 b cs T ro g h1⟩
theorem FrL.trans {n0 : Nat} {A B C : AH} (h : FrL n0 A B) (g : FrL n0 B C) : FrL n0 A C := ⟨fun b hb => by rw [g.1 b hb, h.1 b hb], fun b cs T ro e h1 h2 => by
  have e1 := h.2 b cs T ro e h1 h2
  rw [g.2 b cs T ro (e1.trans e) h1 h2, e1]⟩
def Mg.insV (m : Mg) (i : Nat) (v : Vw) : Mg := { m with l := m.l.take i ++ v :: m.l.drop i }
def Mg.delV (m : Mg) (i : Nat) : Mg := { m with l := m.l.take i ++ m.l.drop (i + 1) }
theorem ptr_map_ins (ps : List Nat) (i p : Nat) : (ps.map ptrT).take i ++ ptrT p :: (ps.map ptrT).drop i = (ps.take i ++ p :: ps.drop i).map ptrT := by simp [List.map_take, List.map_drop]
theorem ptr_map_del (ps : List Nat) (i : Nat) : (ps.map ptrT).take i ++ (ps.map ptrT).drop (i + 1) = (ps.take i ++ ps.drop (i + 1)).map ptrT := by simp [List.map_take, List.map_drop]
theorem nodup_ins {ps : List Nat} (h : ps.Nodup) {p : Nat} (hp : p ∉ ps) (i : Nat) : (ps.take i ++ p :: ps.drop i).Nodup := by
  have : (ps.take i ++ p :: ps.drop i).Perm (p :: (ps.take i ++ ps.drop i)) := List.perm_middle
  rw [this.nodup_iff, List.take_append_drop]
  exact List.nodup_cons.2 ⟨hp, h⟩
theorem nodup_del {ps : List Nat} (h : ps.Nodup) (i : Nat) : (ps.take i ++ ps.drop (i + 1)).Nodup := by
  refine h.sublist ?_
  have : (ps.take i ++ ps.drop (i + 1)).Sublist (ps.take i ++ ps.drop i) := List.Sublist.append (List.Sublist.refl _) (List.drop_sublist_drop_left _ (by omega))
  rwa [List.take_append_drop] at this
section
variable {n0 : Nat} {A A' : AH} {mb : Nat} {ps : List Nat} {m : Mg} {p i : Nat} {v : Vw}
theorem MP.ins {lv av nv lv' : Value} {ob' : Option Nat} (h : MP n0 A mb ps m) (g0 : A.get mb = some (.row [.int .i64 m.head, .int .i64 m.n, lv, .int .i64 m.count, av, nv] 92 false)) (g : A'.get mb = some (.row [.int .i64 m.head, .int .i64 m.n, lv', .int .i64 m.count, av, nv] 92 false)) (hl : Lst A' 109 1 ob' lv' ((ps.take i ++ p :: ps.drop i).map ptrT)) (hob : ∀ b, ob' = some b → n0 ≤ b) (hf : Fr2 92 109 A A') {y : VwM} (hp : n0 ≤ p) (hpn : p ∉ ps) (gp : A'.get p = some (.row (y.row mb) 111 false)) (hy : y.ok A') : MP n0 A' mb (ps.take i ++ p :: ps.drop i) (m.insV i y.v) := by
  obtain ⟨X, acts, h1, h2, h3⟩ := h
  refine ⟨updX X p y, acts, h1.list g0 g hl hob hf _ (fun q hq => ?_) (nodup_ins h1.nd hpn i), ?_, h3⟩
  · by_cases e : q = p
    · subst e; exact Or.inr ⟨hp, by rw [updX_same]; exact gp, by rw [updX_same]; exact hy⟩
    · refine Or.inl ⟨?_, updX_ne X y e⟩
      rcases List.mem_append.1 hq with hq | hq
      · exact List.mem_of_mem_take hq
      · rcases List.mem_cons.1 hq with hq | hq
        · exact absurd hq e
        · exact List.mem_of_mem_drop hq
  · have hm : ∀ l : List Nat, (∀ q ∈ l, q ∈ ps) → l.map (fun q => (updX X p y q).v) = l.map (fun q => (X q).v) := fun l hl => List.map_congr_left fun q hq => by rw [updX_ne X y (fun e => hpn (by rw [← e]; exact hl q hq))]
    rw [List.map_append, List.map_cons, hm _ (fun q hq => List.mem_of_mem_take hq), hm _ (fun q hq => List.mem_of_mem_drop hq), updX_same]
    show m.l.take i ++ y.v :: m.l.drop i = _
    rw [h2, List.map_take, List.map_drop]
theorem MP.del {lv av nv lv' : Value} {ob' : Option Nat} (h : MP n0 A mb ps m) (g0 : A.get mb = some (.row [.int .i64 m.head, .int .i64 m.n, lv, .int .i64 m.count, av, nv] 92 false)) (g : A'.get mb = some (.row [.int .i64 m.head, .int .i64 m.n, lv', .int .i64 m.count, av, nv] 92 false)) (hl : Lst A' 109 1 ob' lv' ((ps.take i ++ ps.drop (i + 1)).map ptrT)) (hob : ∀ b, ob' = some b → n0 ≤ b) (hf : Fr2 92 109 A A') : MP n0 A' mb (ps.take i ++ ps.drop (i + 1)) (m.delV i) := by
  obtain ⟨X, acts, h1, h2, h3⟩ := h
  refine ⟨X, acts, h1.list g0 g hl hob hf _ (fun q hq => Or.inl ⟨?_, rfl⟩) (nodup_del h1.nd i), ?_, h3⟩
  · rcases List.mem_append.1 hq with hq | hq
    · exact List.mem_of_mem_take hq
    · exact List.mem_of_mem_drop hq
  · show m.l.take i ++ m.l.drop (i + 1) = _
    rw [h2, List.map_append, List.map_take, List.map_drop]
theorem MP.full (h : MP n0 A mb ps m) : ∃ lv av nv ob, A.get mb = some (.row [.int .i64 m.head, .int .i64 m.n, lv, .int .i64 m.count, av, nv] 92 false) ∧ Lst A 109 1 ob lv (ps.map ptrT) ∧ ∀ b, ob = some b → n0 ≤ b := by
  obtain ⟨X, acts, h1, h2, h3⟩ := h
  have hobt := h1.man
  obtain ⟨lv, av, nv, g, ⟨ob, hl, ho⟩, -⟩ := hobt
  exact ⟨lv, av, nv, ob, g, hl, ho⟩
end
noncomputable def Mg.create (m : Mg) (now n tail : Int) (w : Wt) (l : List Adv) : Mg × Int :=
  if mayB now = false ∨ n < 1 ∨ 65535 < n ∨ tail < 0 ∨ m.n ≤ tail ∨ tail = m.head ∨ rightB w = false then (m, 2)
  else if isL m.l n = true then (m, 9)
  else if 16 ≤ m.l.length then (m, 7)
  else
    let v : Vw := ⟨n, tail, w, lsZ, lsZ, now, 1⟩
    let m1 := m.insV (posL m.l n) v
    (if busyB m1 = true then m1 else m1.tries (posL m.l n) v now l, 0)
theorem Mg.wf.insV {m : Mg} (h : m.wf) (i : Nat) {v : Vw} (hv : v.wf) (hl : m.l.length < 16) : (m.insV i v).wf := ⟨h.hd, h.n, h.cnt, fun u hu => by
  rcases List.mem_append.1 hu with hu | hu
  · exact h.vs u (List.mem_of_mem_take hu)
  · rcases List.mem_cons.1 hu with hu | hu
    · rw [hu]; exact hv
    · exact h.vs u (List.mem_of_mem_drop hu), by rw [show (m.insV i v).l = m.l.take i ++ v :: m.l.drop i from rfl, List.length_append, List.length_cons, List.length_take, List.length_drop]; omega⟩
theorem Mg.wf.delV {m : Mg} (h : m.wf) (i : Nat) : (m.delV i).wf := ⟨h.hd, h.n, h.cnt, fun u hu => by
  rcases List.mem_append.1 hu with hu | hu
  · exact h.vs u (List.mem_of_mem_take hu)
  · exact h.vs u (List.mem_of_mem_drop hu), by have := h.len; rw [show (m.delV i).l = m.l.take i ++ m.l.drop (i + 1) from rfl, List.length_append, List.length_take, List.length_drop]; omega⟩
section
variable {n0 : Nat} {A A' : AH} {mb : Nat} {ps : List Nat} {m : Mg} {p i : Nat} {v : Vw}
theorem insV_at {l : List Vw} {i : Nat} (hi : i ≤ l.length) (v : Vw) : (l.take i ++ v :: l.drop i)[i]? = some v := by
  rw [List.getElem?_append_right (by rw [List.length_take]; omega), List.length_take, Nat.min_eq_left hi, Nat.sub_self]; rfl
theorem insP_at {l : List Nat} {i : Nat} (hi : i ≤ l.length) (v : Nat) : (l.take i ++ v :: l.drop i)[i]? = some v := by
  rw [List.getElem?_append_right (by rw [List.length_take]; omega), List.length_take, Nat.min_eq_left hi, Nat.sub_self]; rfl
set_option maxHeartbeats 4000000 in
theorem create_ok (h : MP n0 A mb ps m) (hm : m.wf) (now n tail : Int) (w : Wt) (hw : w.wf) (hr : m.room 10) (hn0 : n0 ≤ A.next) {al : Option Addr} {cl : Nat} {l : List Adv} (hl : Sl A 83 15 al (l.map Adv.enc)) (ht : ∀ b o, al = some ⟨b, o, none⟩ → ∃ cs ro, A.get b = some (.row cs 83 ro)) (hx : ∀ x ∈ l, x.wf) (hln : l.length ≤ 1000) : ACall Tryz.prog 20 [.pointer (some ⟨mb, 0, none⟩), .int .i64 now, .int .i64 n, .int .i64 tail, .agg w.enc.toArray, .slice al l.length cl] A fun r A' => (∃ ps', MP n0 A' mb ps' (m.create now n tail w l).1) ∧ r = .int .i64 (m.create now n tail w l).2 ∧ FrL n0 A A' := by
  have hnp : (0 : Int) < m.n := by have := hm.n; omega
  have wl : w.enc.length = 6 := rfl
  have wt' : w.enc.take 6 = w.enc := rfl
  refine ACall.wf fun hwf => ?_
  have hobx : ∃ A1, A1 = A.alloc (.row w.enc 36 false) := ⟨_, rfl⟩
  obtain ⟨A1, hA1⟩ := hobx
  have w1 : A1.wf := by rw [hA1]; exact AH.wf_alloc hwf _
  have n1 : A1.next = A.next + 1 := by rw [hA1]; rfl
  have x1 : Ext A A1 := by rw [hA1]; exact Ext.alloc A _
  have gw : A1.get A.next = some (.row w.enc 36 false) := by rw [hA1, AH.get_new]
  have h1 := h.ext hwf x1
  have f1 := Fr.ext hwf hn0 x1
  have hobt := h1.man
  obtain ⟨lv0, av0, nv0, g0, -⟩ := hobt
  have err : ∀ {A'' : AH} {e : Int}, m.create now n tail w l = (m, e) → Ext A1 A'' → (∃ ps', MP n0 A'' mb ps' (m.create now n tail w l).1) ∧ Value.int .i64 e = .int .i64 (m.create now n tail w l).2 ∧ FrL n0 A A'' := fun he x => by
    rw [he]; exact ⟨⟨ps, h1.ext w1 x⟩, rfl, (f1.trans (Fr.ext w1 (by omega) x)).frL⟩
  have c2 : (mayB now = false ∨ n < 1 ∨ 65535 < n ∨ tail < 0 ∨ m.n ≤ tail ∨ tail = m.head ∨ rightB w = false) → m.create now n tail w l = (m, 2) := fun h => by unfold Mg.create; rw [if_pos h]
  refine code20.call (by simp) fun hwf => ?_
  unfold c20
  simp [wl, ← hA1]
  refine CN.use (mp_good h1) ?_
  rintro _ A2 - - ⟨rfl, rfl⟩
  simp [hnp]
  refine CN.use (mfind_ok h1 hm n) ?_
  rintro _ A2 hw2 hn2 ⟨rfl, x2⟩
  have g2 := x2.get w1 g0
  have gw2 := x2.get w1 gw
  simp
  refine CN.use (may_ok now A2) ?_
  rintro _ A3 - - ⟨rfl, rfl⟩
  by_cases e1 : 0 ≤ now ∧ now ≤ 1099511627766
  rotate_left
  · simp [e1]
    exact DN.of (err (c2 (Or.inl (by simp [mayB]; omega))) x2)
  have e1' : mayB now = true := by simpa [mayB] using e1
  by_cases e2 : n < 1
  · simp [e1, e2]
    exact DN.of (err (c2 (by simp [e2])) x2)
  by_cases e3 : 65535 < n
  · simp [e1, e2, e3]
    exact DN.of (err (c2 (by simp [e3])) x2)
  by_cases e4 : tail < 0
  · simp [e1, e2, e3, e4]
    exact DN.of (err (c2 (by simp [e4])) x2)
  by_cases e5 : m.n ≤ tail
  · simp [e1, e2, e3, e4, g2, e5]
    exact DN.of (err (c2 (by simp [e5])) x2)
  by_cases e6 : tail = m.head
  · have e5' : ¬ m.n ≤ m.head := by omega
    have e4' : ¬ m.head < 0 := by omega
    subst e6
    simp [e1, e2, e3, e4, g2, e5]
    exact DN.of (err (c2 (by simp)) x2)
  simp [e1, e2, e3, e4, g2, e5, e6, gw2, wl, wt']
  refine CN.use (right_ok w A3) ?_
  rintro _ A4 hw4 hn4 ⟨rfl, x4⟩
  have x14 := x2.trans hn2 x4
  have g4 := x4.get hw2 g2
  have gw4 := x4.get hw2 gw2
  by_cases e7 : rightB w = true
  rotate_left
  · simp [e7]
    exact DN.of (err (c2 (by simp [e7])) x14)
  have ne : ¬ (mayB now = false ∨ n < 1 ∨ 65535 < n ∨ tail < 0 ∨ m.n ≤ tail ∨ tail = m.head ∨ rightB w = false) := by simp [e1', e2, e3, e4, e5, e6, e7]
  by_cases e8 : isL m.l n = true
  · simp [e7, e8]
    exact DN.of (err (by unfold Mg.create; rw [if_neg ne, if_pos e8]) x14)
  have h4 := h1.ext w1 x14
  have hobt := h4.full
  obtain ⟨lv, av, nv, ob, g5, lo, fo⟩ := hobt
  have hobt := lo.slm
  obtain ⟨a, c, rfl, hsl⟩ := hobt
  have hlen := h4.len
  by_cases e9 : 16 ≤ m.l.length
  · have e9' : (16 : Int) ≤ (ps.length : Int) := by omega
    simp [e7, e8, g5, e9']
    exact DN.of (err (by unfold Mg.create; rw [if_neg ne, if_neg (by simp [e8]), if_pos e9]) x14)
  have e9' : ¬ (16 : Int) ≤ (ps.length : Int) := by omega
  have hobx : ∃ y0 : VwM, y0 = ⟨n, tail, w, lmZ, lmZ, 0, 0⟩ := ⟨_, rfl⟩
  obtain ⟨y0, hy0⟩ := hobx
  have hwe : w.enc = [Value.int .u64 w.bw, .int .i64 w.setup, .int .i64 w.hold, .int .u32 w.any, .int .u32 w.all, .int .u32 w.no] := rfl
  have hrow : [Value.int .i64 n, Value.int .i64 tail, Value.int .u64 w.bw, Value.int .i64 w.setup, Value.int .i64 w.hold, Value.int .u32 w.any, Value.int .u32 w.all, Value.int .u32 w.no, Value.int .i64 0, Value.int .i64 0, Value.int .i64 0, Value.int .i64 0, Value.int .u64 0, Value.int .i64 0, Value.int .i64 0, Value.int .u32 0, Value.int .u32 0, Value.int .u32 0, Value.slice none 0 0, Value.int .i64 0, Value.int .i64 0, Value.int .i64 0, Value.int .i64 0, Value.int .u64 0, Value.int .i64 0, Value.int .i64 0, Value.int .u32 0, Value.int .u32 0, Value.int .u32 0, Value.slice none 0 0, Value.int .i64 0, Value.int .i64 0, Value.pointer (some ⟨mb, 0, none⟩)] = y0.row mb := by rw [hy0]; rfl
  have hobx : ∃ A5, A5 = A4.alloc (.row (y0.row mb) 111 false) := ⟨_, rfl⟩
  obtain ⟨A5, hA5⟩ := hobx
  have w5 : A5.wf := by rw [hA5]; exact AH.wf_alloc hw4 _
  have n5 : A5.next = A4.next + 1 := by rw [hA5]; rfl
  have x5 : Ext A4 A5 := by rw [hA5]; exact Ext.alloc A4 _
  have gt5 : A5.get A4.next = some (.row (y0.row mb) 111 false) := by rw [hA5, AH.get_new]
  simp [e7, e8, g5, e9', gw4, hwe, hrow, ← hA5]
  refine CN.use (rests_raw gt5 now) ?_
  rintro _ A6 hw6 hn6 hA6
  have hobx : ∃ y : VwM, y = { y0 with wait := now, back := 1 } := ⟨_, rfl⟩
  obtain ⟨y, hy⟩ := hobx
  rw [← hy] at hA6
  have x46 : Ext A4 A6 := by rw [hA6]; exact x5.setnew (Nat.le_refl _) _
  have n6 : A6.next = A4.next + 1 := by rw [hA6, ← n5]; rfl
  have gt6 : A6.get A4.next = some (.row (y.row mb) 111 false) := by rw [hA6, AH.get_set, if_pos rfl]
  have h6 := h4.ext hw4 x46
  have g6 := x46.get hw4 g5
  have hobx : ∃ A7, A7 = A6.alloc (.row [Value.pointer (some ⟨A4.next, 0, none⟩)] 109 false) := ⟨_, rfl⟩
  obtain ⟨A7, hA7⟩ := hobx
  have w7 : A7.wf := by rw [hA7]; exact AH.wf_alloc hw6 _
  have n7 : A7.next = A6.next + 1 := by rw [hA7]; rfl
  have x7 : Ext A6 A7 := by rw [hA7]; exact Ext.alloc A6 _
  have gb7 : A7.get A6.next = some (.row (ptrT A4.next) 109 false) := by rw [hA7, AH.get_new]; rfl
  have hpl := posL_le m.l n
  have x47 : Ext A4 A7 := x46.trans (by omega) x7
  have lo7 := lo.kept fun b hb => x47 b (lo.lt hw4 hb)
  simp [g6, ← hA7]
  have hins := insert_ok (i := posL m.l n) lo7 gb7 (fun e => by have := lo.lt hw4 e; omega) ⟨rfl, rfl⟩ (by rw [List.length_map]; omega) (by rw [List.length_map]; omega)
  refine CN.use hins ?_
  rintro lv8 A8 hw8 hn8 ⟨b8, lo8, k8, ho8⟩
  have hobt := lo8.sl
  obtain ⟨a8, c8, hlv8, -⟩ := hobt
  have hobx : ∃ n8, n8 = ((ps.map ptrT).take (posL m.l n) ++ ptrT A4.next :: (ps.map ptrT).drop (posL m.l n)).length := ⟨_, rfl⟩
  obtain ⟨n8, hn8'⟩ := hobx
  rw [← hn8'] at hlv8
  subst hlv8
  have hmlt : mb < A4.next := hw4 _ _ g5
  have hmo : ob ≠ some mb := Lst.ty lo g5 (by decide)
  have g8 : A8.get mb = some (.row [.int .i64 m.head, .int .i64 m.n, .slice a ps.length c, .int .i64 m.count, av, nv] 92 false) := by rw [k8 mb (by omega) hmo, x7 mb (by omega)]; exact g6
  have hobx : ∃ A9, A9 = A8.set mb (.row [.int .i64 m.head, .int .i64 m.n, Value.slice a8 n8 c8, .int .i64 m.count, av, nv] 92 false) := ⟨_, rfl⟩
  obtain ⟨A9, hA9⟩ := hobx
  have w9 : A9.wf := by rw [hA9]; exact AH.wf_set hw8 (hw8 _ _ g8) _
  have n9 : A9.next = A8.next := by rw [hA9]; rfl
  have hb8m : b8 ≠ mb := by
    rcases ho8 with e | e
    · exact fun e2 => hmo (by rw [e, e2])
    · omega
  have g9 : A9.get mb = some (.row [.int .i64 m.head, .int .i64 m.n, Value.slice a8 n8 c8, .int .i64 m.count, av, nv] 92 false) := by rw [hA9, AH.get_set, if_pos rfl]
  have gp9 : A9.get A4.next = some (.row (y.row mb) 111 false) := by rw [hA9, AH.get_set, if_neg (by omega), k8 _ (by omega) (fun e => by have := lo.lt hw4 e; omega), x7 _ (by omega)]; exact gt6
  have k49 : ∀ k, k < A4.next → k ≠ mb → ob ≠ some k → A9.get k = A4.get k := fun k hk hkm hko => by rw [hA9, AH.get_set, if_neg hkm, k8 k (by omega) hko, x47 k hk]
  have f49 : Fr2 92 109 A4 A9 := fun k cs T ro gk t1 t2 => k49 k (hw4 _ _ gk) (fun e => by subst e; rw [g5] at gk; injection gk with gk; injection gk with _ gk _; exact t1 gk.symm) (Lst.ty lo gk t2)
  have yo : y.ok A9 := by rw [hy, hy0]; exact ⟨lmZ_ok _, lmZ_ok _⟩
  have hpn : A4.next ∉ ps := fun hp => by
    have hobt := List.getElem?_of_mem hp
    obtain ⟨i, hi⟩ := hobt
    have hobt := h4.vp hi
    obtain ⟨v, hv⟩ := hobt
    have hobt := h4.row hi hv
    obtain ⟨x, -, gx, -, -⟩ := hobt
    have := hw4 _ _ gx
    omega
  have lo9 : Lst A9 109 1 (some b8) (.slice a8 n8 c8) ((ps.take (posL m.l n) ++ A4.next :: ps.drop (posL m.l n)).map ptrT) := by
    rw [← ptr_map_ins]
    exact lo8.kept fun b hb => by injection hb with hb; subst hb; rw [hA9, AH.get_set, if_neg hb8m]
  have hyv : y.v = ⟨n, tail, w, lsZ, lsZ, now, 1⟩ := by rw [hy, hy0]; rfl
  have h9 := h4.ins (A' := A9) (i := posL m.l n) (p := A4.next) (y := y) g5 g9 lo9 (fun b hb => by
    injection hb with hb; subst hb
    rcases ho8 with e | e
    · exact fo _ e
    · omega) f49 (by omega) hpn gp9 yo
  rw [hyv] at h9
  have F49 : FrL n0 A4 A9 := ⟨fun b hb => k49 b (by omega) (fun e => by have := h4.lo; omega) (fun e => by have := fo b e; omega), fun b cs T ro g t1 t2 => f49 b cs T ro g (fun e => t1 (Or.inl e)) t2⟩
  have F09 : FrL n0 A A9 := (f1.trans (Fr.ext w1 (by omega) x14)).frL.trans F49
  have vw : Vw.wf ⟨n, tail, w, lsZ, lsZ, now, 1⟩ := ⟨by show (0:Int) ≤ 1 ∧ (1 : Int) ≤ 8; omega, hw, wtZ_wf, wtZ_wf⟩
  have hm9 := hm.insV (posL m.l n) vw (by omega)
  simp [g8, ← hA9]
  refine CN.use (mp_busy h9 hm9) ?_
  rintro _ A10 hw10 hn10 ⟨x10, rfl⟩
  have h10 := h9.ext w9 x10
  have F010 := F09.trans (Fr.ext w9 (by omega) x10).frL
  have hcr : m.create now n tail w l = (if busyB (m.insV (posL m.l n) ⟨n, tail, w, lsZ, lsZ, now, 1⟩) = true then m.insV (posL m.l n) ⟨n, tail, w, lsZ, lsZ, now, 1⟩ else (m.insV (posL m.l n) ⟨n, tail, w, lsZ, lsZ, now, 1⟩).tries (posL m.l n) ⟨n, tail, w, lsZ, lsZ, now, 1⟩ now l, 0) := by
    unfold Mg.create; rw [if_neg ne, if_neg e8, if_neg e9]
  by_cases hb : busyB (m.insV (posL m.l n) ⟨n, tail, w, lsZ, lsZ, now, 1⟩) = true
  · simp [hb]
    rw [if_pos hb] at hcr
    exact DN.of ⟨⟨_, by rw [hcr]; exact h10⟩, by rw [hcr], F010⟩
  · simp [hb]
    rw [if_neg hb] at hcr
    have hl10 : Sl A10 83 15 al (l.map Adv.enc) := hl.kept fun b o z e hb => by
      have hobt := ht b o e
      obtain ⟨cs, ro, g⟩ := hobt
      exact F010.2 b cs _ ro g (by unfold OwnT; decide) (by decide)
    refine CN.use (mp_tries h10 (insP_at (by omega) _) (insV_at (posL_le _ _) _) now (by exact hr.le (by omega)) (by omega) e1 hm9 hl10 hx hln) ?_
    rintro _ A11 hw11 hn11 ⟨h11, f11⟩
    simp
    exact DN.of ⟨⟨_, by rw [hcr]; exact h11⟩, by rw [hcr], F010.trans f11.frL⟩
end
theorem Mg.stop_put (m : Mg) (i : Nat) (v : Vw) (tn : Int) (x : Ls) : (m.put i v).stop tn x = (m.stop tn x).put i v := by unfold Mg.stop; split <;> rfl
theorem Mg.put_put (m : Mg) (i : Nat) (v w : Vw) : (m.put i v).put i w = m.put i w := by unfold Mg.put; rw [List.set_set]
theorem at_getD {l : List Vw} {i : Nat} {v : Vw} (h : l[i]? = some v) : l.getD i vwZ = v := by rw [List.getD_eq_getElem?_getD, h]; rfl
theorem isL_at {l : List Vw} {n : Int} (h : isL l n = true) : ∃ v, l[posL l n]? = some v ∧ v.tn = n := by
  unfold isL at h
  split at h
  · rename_i v hv; exact ⟨v, hv, by simpa using h⟩
  · cases h
noncomputable def Mg.modify (m : Mg) (now n : Int) (w : Wt) (l : List Adv) : Mg × Int :=
  if mayB now = false ∨ rightB w = false then (m, 2)
  else if isL m.l n = false then (m, 8)
  else
    let i := posL m.l n
    let v := m.l.getD i vwZ
    let v1 : Vw := { v with w := w, new := lsZ, wait := now, back := 1 }
    let m1 := (m.stop v.tn v.new).put i v1
    (if lacksB v1 = true ∧ busyB m1 = false then m1.tries i v1 now l else m1, 0)
def Mg.delete (m : Mg) (n : Int) : Mg × Int :=
  if isL m.l n = false then (m, 8)
  else
    let i := posL m.l n
    let v := m.l.getD i vwZ
    ((((m.leave i v).stop v.tn v.new).put i { v with now := lsZ, new := lsZ }).delV i, 0)
section
variable {n0 : Nat} {A A' : AH} {mb : Nat} {ps : List Nat} {m : Mg} {p i : Nat} {v : Vw}
set_option maxHeartbeats 4000000 in
theorem modify_ok (h : MP n0 A mb ps m) (hm : m.wf) (now n : Int) (w : Wt) (hw : w.wf) (hr : m.room 10) (hn0 : n0 ≤ A.next) {al : Option Addr} {cl : Nat} {l : List Adv} (hl : Sl A 83 15 al (l.map Adv.enc)) (ht : ∀ b o, al = some ⟨b, o, none⟩ → ∃ cs ro, A.get b = some (.row cs 83 ro)) (hx : ∀ x ∈ l, x.wf) (hln : l.length ≤ 1000) : ACall Tryz.prog 23 [.pointer (some ⟨mb, 0, none⟩), .int .i64 now, .int .i64 n, .agg w.enc.toArray, .slice al l.length cl] A fun r A' => MP n0 A' mb ps (m.modify now n w l).1 ∧ r = .int .i64 (m.modify now n w l).2 ∧ Fr n0 A A' := by
  have hnp : (0 : Int) < m.n := by have := hm.n; omega
  have wl : w.enc.length = 6 := rfl
  have wt' : w.enc.take 6 = w.enc := rfl
  refine ACall.wf fun hwf => ?_
  have hobx : ∃ A1, A1 = A.alloc (.row w.enc 36 false) := ⟨_, rfl⟩
  obtain ⟨A1, hA1⟩ := hobx
  have w1 : A1.wf := by rw [hA1]; exact AH.wf_alloc hwf _
  have n1 : A1.next = A.next + 1 := by rw [hA1]; rfl
  have x1 : Ext A A1 := by rw [hA1]; exact Ext.alloc A _
  have gw : A1.get A.next = some (.row w.enc 36 false) := by rw [hA1, AH.get_new]
  have h1 := h.ext hwf x1
  have f1 := Fr.ext hwf hn0 x1
  have hobt := h1.man
  obtain ⟨lv0, av0, nv0, g0, -⟩ := hobt
  have err : ∀ {A'' : AH} {e : Int}, m.modify now n w l = (m, e) → Ext A1 A'' → MP n0 A'' mb ps (m.modify now n w l).1 ∧ Value.int .i64 e = .int .i64 (m.modify now n w l).2 ∧ Fr n0 A A'' := fun he x => by
    rw [he]; exact ⟨h1.ext w1 x, rfl, f1.trans (Fr.ext w1 (by omega) x)⟩
  have c2 : (mayB now = false ∨ rightB w = false) → m.modify now n w l = (m, 2) := fun h => by unfold Mg.modify; rw [if_pos h]
  refine code23.call (by simp) fun hwf => ?_
  unfold c23
  simp [wl, ← hA1]
  refine CN.use (mp_good h1) ?_
  rintro _ A2 - - ⟨rfl, rfl⟩
  simp [hnp]
  refine CN.use (mfind_ok h1 hm n) ?_
  rintro _ A2 hw2 hn2 ⟨rfl, x2⟩
  have g2 := x2.get w1 g0
  have gw2 := x2.get w1 gw
  simp
  refine CN.use (may_ok now A2) ?_
  rintro _ A3 - - ⟨rfl, rfl⟩
  by_cases e1 : 0 ≤ now ∧ now ≤ 1099511627766
  rotate_left
  · simp [e1]
    exact DN.of (err (c2 (Or.inl (by simp [mayB]; omega))) x2)
  have e1' : mayB now = true := by simpa [mayB] using e1
  simp [e1, gw2, wl, wt']
  refine CN.use (right_ok w A3) ?_
  rintro _ A4 hw4 hn4 ⟨rfl, x4⟩
  have x14 := x2.trans hn2 x4
  have gw4 := x4.get hw2 gw2
  by_cases e7 : rightB w = true
  rotate_left
  · simp [e7]
    exact DN.of (err (c2 (by simp [e7])) x14)
  have ne : ¬ (mayB now = false ∨ rightB w = false) := by simp [e1', e7]
  by_cases e8 : isL m.l n = true
  rotate_left
  · simp [e7, e8]
    exact DN.of (err (by unfold Mg.modify; rw [if_neg ne, if_pos (by simpa using e8)]) x14)
  have h4 := h1.ext w1 x14
  have f4 := f1.trans (Fr.ext w1 (by omega) x14)
  have hobt := h4.man
  obtain ⟨lv, av, nv, g5, a, c, rfl, hsl⟩ := hobt
  have hlen := h4.len
  have hobt := isL_at e8
  obtain ⟨v, hv, htn⟩ := hobt
  have hobx : ∃ i, i = posL m.l n := ⟨_, rfl⟩
  obtain ⟨i, hi⟩ := hobx
  rw [← hi] at hv
  have hil : i < ps.length := by rw [hlen]; exact (List.getElem?_eq_some_iff.1 hv).1
  obtain ⟨p, hp⟩ : ∃ p, ps[i]? = some p := ⟨ps[i]'hil, List.getElem?_eq_getElem hil⟩
  have hobt := h4.row hp hv
  obtain ⟨x, hx', gp, xo, -⟩ := hobt
  have hobt := hsl.one (i := i) (v := .pointer (some ⟨p, 0, none⟩)) (sl_ptr hsl hp)
  obtain ⟨b, o, cs, q, rfl, u1, u2⟩ := hobt
  have rl := row_len x mb
  have s1 := set_want x mb w
  have hs5 := h4.set hp hv (y := { x with w := w }) ⟨xo.1, xo.2⟩
  have hobx : ∃ A5, A5 = A4.set p (.row (VwM.row { x with w := w } mb) 111 false) := ⟨_, rfl⟩
  obtain ⟨A5, hA5⟩ := hobx
  rw [← hA5] at hs5
  obtain ⟨h5, f5⟩ := hs5
  have w5 : A5.wf := by rw [hA5]; exact AH.wf_set hw4 (hw4 _ _ gp) _
  have n5 : A5.next = A4.next := by rw [hA5]; rfl
  have hv5 : VwM.v { x with w := w } = { v with w := w } := by rw [← hx']; rfl
  rw [hv5] at h5
  have wo : ∀ v ∈ w.enc, oneB v = true := List.all_eq_true.1 (rfl : w.enc.all oneB = true)
  simp [e7, e8, g5, ← hi, hil, u1, u2, gw4, wl, wt', gp, rl, s1, ← hA5]
  refine ⟨wo, ?_⟩
  have vw := hm.vs v (List.mem_of_getElem? hv)
  refine CN.use (mp_stop_new h5 hp (Mg.put_at hv) (hr.le (by omega)) (by omega)) ?_
  rintro _ A6 hw6 hn6 ⟨h6, f6⟩
  simp
  rw [Mg.stop_put, Mg.put_put] at h6
  have ha6 : ((m.stop v.tn v.new).put i { v with w := w, new := lsZ }).l[i]? = some { v with w := w, new := lsZ } := Mg.put_at (v := v) (by rw [Mg.stop_l]; exact hv)
  refine CN.use (mp_rests h6 hp ha6 now) ?_
  rintro _ A7 hw7 hn7 ⟨h7, f7⟩
  rw [Mg.put_put] at h7
  have hobx : ∃ v1 : Vw, v1 = { v with w := w, new := lsZ, wait := now, back := 1 } := ⟨_, rfl⟩
  obtain ⟨v1, hv1⟩ := hobx
  have hobx : ∃ m1, m1 = (m.stop v.tn v.new).put i v1 := ⟨_, rfl⟩
  obtain ⟨m1, hm1⟩ := hobx
  have h7' : MP n0 A7 mb ps m1 := by rw [hm1, hv1]; exact h7
  have ha7 : m1.l[i]? = some v1 := by rw [hm1]; exact Mg.put_at (v := v) (by rw [Mg.stop_l]; exact hv)
  have vw1 : v1.wf := by rw [hv1]; exact ⟨by show (0:Int) ≤ 1 ∧ (1 : Int) ≤ 8; omega, hw, vw.2.2.1, wtZ_wf⟩
  have wf1 : m1.wf := by rw [hm1]; exact (hm.stop _ _).put i vw1
  have f07 := f4.trans (f5.trans (f6.trans f7))
  have hmo : m.modify now n w l = (if lacksB v1 = true ∧ busyB m1 = false then m1.tries i v1 now l else m1, 0) := by
    unfold Mg.modify; rw [if_neg ne, if_neg (by simp [e8])]
    simp only [← hi, at_getD hv, ← hv1, ← hm1]
  simp
  refine CN.use (mp_lacks h7' hp ha7) ?_
  rintro _ A8 hw8 hn8 ⟨rfl, x8⟩
  have h8 := h7'.ext hw7 x8
  have f08 := f07.trans (Fr.ext hw7 (by omega) x8)
  by_cases k1 : lacksB v1 = true
  rotate_left
  · simp [k1]
    have : m.modify now n w l = (m1, 0) := by rw [hmo, if_neg (fun e => k1 e.1)]
    exact DN.of ⟨by rw [this]; exact h8, by rw [this], f08⟩
  simp [k1]
  refine CN.use (mp_busy h8 wf1) ?_
  rintro _ A9 hw9 hn9 ⟨x9, rfl⟩
  have h9 := h8.ext hw8 x9
  have f09 := f08.trans (Fr.ext hw8 (by omega) x9)
  by_cases k2 : busyB m1 = true
  · simp [k1, k2]
    have : m.modify now n w l = (m1, 0) := by rw [hmo, if_neg (fun e => by rw [k2] at e; cases e.2)]
    exact DN.of ⟨by rw [this]; exact h9, by rw [this], f09⟩
  simp [k1, k2]
  have hl9 : Sl A9 83 15 al (l.map Adv.enc) := hl.kept fun b o z e hb => by
    have hobt := ht b o e
    obtain ⟨cs, ro, g⟩ := hobt
    exact f09.2 b cs _ ro g (by unfold OwnT; decide)
  have hr1 : m1.room 1 := by rw [hm1]; exact ((hr.le (by omega)).stop (k := 1) _ _)
  refine CN.use (mp_tries h9 hp ha7 now hr1 (by omega) e1 wf1 hl9 hx hln) ?_
  rintro _ A10 hw10 hn10 ⟨h10, f10⟩
  simp
  have : m.modify now n w l = (m1.tries i v1 now l, 0) := by rw [hmo, if_pos ⟨k1, by simpa using k2⟩]
  exact DN.of ⟨by rw [this]; exact h10, by rw [this], f09.trans f10⟩
set_option maxHeartbeats 4000000 in
theorem delete_tok (h : MP n0 A mb ps m) (hm : m.wf) (n : Int) (hr : m.room 10) (hn0 : n0 ≤ A.next) : ACall Tryz.prog 24 [.pointer (some ⟨mb, 0, none⟩), .int .i64 n] A fun r A' => (∃ ps', MP n0 A' mb ps' (m.delete n).1) ∧ r = .int .i64 (m.delete n).2 ∧ FrL n0 A A' := by
  have hnp : (0 : Int) < m.n := by have := hm.n; omega
  refine ACall.wf fun hwf => ?_
  refine code24.call (by simp) fun hwf => ?_
  unfold c24
  simp
  refine CN.use (mp_good h) ?_
  rintro _ A2 - - ⟨rfl, rfl⟩
  simp [hnp]
  refine CN.use (mfind_ok h hm n) ?_
  rintro _ A4 hw4 hn4 ⟨rfl, x2⟩
  have h4 := h.ext hwf x2
  have f4 := Fr.ext hwf hn0 x2
  by_cases e8 : isL m.l n = true
  rotate_left
  · simp [e8]
    have : m.delete n = (m, 8) := by unfold Mg.delete; rw [if_pos (by simpa using e8)]
    exact DN.of ⟨⟨ps, by rw [this]; exact h4⟩, by rw [this], f4.frL⟩
  have hobt := h4.man
  obtain ⟨lv, av, nv, g5, a, c, rfl, hsl⟩ := hobt
  have hlen := h4.len
  have hps := hm.len
  have hobt := isL_at e8
  obtain ⟨v, hv, htn⟩ := hobt
  have hobx : ∃ i, i = posL m.l n := ⟨_, rfl⟩
  obtain ⟨i, hi⟩ := hobx
  rw [← hi] at hv
  have hil : i < ps.length := by rw [hlen]; exact (List.getElem?_eq_some_iff.1 hv).1
  obtain ⟨p, hp⟩ : ∃ p, ps[i]? = some p := ⟨ps[i]'hil, List.getElem?_eq_getElem hil⟩
  have hobt := hsl.one (i := i) (v := .pointer (some ⟨p, 0, none⟩)) (sl_ptr hsl hp)
  obtain ⟨b, o, cs, q, rfl, u1, u2⟩ := hobt
  have hde : m.delete n = ((((m.leave i v).stop v.tn v.new).put i { v with now := lsZ, new := lsZ }).delV i, 0) := by
    unfold Mg.delete; rw [if_neg (by simp [e8])]; simp only [← hi, at_getD hv]
  simp [e8, g5, ← hi, hil, u1, u2]
  refine CN.use (leave_ok h4 hp hv (hr.le (by omega)) (by omega)) ?_
  rintro _ A5 hw5 hn5 ⟨h5, f5⟩
  simp
  refine CN.use (mp_stop_new h5 hp (Mg.leave_at hv) ((hr.le (by omega)).leave (k := 1) _ _) (by omega)) ?_
  rintro _ A6 hw6 hn6 ⟨h6, f6⟩
  have hobx : ∃ m6, m6 = ((m.leave i v).stop v.tn v.new).put i { v with now := lsZ, new := lsZ } := ⟨_, rfl⟩
  obtain ⟨m6, hm6⟩ := hobx
  have h6' : MP n0 A6 mb ps m6 := by rw [hm6]; exact h6
  have hobt := h6'.full
  obtain ⟨lv6, av6, nv6, ob, g6, lo, fo⟩ := hobt
  have hobt := lo.slm
  obtain ⟨a6, c6, rfl, hsl6⟩ := hobt
  have hgi : IntKind.i64.wrap ((i : Int) + 1) = (i : Int) + 1 := i64_in (by omega) (by omega)
  simp [g6, hgi]
  refine CN.use (delete_ok (i := i) lo (by rw [List.length_map]; exact hil) (by rw [List.length_map]; omega)) ?_
  rintro lv7 A7 hw7 hn7 ⟨lo7, k7⟩
  have hobt := lo7.sl
  obtain ⟨a7, c7, hlv7, -⟩ := hobt
  have hobx : ∃ n7, n7 = ((ps.map ptrT).take i ++ (ps.map ptrT).drop (i + 1)).length := ⟨_, rfl⟩
  obtain ⟨n7, hn7'⟩ := hobx
  rw [← hn7'] at hlv7
  subst hlv7
  have hmo : ob ≠ some mb := Lst.ty lo g6 (by decide)
  have g7 := k7 mb (hw6 _ _ g6) hmo
  rw [g6] at g7
  have hobx : ∃ A8, A8 = A7.set mb (.row [.int .i64 m6.head, .int .i64 m6.n, .slice a7 n7 c7, .int .i64 m6.count, av6, nv6] 92 false) := ⟨_, rfl⟩
  obtain ⟨A8, hA8⟩ := hobx
  have g8 : A8.get mb = some (.row [.int .i64 m6.head, .int .i64 m6.n, .slice a7 n7 c7, .int .i64 m6.count, av6, nv6] 92 false) := by rw [hA8, AH.get_set, if_pos rfl]
  have k68 : ∀ k, k < A6.next → k ≠ mb → ob ≠ some k → A8.get k = A6.get k := fun k hk hkm hko => by rw [hA8, AH.get_set, if_neg hkm, k7 k hk hko]
  have f68 : Fr2 92 109 A6 A8 := fun k cs T ro gk t1 t2 => k68 k (hw6 _ _ gk) (fun e => by subst e; rw [g6] at gk; injection gk with gk; injection gk with _ gk _; exact t1 gk.symm) (Lst.ty lo gk t2)
  have lo8 : Lst A8 109 1 ob (.slice a7 n7 c7) ((ps.take i ++ ps.drop (i + 1)).map ptrT) := by
    rw [← ptr_map_del]
    exact lo7.kept fun b hb => by rw [hA8, AH.get_set, if_neg (fun e => hmo (by rw [hb, e]))]
  have h8 := h6'.del (A' := A8) (i := i) g6 g8 lo8 fo f68
  have F68 : FrL n0 A6 A8 := ⟨fun b hb => k68 b (by omega) (fun e => by have := h6'.lo; omega) (fun e => by have := fo b e; omega), fun b cs T ro g t1 t2 => f68 b cs T ro g (fun e => t1 (Or.inl e)) t2⟩
  simp [g7, ← hA8]
  exact DN.of ⟨⟨_, by rw [hde, ← hm6]; exact h8⟩, by rw [hde], (f4.trans (f5.trans f6)).frL.trans F68⟩
end
def lateB (v : Vw) (now : Int) : Bool := decide (v.new.k.lsp ≠ 0 ∧ v.wait < now)
def Mg.lapse (now : Int) (m : Mg) (i : Nat) : Mg :=
  let v := m.l.getD i vwZ
  if lateB v now = true then ((m.stop v.tn v.new).put i { v with new := lsZ }).fails i { v with new := lsZ } now 17 else m
noncomputable def Mg.retry (now : Int) (l : List Adv) (m : Mg) (i : Nat) : Mg :=
  let v := m.l.getD i vwZ
  if lacksB v = true ∧ v.wait ≤ now ∧ busyB m = false then m.tries i v now l else m
def Mg.forget (now : Int) (m : Mg) (i : Nat) : Mg :=
  let v := m.l.getD i vwZ
  (if v.now.k.lsp = 0 then m else m.says ⟨now, v.tn, 2, 17⟩).put i { v with now := lsZ, new := lsZ, wait := now + 1, back := 1 }
def upto {α : Type} (f : α → Nat → α) (a : α) : Nat → α
  | 0 => a
  | i + 1 => f (upto f a i) i
noncomputable def Mg.tick (m : Mg) (now : Int) (l : List Adv) : Mg × Int :=
  if mayB now = false then (m, 2) else (upto (Mg.retry now l) (upto (Mg.lapse now) m m.l.length) m.l.length, 0)
def Mg.restart (m : Mg) (now : Int) : Mg × Int :=
  if mayB now = false then (m, 2) else (upto (Mg.forget now) { m with acts := [] } m.l.length, 0)
theorem Mg.fails_len (m : Mg) (i : Nat) (v : Vw) (now c : Int) : (m.fails i v now c).l.length = m.l.length := by show (m.l.set i _).length = _; simp
theorem Mg.tries_is (m : Mg) (i : Nat) (v : Vw) (now : Int) (l : List Adv) : (∃ e, e ≠ 0 ∧ m.tries i v now l = m.fails i v now e) ∨ ∃ r, FN m.n l (askV v) m.head v.tl = (0, r) ∧ m.count < 65535 ∧ m.tries i v now l = ({ m with count := m.count + 1 }.put i { v with new := ⟨⟨v.tl, v.tn, m.head, m.count + 1⟩, v.w, r⟩, wait := now + 10 }).does ⟨1, v.tn, ⟨v.tl, v.tn, m.head, m.count + 1⟩, v.w, r⟩ := by
  unfold Mg.tries
  simp only
  have hobx : ∃ f, f = FN m.n l (askV v) m.head v.tl := ⟨_, rfl⟩
  obtain ⟨f, hf⟩ := hobx
  rw [← hf]
  by_cases h0 : f.1 = 0
  · by_cases h7 : 65535 ≤ m.count
    · exact Or.inl ⟨7, by decide, by rw [if_pos (show f.1 = 0 ∧ 65535 ≤ m.count from ⟨h0, h7⟩), if_pos (by decide)]⟩
    · exact Or.inr ⟨f.2, by rw [← h0], by omega, by rw [if_neg (show ¬ (f.1 = 0 ∧ 65535 ≤ m.count) from fun h => h7 h.2), if_neg (by simp [h0])]⟩
  · exact Or.inl ⟨f.1, h0, by rw [if_neg (show ¬ (f.1 = 0 ∧ 65535 ≤ m.count) from fun h => h0 h.1), if_pos h0]⟩
theorem Mg.tries_len (m : Mg) (i : Nat) (v : Vw) (now : Int) (l : List Adv) : (m.tries i v now l).l.length = m.l.length := by
  rcases m.tries_is i v now l with ⟨e, -, h⟩ | ⟨r, -, -, h⟩
  · rw [h, Mg.fails_len]
  · rw [h]; show (m.l.set i _).length = _; simp
theorem Mg.fails_room {m : Mg} {k : Nat} (h : m.room (k + 1)) (i : Nat) (v : Vw) (now c : Int) : (m.fails i v now c).room k := by
  unfold Mg.fails; exact Mg.room.says (h.put i _) _
theorem Mg.tries_room {m : Mg} {k : Nat} (h : m.room (k + 1)) (i : Nat) (v : Vw) (now : Int) (l : List Adv) : (m.tries i v now l).room k := by
  rcases m.tries_is i v now l with ⟨e, -, h2⟩ | ⟨r, -, -, h2⟩
  · rw [h2]; exact Mg.fails_room h _ _ _ _
  · rw [h2]; exact Mg.room.does (m := Mg.put { m with count := m.count + 1 } i _) h _
def Mg.in (m : Mg) (n k : Nat) : Prop := m.wf ∧ m.l.length = n ∧ m.room k
theorem Mg.in.at {m : Mg} {n k i : Nat} (h : m.in n k) (hi : i < n) : m.l[i]? = some (m.l.getD i vwZ) := by
  have : i < m.l.length := by rw [h.2.1]; exact hi
  rw [List.getD_eq_getElem?_getD, List.getElem?_eq_getElem this]; rfl
theorem Mg.in.vwf {m : Mg} {n k i : Nat} (h : m.in n k) (hi : i < n) : (m.l.getD i vwZ).wf := h.1.vs _ (List.mem_of_getElem? (h.at hi))
theorem Mg.in.lapse {m : Mg} {n k i : Nat} (h : m.in n (k + 2)) (hi : i < n) (now : Int) : (m.lapse now i).in n k := by
  have hv := h.vwf hi
  obtain ⟨h1, h2, h3⟩ := h
  unfold Mg.lapse
  simp only
  split
  · refine ⟨((h1.stop _ _).put i (v := { m.l.getD i vwZ with new := lsZ }) ⟨hv.1, hv.2.1, hv.2.2.1, wtZ_wf⟩).fails i (v := { m.l.getD i vwZ with new := lsZ }) ⟨hv.1, hv.2.1, hv.2.2.1, wtZ_wf⟩ _ _, ?_, Mg.fails_room ((h3.stop (k := k + 1) _ _).put _ _) _ _ _ _⟩
    rw [Mg.fails_len]
    show ((m.stop _ _).l.set i _).length = _
    rw [List.length_set, Mg.stop_l, h2]
  · exact ⟨h1, h2, h3.le (by omega)⟩
theorem Mg.in.retry {m : Mg} {n k i : Nat} (h : m.in n (k + 1)) (hi : i < n) (now : Int) (l : List Adv) : (m.retry now l i).in n k := by
  have hv := h.vwf hi
  obtain ⟨h1, h2, h3⟩ := h
  unfold Mg.retry
  simp only
  split
  · exact ⟨h1.tries i hv now l, by rw [Mg.tries_len, h2], Mg.tries_room h3 _ _ _ _⟩
  · exact ⟨h1, h2, h3.le (by omega)⟩
theorem Mg.in.forget {m : Mg} {n k i : Nat} (h : m.in n (k + 1)) (hi : i < n) (now : Int) : (m.forget now i).in n k := by
  have hv := h.vwf hi
  have hp : Vw.wf { m.l.getD i vwZ with now := lsZ, new := lsZ, wait := now + 1, back := 1 } := ⟨by show (0:Int) ≤ 1 ∧ (1 : Int) ≤ 8; omega, hv.2.1, wtZ_wf, wtZ_wf⟩
  obtain ⟨h1, h2, h3⟩ := h
  unfold Mg.forget
  simp only
  split
  · exact ⟨h1.put i hp, by show (m.l.set i _).length = _; rw [List.length_set, h2], (h3.le (by omega)).put _ _⟩
  · exact ⟨(h1.says _).put i hp, by show (m.l.set i _).length = _; rw [List.length_set, h2], (h3.says _).put _ _⟩
theorem upto_in {f : Mg → Nat → Mg} {n d : Nat} (hf : ∀ (m : Mg) (k i : Nat), m.in n (k + d) → i < n → (f m i).in n k) {m : Mg} {k : Nat} : ∀ i, i ≤ n → m.in n (k + n * d) → (upto f m i).in n (k + (n - i) * d)
  | 0, _, h => by rw [Nat.sub_zero]; exact h
  | i + 1, hi, h => by
    have := upto_in hf i (by omega) h
    refine hf _ _ i ?_ (by omega)
    have e : n - i = (n - (i + 1)) + 1 := by omega
    rw [e, Nat.succ_mul, ← Nat.add_assoc] at this
    exact this
section
variable {n0 : Nat} {A A' : AH} {mb : Nat} {ps : List Nat} {m : Mg} {p i : Nat} {v : Vw}
theorem sl_fr {a : Option Addr} (hs : Sl A 109 1 a (ps.map ptrT)) (hk : ∀ b o, a = some ⟨b, o, none⟩ → ∃ cs ro, A.get b = some (.row cs 109 ro)) (hf : FrT A A') : Sl A' 109 1 a (ps.map ptrT) := hs.kept fun b o y e _ => by
  have hobt := hk b o e
  obtain ⟨cs, ro, g⟩ := hobt
  exact hf b cs _ ro g (by unfold OwnT; decide)
theorem MP.man' (h : MP n0 A mb ps m) : ∃ a c av nv, A.get mb = some (.row [.int .i64 m.head, .int .i64 m.n, .slice a ps.length c, .int .i64 m.count, av, nv] 92 false) ∧ Sl A 109 1 a (ps.map ptrT) ∧ ∀ b o, a = some ⟨b, o, none⟩ → ∃ cs ro, A.get b = some (.row cs 109 ro) := by
  have hobt := h.full
  obtain ⟨lv, av, nv, ob, g, lo, fo⟩ := hobt
  have hobt := lo.slm
  obtain ⟨a, c, rfl, hs⟩ := hobt
  refine ⟨a, c, av, nv, g, hs, fun b o e => ?_⟩
  have hobt := lo.sl
  obtain ⟨a', c', e1, -, e3⟩ := hobt
  injection e1 with e1
  have hobt := lst_get lo (e3 b o (by rw [← e1]; exact e)).1
  obtain ⟨cs, g'⟩ := hobt
  exact ⟨cs, false, g'⟩
set_option maxHeartbeats 4000000 in
theorem tick_ok (h : MP n0 A mb ps m) (hm : m.wf) (now : Int) (hr : m.room 100) (hn0 : n0 ≤ A.next) {al : Option Addr} {cl : Nat} {l : List Adv} (hl : Sl A 83 15 al (l.map Adv.enc)) (ht : ∀ b o, al = some ⟨b, o, none⟩ → ∃ cs ro, A.get b = some (.row cs 83 ro)) (hx : ∀ x ∈ l, x.wf) (hln : l.length ≤ 1000) : ACall Tryz.prog 25 [.pointer (some ⟨mb, 0, none⟩), .int .i64 now, .slice al l.length cl] A fun r A' => MP n0 A' mb ps (m.tick now l).1 ∧ r = .int .i64 (m.tick now l).2 ∧ Fr n0 A A' := by
  have hnp : (0 : Int) < m.n := by have := hm.n; omega
  have hobt := h.man'
  obtain ⟨a, c, av, nv, g, hs, hk⟩ := hobt
  have hlen := h.len
  have hps := hm.len
  have hin : ∀ i, i ≤ ps.length → (upto (Mg.lapse now) m i).in ps.length (50 + (ps.length - i) * 2) := fun i hi => upto_in (fun m k i h hi => h.lapse hi now) i hi ⟨hm, hlen.symm, hr.le (by omega)⟩
  have hobx : ∃ M, M = upto (Mg.lapse now) m ps.length := ⟨_, rfl⟩
  obtain ⟨M, hM⟩ := hobx
  have hMi : M.in ps.length 50 := by have := hin ps.length (Nat.le_refl _); rw [Nat.sub_self, Nat.zero_mul] at this; rw [hM]; exact this
  have hin2 : ∀ i, i ≤ ps.length → (upto (Mg.retry now l) M i).in ps.length (20 + (ps.length - i) * 1) := fun i hi => upto_in (fun m k i h hi => h.retry hi now l) i hi ⟨hMi.1, hMi.2.1, hMi.2.2.le (by omega)⟩
  refine ACall.wf fun hwf => ?_
  refine code25.call (by simp) fun hwf => ?_
  unfold c25
  simp
  refine CN.use (mp_good h) ?_
  rintro _ A2 - - ⟨rfl, rfl⟩
  simp [hnp]
  refine CN.use (may_ok now A2) ?_
  rintro _ A3 - - ⟨rfl, rfl⟩
  by_cases e1 : 0 ≤ now ∧ now ≤ 1099511627766
  rotate_left
  · simp [e1]
    have : m.tick now l = (m, 2) := by unfold Mg.tick; rw [if_pos (by simp [mayB]; omega)]
    exact DN.of ⟨by rw [this]; exact h, by rw [this], Fr.refl _ _⟩
  have hti : m.tick now l = (upto (Mg.retry now l) M ps.length, 0) := by unfold Mg.tick; rw [if_neg (by simp [mayB]; omega), hM, hlen]
  simp [e1, g]
  refine LN.join 1 (fun j E A' => ∃ i : Nat, j + i = ps.length ∧ MP n0 A' mb ps (upto (Mg.lapse now) m i) ∧ Fr n0 A3 A' ∧ n0 ≤ A'.next ∧ E.get 0 = .pointer (some ⟨mb, 0, none⟩) ∧ E.get 1 = .int .i64 now ∧ E.get 2 = .slice al l.length cl ∧ E.get 22 = .slice a ps.length c ∧ E.get 23 = .int .i64 ps.length ∧ E.get 24 = .int .i64 i) ps.length
    (fun E A' => MP n0 A' mb ps M ∧ Fr n0 A3 A' ∧ n0 ≤ A'.next ∧ A'.wf ∧ E.get 0 = .pointer (some ⟨mb, 0, none⟩) ∧ E.get 1 = .int .i64 now ∧ E.get 2 = .slice al l.length cl)
    ⟨0, by omega, h, Fr.refl _ _, hn0, by simp, by simp, by simp, by simp, by simp, by simp⟩ ?_ ?_
  · rintro j E A4 hw4 hn4 ⟨i, hi, h4, f4, n4, E0, E1, E2, E22, E23, E24⟩
    by_cases hlt : i < ps.length
    rotate_left
    · have hlt' : ¬ (i : Int) < ps.length := by omega
      obtain rfl : i = ps.length := by omega
      simp [E23, E24, hlt']
      exact NX.of ⟨by rw [hM]; exact h4, f4, n4, hw4, by simp [E0], by simp [E1], by simp [E2]⟩
    have hlt' : (i : Int) < ps.length := by omega
    have hgi : IntKind.i64.wrap ((i : Int) + 1) = ((i + 1 : Nat) : Int) := by rw [i64_in (by omega) (by omega)]; simp
    have hi4 := hin i (by omega)
    obtain ⟨p, hp⟩ : ∃ p, ps[i]? = some p := ⟨ps[i]'hlt, List.getElem?_eq_getElem hlt⟩
    have hv := hi4.at hlt
    have hvw := hi4.vwf hlt
    have hobx : ∃ m4, m4 = upto (Mg.lapse now) m i := ⟨_, rfl⟩
    obtain ⟨m4, hm4⟩ := hobx
    have hst : upto (Mg.lapse now) m (i + 1) = m4.lapse now i := by rw [hm4]; rfl
    rw [← hm4] at h4 hv hvw hi4
    have hobx : ∃ v, v = m4.l.getD i vwZ := ⟨_, rfl⟩
    obtain ⟨v, hvd⟩ := hobx
    rw [← hvd] at hv hvw
    have hobt := h4.row hp hv
    obtain ⟨x, hxv, gp, xo, -⟩ := hobt
    have hs4 := sl_fr hs hk f4.2
    have hobt := hs4.one (i := i) (v := .pointer (some ⟨p, 0, none⟩)) (sl_ptr hs4 hp)
    obtain ⟨b, o, cs, q, hba, u1, u2⟩ := hobt
    have rl := row_len x mb
    have rn := row_new x mb
    have e30 : (VwM.row x mb)[30]'(by rw [rl]; omega) = .int .i64 v.wait := by rw [← hxv]; rfl
    have hxn : x.new.s = v.new := by rw [← hxv]; rfl
    simp [E0, E1, E2, E22, E23, E24, hlt, hlt', hba, u1, u2, gp, rl, rn]
    refine CN.use (lis_ok x.new A4) ?_
    rintro _ A5 hw5 hn5 ⟨rfl, x5⟩
    have h5 := h4.ext hw4 x5
    have f5 := f4.trans (Fr.ext hw4 n4 x5)
    have gp5 := x5.get hw4 gp
    by_cases k1 : v.new.k.lsp = 0
    · simp [hxn, k1, E24, hgi]
      refine NX.of ⟨j - 1, by omega, i + 1, by omega, ?_, f5, by omega, by simp [E0], by simp [E1], by simp [E2], by simp [E22, hba], by simp [E23], by simp⟩
      rw [hst]; unfold Mg.lapse; simp only [← hvd]; rw [if_neg (by simp [lateB, k1])]; exact h5
    by_cases k2 : v.wait < now
    rotate_left
    · simp [hxn, k1, gp5, rl, e30, E1, k2, E24, hgi]
      refine NX.of ⟨j - 1, by omega, i + 1, by omega, ?_, f5, by omega, by simp [E0], by simp [E1], by simp [E2], by simp [E22, hba], by simp [E23], by simp⟩
      rw [hst]; unfold Mg.lapse; simp only [← hvd]; rw [if_neg (by simp [lateB, k2])]; exact h5
    simp [hxn, k1, gp5, rl, e30, E1, k2]
    refine CN.use (mp_stop_new h5 hp hv (hi4.2.2.le (by omega)) (by omega)) ?_
    rintro _ A6 hw6 hn6 ⟨h6, f6⟩
    simp [E1]
    have hvz : Vw.wf { v with new := lsZ } := ⟨hvw.1, hvw.2.1, hvw.2.2.1, wtZ_wf⟩
    refine CN.use (mp_fails h6 hp (Mg.put_at (by rw [Mg.stop_l]; exact hv)) now 17 (((hi4.2.2.le (by omega)).stop (k := 1) _ _).put _ _) (by omega) e1 ((hi4.1.stop _ _).put i hvz)) ?_
    rintro _ A7 hw7 hn7 ⟨h7, f7⟩
    simp [E24, hgi]
    refine NX.of ⟨j - 1, by omega, i + 1, by omega, ?_, f5.trans (f6.trans f7), by omega, by simp [E0], by simp [E1], by simp [E2], by simp [E22, hba], by simp [E23], by simp⟩
    rw [hst]; unfold Mg.lapse; simp only [← hvd]; rw [if_pos (by simp [lateB, k1, k2])]; exact h7
  rintro E A4 ⟨h4, f4, n4, hw4, E0, E1, E2⟩
  have hobt := h4.man'
  obtain ⟨a2, c2, av2, nv2, g2, hs2, hk2⟩ := hobt
  simp [E0, E1, E2, g2]
  refine LN.use (fun j E A' => ∃ i : Nat, j + i = ps.length ∧ MP n0 A' mb ps (upto (Mg.retry now l) M i) ∧ Fr n0 A4 A' ∧ n0 ≤ A'.next ∧ E.get 0 = .pointer (some ⟨mb, 0, none⟩) ∧ E.get 1 = .int .i64 now ∧ E.get 2 = .slice al l.length cl ∧ E.get 56 = .slice a2 ps.length c2 ∧ E.get 57 = .int .i64 ps.length ∧ E.get 58 = .int .i64 i) ps.length
    ⟨0, by omega, h4, Fr.refl _ _, n4, by simp [E0], by simp [E1], by simp [E2], by simp, by simp, by simp⟩ ?_
  rintro j E A5 hw5 hn5 ⟨i, hi, h5, f5, n5, E0, E1, E2, E56, E57, E58⟩
  by_cases hlt : i < ps.length
  rotate_left
  · have hlt' : ¬ (i : Int) < ps.length := by omega
    obtain rfl : i = ps.length := by omega
    simp [E57, E58, hlt']
    exact DN.of ⟨by rw [hti]; exact h5, by rw [hti], f4.trans f5⟩
  have hlt' : (i : Int) < ps.length := by omega
  have hgi : IntKind.i64.wrap ((i : Int) + 1) = ((i + 1 : Nat) : Int) := by rw [i64_in (by omega) (by omega)]; simp
  have hi5 := hin2 i (by omega)
  obtain ⟨p, hp⟩ : ∃ p, ps[i]? = some p := ⟨ps[i]'hlt, List.getElem?_eq_getElem hlt⟩
  have hv := hi5.at hlt
  have hobx : ∃ m5, m5 = upto (Mg.retry now l) M i := ⟨_, rfl⟩
  obtain ⟨m5, hm5⟩ := hobx
  have hst : upto (Mg.retry now l) M (i + 1) = m5.retry now l i := by rw [hm5]; rfl
  rw [← hm5] at h5 hv hi5
  have hobx : ∃ v, v = m5.l.getD i vwZ := ⟨_, rfl⟩
  obtain ⟨v, hvd⟩ := hobx
  rw [← hvd] at hv
  have hs5 := sl_fr hs2 hk2 f5.2
  have hobt := hs5.one (i := i) (v := .pointer (some ⟨p, 0, none⟩)) (sl_ptr hs5 hp)
  obtain ⟨b, o, cs, q, hba, u1, u2⟩ := hobt
  have stay : ¬ (lacksB v = true ∧ v.wait ≤ now ∧ busyB m5 = false) → m5.retry now l i = m5 := fun hne => by unfold Mg.retry; simp only [← hvd]; rw [if_neg hne]
  simp [E0, E1, E2, E56, E57, E58, hlt, hlt', hba, u1, u2]
  refine CN.use (mp_lacks h5 hp hv) ?_
  rintro _ A6 hw6 hn6 ⟨rfl, x6⟩
  have h6 := h5.ext hw5 x6
  have f6 := f5.trans (Fr.ext hw5 n5 x6)
  have hobt := h6.row hp hv
  obtain ⟨x, hxv, gp, xo, -⟩ := hobt
  have rl := row_len x mb
  have e30 : (VwM.row x mb)[30]'(by rw [rl]; omega) = .int .i64 v.wait := by rw [← hxv]; rfl
  by_cases k1 : lacksB v = true
  rotate_left
  · simp [k1, E58, hgi]
    refine NX.of ⟨j - 1, by omega, i + 1, by omega, ?_, f6, by omega, by simp [E0], by simp [E1], by simp [E2], by simp [E56, hba], by simp [E57], by simp⟩
    rw [hst, stay (fun h => k1 h.1)]; exact h6
  by_cases k2 : v.wait ≤ now
  rotate_left
  · simp [k1, gp, rl, e30, E1, k2, E58, hgi]
    refine NX.of ⟨j - 1, by omega, i + 1, by omega, ?_, f6, by omega, by simp [E0], by simp [E1], by simp [E2], by simp [E56, hba], by simp [E57], by simp⟩
    rw [hst, stay (fun h => k2 h.2.1)]; exact h6
  simp [k1, gp, rl, e30, E0, E1, k2]
  refine CN.use (mp_busy h6 hi5.1) ?_
  rintro _ A7 hw7 hn7 ⟨x7, rfl⟩
  have h7 := h6.ext hw6 x7
  have f7 := f6.trans (Fr.ext hw6 (by omega) x7)
  by_cases k3 : busyB m5 = true
  · simp [k1, k2, k3, E58, hgi]
    refine NX.of ⟨j - 1, by omega, i + 1, by omega, ?_, f7, by omega, by simp [E0], by simp [E1], by simp [E2], by simp [E56, hba], by simp [E57], by simp⟩
    rw [hst, stay (fun h => by rw [k3] at h; cases h.2.2)]; exact h7
  have hl7 : Sl A7 83 15 al (l.map Adv.enc) := hl.kept fun b o z e hb => by
    have hobt := ht b o e
    obtain ⟨cs, ro, g⟩ := hobt
    exact (f4.trans f7).2 b cs _ ro g (by unfold OwnT; decide)
  simp [k1, k2, k3, E1, E2]
  refine CN.use (mp_tries h7 hp hv now (hi5.2.2.le (by omega)) (by omega) e1 hi5.1 hl7 hx hln) ?_
  rintro _ A8 hw8 hn8 ⟨h8, f8⟩
  simp [E58, hgi]
  refine NX.of ⟨j - 1, by omega, i + 1, by omega, ?_, f7.trans f8, by omega, by simp [E0], by simp [E1], by simp [E2], by simp [E56, hba], by simp [E57], by simp⟩
  rw [hst]; unfold Mg.retry; simp only [← hvd]; rw [if_pos ⟨k1, k2, by simpa using k3⟩]; exact h8
end
section
variable {n0 : Nat} {A A' : AH} {mb : Nat} {ps : List Nat} {m : Mg} {p i : Nat} {v : Vw}
theorem MP.cut (h : MP n0 A mb ps m) {a : Option Addr} {c : Nat} {av nv : Value} (g : A.get mb = some (.row [.int .i64 m.head, .int .i64 m.n, .slice a ps.length c, .int .i64 m.count, av, nv] 92 false)) : MP n0 (A.set mb (.row [.int .i64 m.head, .int .i64 m.n, .slice a ps.length c, .int .i64 m.count, .slice none 0 0, nv] 92 false)) mb ps { m with acts := [] } ∧ Fr n0 A (A.set mb (.row [.int .i64 m.head, .int .i64 m.n, .slice a ps.length c, .int .i64 m.count, .slice none 0 0, nv] 92 false)) := by
  have hfr := Only.fr h (A' := A.set mb (.row [.int .i64 m.head, .int .i64 m.n, .slice a ps.length c, .int .i64 m.count, .slice none 0 0, nv] 92 false)) ⟨fun k hk => by rw [AH.get_set, if_neg hk], rfl⟩
  obtain ⟨X, acts, h1, h2, h3⟩ := h
  have hf : Fr2 92 63 A (A.set mb (.row [.int .i64 m.head, .int .i64 m.n, .slice a ps.length c, .int .i64 m.count, .slice none 0 0, nv] 92 false)) := fun b cs T ro gb t1 t2 => by
    rw [AH.get_set, if_neg]
    intro e; subst e; rw [g] at gb; injection gb with gb; injection gb with _ gb _; exact t1 gb.symm
  exact ⟨⟨X, [], h1.new_acts (ob := none) g (by rw [AH.get_set, if_pos rfl]) (Lst.nil _ _ _) (by simp) hf (by simp), h2, rfl⟩, hfr⟩
set_option maxHeartbeats 4000000 in
theorem restart_ok (h : MP n0 A mb ps m) (hm : m.wf) (now : Int) (hr : m.room 100) (hn0 : n0 ≤ A.next) : ACall Tryz.prog 26 [.pointer (some ⟨mb, 0, none⟩), .int .i64 now] A fun r A' => MP n0 A' mb ps (m.restart now).1 ∧ r = .int .i64 (m.restart now).2 ∧ Fr n0 A A' := by
  have hnp : (0 : Int) < m.n := by have := hm.n; omega
  have hobt := h.man'
  obtain ⟨a, c, av, nv, g, hs, hk⟩ := hobt
  have hlen := h.len
  have hps := hm.len
  have hobx : ∃ A1, A1 = A.set mb (.row [.int .i64 m.head, .int .i64 m.n, .slice a ps.length c, .int .i64 m.count, .slice none 0 0, nv] 92 false) := ⟨_, rfl⟩
  obtain ⟨A1, hA1⟩ := hobx
  have hc := h.cut g
  rw [← hA1] at hc
  obtain ⟨h1, f1⟩ := hc
  have g1 : A1.get mb = some (.row [.int .i64 m.head, .int .i64 m.n, .slice a ps.length c, .int .i64 m.count, .slice none 0 0, nv] 92 false) := by rw [hA1, AH.get_set, if_pos rfl]
  have n1 : A1.next = A.next := by rw [hA1]; rfl
  have hobx : ∃ M : Mg, M = { m with acts := [] } := ⟨_, rfl⟩
  obtain ⟨M, hM⟩ := hobx
  rw [← hM] at h1
  have hMi : M.in ps.length (50 + ps.length * 1) := by rw [hM]; exact ⟨⟨hm.hd, hm.n, hm.cnt, hm.vs, hm.len⟩, hlen.symm, ⟨by simp; omega, by have := hr.2; simp; omega⟩⟩
  have hin : ∀ i, i ≤ ps.length → (upto (Mg.forget now) M i).in ps.length (50 + (ps.length - i) * 1) := fun i hi => upto_in (fun m k i h hi => h.forget hi now) i hi hMi
  have hz : spl (List.replicate 0 (Value.int .i64 0)) 0 [] = [] := rfl
  have hzc : lmZ.enc = [.int .i64 0, .int .i64 0, .int .i64 0, .int .i64 0, .int .u64 0, .int .i64 0, .int .i64 0, .int .u32 0, .int .u32 0, .int .u32 0, .slice none 0 0] := rfl
  refine ACall.wf fun hwf => ?_
  have w1 : A1.wf := by rw [hA1]; exact AH.wf_set hwf (hwf _ _ g) _
  refine code26.call (by simp) fun hwf => ?_
  unfold c26
  simp
  refine CN.use (mp_good h) ?_
  rintro _ A2 - - ⟨rfl, rfl⟩
  simp [hnp]
  refine CN.use (may_ok now A2) ?_
  rintro _ A3 - - ⟨rfl, rfl⟩
  by_cases e1 : 0 ≤ now ∧ now ≤ 1099511627766
  rotate_left
  · simp [e1]
    have : m.restart now = (m, 2) := by unfold Mg.restart; rw [if_pos (by simp [mayB]; omega)]
    exact DN.of ⟨by rw [this]; exact h, by rw [this], Fr.refl _ _⟩
  have hti : m.restart now = (upto (Mg.forget now) M ps.length, 0) := by unfold Mg.restart; rw [if_neg (by simp [mayB]; omega), hM, hlen]
  have hnw : IntKind.i64.wrap (now + 1) = now + 1 := i64_in (by omega) (by omega)
  simp [e1, g, ← hA1, g1]
  refine LN.use (fun j E A' => ∃ i : Nat, j + i = ps.length ∧ MP n0 A' mb ps (upto (Mg.forget now) M i) ∧ Fr n0 A3 A' ∧ n0 ≤ A'.next ∧ E.get 1 = .int .i64 now ∧ E.get 21 = .slice a ps.length c ∧ E.get 22 = .int .i64 ps.length ∧ E.get 23 = .int .i64 i) ps.length
    ⟨0, by omega, h1, f1, by omega, by simp, by simp, by simp, by simp⟩ ?_
  rintro j E A5 hw5 hn5 ⟨i, hi, h5, f5, n5, E1, E21, E22, E23⟩
  by_cases hlt : i < ps.length
  rotate_left
  · have hlt' : ¬ (i : Int) < ps.length := by omega
    obtain rfl : i = ps.length := by omega
    simp [E22, E23, hlt']
    exact DN.of ⟨by rw [hti]; exact h5, by rw [hti], f5⟩
  have hlt' : (i : Int) < ps.length := by omega
  have hgi : IntKind.i64.wrap ((i : Int) + 1) = ((i + 1 : Nat) : Int) := by rw [i64_in (by omega) (by omega)]; simp
  have hi5 := hin i (by omega)
  obtain ⟨p, hp⟩ : ∃ p, ps[i]? = some p := ⟨ps[i]'hlt, List.getElem?_eq_getElem hlt⟩
  have hv := hi5.at hlt
  have hobx : ∃ m5, m5 = upto (Mg.forget now) M i := ⟨_, rfl⟩
  obtain ⟨m5, hm5⟩ := hobx
  have hst : upto (Mg.forget now) M (i + 1) = m5.forget now i := by rw [hm5]; rfl
  rw [← hm5] at h5 hv hi5
  have hobx : ∃ v, v = m5.l.getD i vwZ := ⟨_, rfl⟩
  obtain ⟨v, hvd⟩ := hobx
  rw [← hvd] at hv
  have hs5 := sl_fr hs hk f5.2
  have hobt := hs5.one (i := i) (v := .pointer (some ⟨p, 0, none⟩)) (sl_ptr hs5 hp)
  obtain ⟨b, o, cs, q, hba, u1, u2⟩ := hobt
  have hobt := h5.row hp hv
  obtain ⟨x, hxv, gp, xo, -⟩ := hobt
  have rl := row_len x mb
  have rn := row_now x mb
  have hxn : x.now.s = v.now := by rw [← hxv]; rfl
  /- what comes behind the line that may be written -/
  have last : ∀ {m6 : Mg} {A6 : AH}, MP n0 A6 mb ps m6 → m6.l[i]? = some v → ∃ x6 : VwM, A6.get p = some (.row (x6.row mb) 111 false) ∧ MP n0 (A6.set p (.row (VwM.row { x6 with now := lmZ, new := lmZ } mb) 111 false)) mb ps (m6.put i { v with now := lsZ, new := lsZ }) ∧ Fr n0 A6 (A6.set p (.row (VwM.row { x6 with now := lmZ, new := lmZ } mb) 111 false)) := fun {m6 A6} h6 hv6 => by
    have hobt := h6.row hp hv6
    obtain ⟨x6, hx6, gp6, xo6, -⟩ := hobt
    have := h6.set hp hv6 (y := { x6 with now := lmZ, new := lmZ }) ⟨lmZ_ok _, lmZ_ok _⟩
    rw [show VwM.v { x6 with now := lmZ, new := lmZ } = { v with now := lsZ, new := lsZ } by rw [← hx6]; rfl] at this
    exact ⟨x6, gp6, this⟩
  simp [E1, E21, E22, E23, hlt, hlt', hba, u1, u2, gp, rl, rn]
  refine CN.use (lis_ok x.now A5) ?_
  rintro _ A6 hw6 hn6 ⟨rfl, x6⟩
  have h6 := h5.ext hw5 x6
  have f6 := f5.trans (Fr.ext hw5 n5 x6)
  by_cases k1 : v.now.k.lsp = 0
  · obtain ⟨y, gy, h7, f7⟩ := last h6 hv
    have hobx : ∃ A7, A7 = A6.set p (.row (VwM.row { y with now := lmZ, new := lmZ } mb) 111 false) := ⟨_, rfl⟩
    obtain ⟨A7, hA7⟩ := hobx
    rw [← hA7] at h7 f7
    have r1 := row_len y mb
    have i1 := set_now y mb lmZ
    have r2 := row_len { y with now := lmZ } mb
    have i2 := set_new { y with now := lmZ } mb lmZ
    rw [hzc] at i1 i2
    simp [hxn, k1, gy, r1, i1, r2, i2, ← hA7, E1, hnw]
    refine CN.use (mp_rests h7 hp (Mg.put_at hv) (now + 1)) ?_
    rintro _ A8 hw8 hn8 ⟨h8, f8⟩
    rw [Mg.put_put] at h8
    have n8 : n0 ≤ A8.next := by have : A7.next = A6.next := by { rw [hA7]; rfl }; omega
    simp [E23, hgi]
    refine NX.of ⟨j - 1, by omega, i + 1, by omega, ?_, f6.trans (f7.trans f8), n8, by simp [E1], by simp [E21, hba], by simp [E22], by simp⟩
    rw [hst]; unfold Mg.forget; simp only [← hvd]; rw [if_pos k1]; exact h8
  simp [hxn, k1, E1]
  refine CN.use (mp_says h6 hp hv now 2 17 (hi5.2.2.le (by omega)) (by omega)) ?_
  rintro _ A9 hw9 hn9 ⟨h9, f9⟩
  have hobt := last h9 hv
  obtain ⟨y, gy, h7, f7⟩ := hobt
  have hobx : ∃ A7, A7 = A9.set p (.row (VwM.row { y with now := lmZ, new := lmZ } mb) 111 false) := ⟨_, rfl⟩
  obtain ⟨A7, hA7⟩ := hobx
  rw [← hA7] at h7 f7
  have r1 := row_len y mb
  have i1 := set_now y mb lmZ
  have r2 := row_len { y with now := lmZ } mb
  have i2 := set_new { y with now := lmZ } mb lmZ
  rw [hzc] at i1 i2
  simp [gy, r1, i1, r2, i2, ← hA7, E1, hnw]
  refine CN.use (mp_rests h7 hp (Mg.put_at (v := v) hv) (now + 1)) ?_
  rintro _ A8 hw8 hn8 ⟨h8, f8⟩
  rw [Mg.put_put] at h8
  have n8 : n0 ≤ A8.next := by have : A7.next = A9.next := by { rw [hA7]; rfl }; omega
  simp [E23, hgi]
  refine NX.of ⟨j - 1, by omega, i + 1, by omega, ?_, f6.trans (f9.trans (f7.trans f8)), n8, by simp [E1], by simp [E21, hba], by simp [E22], by simp⟩
  rw [hst]; unfold Mg.forget; simp only [← hvd]; rw [if_neg k1]; exact h8
end
structure At where
  kind : Nat
  now : Int
  tn : Int
  tl : Int
  w : Wt
  e : Ev
  l : List Adv
structure AtM where
  x : At
  a : Option Addr
  c : Nat
def AtM.enc (y : AtM) : List Value := [.int .u8 y.x.kind, .int .i64 y.x.now, .int .i64 y.x.tn, .int .i64 y.x.tl] ++ y.x.w.enc ++ y.x.e.enc ++ [.slice y.a y.x.l.length y.c]
def AtM.ok (A : AH) (y : AtM) : Prop := Sl A 132 15 y.a (y.x.l.map Adv.enc) ∧ (∀ x ∈ y.x.l, x.wf) ∧ y.x.w.wf ∧ y.x.kind < 256
noncomputable def Mg.actK (m : Mg) (x : At) : Nat → Mg × Int
  | 0 => m.event x.now x.e
  | 1 => m.create x.now x.tn x.tl x.w x.l
  | 2 => m.modify x.now x.tn x.w x.l
  | 3 => m.delete x.tn
  | 4 => m.tick x.now x.l
  | _ => m.restart x.now
noncomputable def Mg.act (m : Mg) (x : At) : Mg × Int := m.actK x (x.kind % 6)
theorem own_ty {n0 : Nat} {A : AH} {e : TypeId} {z : Nat} {a : Option Addr} {n c : Nat} {L : List (List Value)} (h : Own n0 A e z (.slice a n c) L) : ∀ b o, a = some ⟨b, o, none⟩ → ∃ cs ro, A.get b = some (.row cs e ro) := fun b o e => by
  rcases h.2 with ⟨h1, _⟩ | ⟨b', h1, _, h3⟩
  · injection h1 with h1; rw [h1] at e; cases e
  · injection h1 with h1; rw [h1] at e; injection e with e; injection e with e _ _; subst e; exact ⟨_, _, h3⟩
section
variable {n0 : Nat} {A A' : AH} {mb : Nat} {ps : List Nat} {m : Mg}
set_option maxHeartbeats 4000000 in
theorem act_ok (h : MP n0 A mb ps m) (hm : m.wf) (y : AtM) (hy : y.ok A) (hl : y.x.l.length ≤ 1000) (hr : m.room 100) (hn0 : n0 ≤ A.next) : ACall Tryz.prog 7 [.pointer (some ⟨mb, 0, none⟩), .agg y.enc.toArray] A fun r A' => (∃ ps', MP n0 A' mb ps' (m.act y.x).1) ∧ r = .int .i64 (m.act y.x).2 ∧ FrL n0 A A' := by
  obtain ⟨hs, hx, hw, hk6⟩ := hy
  have hrow : y.enc = [.int .u8 y.x.kind, .int .i64 y.x.now, .int .i64 y.x.tn, .int .i64 y.x.tl, .int .u64 y.x.w.bw, .int .i64 y.x.w.setup, .int .i64 y.x.w.hold, .int .u32 y.x.w.any, .int .u32 y.x.w.all, .int .u32 y.x.w.no, .int .i64 y.x.e.what, .int .i64 y.x.e.k.tail, .int .i64 y.x.e.k.tunnel, .int .i64 y.x.e.k.head, .int .i64 y.x.e.k.lsp, .int .i64 y.x.e.code, .slice y.a y.x.l.length y.c] := rfl
  have hobx : ∃ L, L = y.enc := ⟨_, rfl⟩
  obtain ⟨L, hL⟩ := hobx
  refine ACall.wf fun hwf => ?_
  have hobx : ∃ A1, A1 = A.alloc (.row y.enc 43 false) := ⟨_, rfl⟩
  obtain ⟨A1, hA1⟩ := hobx
  have w1 : A1.wf := by rw [hA1]; exact AH.wf_alloc hwf _
  have n1 : A1.next = A.next + 1 := by rw [hA1]; rfl
  have x1 : Ext A A1 := by rw [hA1]; exact Ext.alloc A _
  have ge : A1.get A.next = some (.row y.enc 43 false) := by rw [hA1, AH.get_new]
  rw [hrow] at hA1 ge
  have h1 := h.ext hwf x1
  have f1 := Fr.ext hwf hn0 x1
  have hmod : y.x.kind % 6 < 6 := Nat.mod_lt _ (by omega)
  have hobx : ∃ k, k = y.x.kind % 6 := ⟨_, rfl⟩
  obtain ⟨k, hk⟩ := hobx
  have hkm : ((y.x.kind : Int).tmod 6) = (k : Int) := by rw [Int.tmod_eq_emod_of_nonneg (by omega)]; omega
  have hku : IntKind.u8.wrap (k : Int) = (k : Int) := by
    have : k = 0 ∨ k = 1 ∨ k = 2 ∨ k = 3 ∨ k = 4 ∨ k = 5 := by omega
    rcases this with e | e | e | e | e | e <;> rw [e] <;> rfl
  refine code7.call (by simp) fun hwf => ?_
  unfold c7
  simp [hrow, ← hA1, ge]
  refine CN.use (adverts_ok (hs.ext hwf x1) hx hl) ?_
  rintro v2 A2 hw2 hn2 ⟨x2, o2⟩
  have hobt := own_slm o2
  obtain ⟨a2, c2, rfl, s2, -⟩ := hobt
  have t2 := own_ty o2
  have h2 := h1.ext w1 x2
  have f2 := f1.trans (Fr.ext w1 (by omega) x2)
  have ge2 := x2.get w1 ge
  have n2 : n0 ≤ A2.next := by omega
  have hc : k = 0 ∨ k = 1 ∨ k = 2 ∨ k = 3 ∨ k = 4 ∨ k = 5 := by omega
  rcases hc with e | e | e | e | e | e
  · have ha : m.act y.x = m.event y.x.now y.x.e := by unfold Mg.act; rw [← hk, e]; rfl
    simp [ge2, hkm, hku, e]
    refine CN.use (event_ok h2 hm y.x.now y.x.e (hr.le (by omega)) n2) ?_
    rintro _ A3 hw3 hn3 ⟨h3, rfl, f3⟩
    simp
    exact DN.of ⟨⟨_, by rw [ha]; exact h3⟩, by rw [ha], (f2.trans f3).frL⟩
  · have ha : m.act y.x = m.create y.x.now y.x.tn y.x.tl y.x.w y.x.l := by unfold Mg.act; rw [← hk, e]; rfl
    simp [ge2, hkm, hku, e]
    refine CN.use (create_ok h2 hm y.x.now y.x.tn y.x.tl y.x.w hw (hr.le (by omega)) n2 s2 t2 hx hl) ?_
    rintro _ A3 hw3 hn3 ⟨h3, rfl, f3⟩
    simp
    exact DN.of ⟨by rw [ha]; exact h3, by rw [ha], f2.frL.trans f3⟩
  · have ha : m.act y.x = m.modify y.x.now y.x.tn y.x.w y.x.l := by unfold Mg.act; rw [← hk, e]; rfl
    simp [ge2, hkm, hku, e]
    refine CN.use (modify_ok h2 hm y.x.now y.x.tn y.x.w hw (hr.le (by omega)) n2 s2 t2 hx hl) ?_
    rintro _ A3 hw3 hn3 ⟨h3, rfl, f3⟩
    simp
    exact DN.of ⟨⟨_, by rw [ha]; exact h3⟩, by rw [ha], (f2.trans f3).frL⟩
  · have ha : m.act y.x = m.delete y.x.tn := by unfold Mg.act; rw [← hk, e]; rfl
    simp [ge2, hkm, hku, e]
    refine CN.use (delete_tok h2 hm y.x.tn (hr.le (by omega)) n2) ?_
    rintro _ A3 hw3 hn3 ⟨h3, rfl, f3⟩
    simp
    exact DN.of ⟨by rw [ha]; exact h3, by rw [ha], f2.frL.trans f3⟩
  · have ha : m.act y.x = m.tick y.x.now y.x.l := by unfold Mg.act; rw [← hk, e]; rfl
    simp [ge2, hkm, hku, e]
    refine CN.use (tick_ok h2 hm y.x.now hr n2 s2 t2 hx hl) ?_
    rintro _ A3 hw3 hn3 ⟨h3, rfl, f3⟩
    simp
    exact DN.of ⟨⟨_, by rw [ha]; exact h3⟩, by rw [ha], (f2.trans f3).frL⟩
  · have ha : m.act y.x = m.restart y.x.now := by unfold Mg.act; rw [← hk, e]; rfl
    simp [ge2, hkm, hku, e]
    refine CN.use (restart_ok h2 hm y.x.now hr n2) ?_
    rintro _ A3 hw3 hn3 ⟨h3, rfl, f3⟩
    simp
    exact DN.of ⟨⟨_, by rw [ha]; exact h3⟩, by rw [ha], (f2.trans f3).frL⟩
end
def VwsR (A : AH) (a : Option Addr) (xs : List VwM) : Prop := Sl A 107 32 a (xs.map VwM.enc) ∧ (∀ x ∈ xs, x.ok A) ∧ (∀ b o, a = some ⟨b, o, none⟩ → ∃ cs ro, A.get b = some (.row cs 107 ro))
theorem VwsR.keep {A A' : AH} {a : Option Addr} {xs : List VwM} (h : VwsR A a xs) (hf : ∀ k cs T ro, A.get k = some (.row cs T ro) → T = 107 ∨ T = 3 → A'.get k = A.get k) : VwsR A' a xs := by
  have hi : ∀ b cs ro, A.get b = some (.row cs 3 ro) → A'.get b = A.get b := fun b cs ro g => hf b cs _ ro g (Or.inr rfl)
  refine ⟨h.1.kept fun b o y e _ => ?_, fun x hx => ⟨(h.2.1 x hx).1.int hi, (h.2.1 x hx).2.int hi⟩, fun b o e => ?_⟩
  · obtain ⟨cs, ro, g⟩ := h.2.2 b o e; exact hf b cs _ ro g (Or.inl rfl)
  · obtain ⟨cs, ro, g⟩ := h.2.2 b o e; exact ⟨cs, ro, (hf b cs _ ro g (Or.inl rfl)).trans g⟩
theorem VwsR.frL {n0 : Nat} {A A' : AH} {a : Option Addr} {xs : List VwM} (h : VwsR A a xs) (hf : FrL n0 A A') : VwsR A' a xs := h.keep fun k cs T ro g hT => hf.2 k cs T ro g (by rcases hT with e | e <;> rw [e] <;> unfold OwnT <;> decide) (by rcases hT with e | e <;> rw [e] <;> decide)
theorem VwsR.ext {A A' : AH} {a : Option Addr} {xs : List VwM} (h : VwsR A a xs) (hw : A.wf) (hx : Ext A A') : VwsR A' a xs := h.keep fun k cs T ro g _ => hx k (hw _ _ g)
@[simp high] theorem wt_eql (A : AH) (x y : Wt) : aBin Tryz.prog A .eql 36 (.agg x.enc.toArray) (.agg y.enc.toArray) = some (.bool (decide (x = y))) := by
  rw [aBin_eql_agg A _ _ _ eg36]
  have : aEq Tryz.prog A 20 36 (.agg x.enc.toArray) (.agg y.enc.toArray) = some (decide (x = y)) := by
    rcases x with ⟨b1, b2, b3, b4, b5, b6⟩
    rcases y with ⟨d1, d2, d3, d4, d5, d6⟩
    simp [Wt.enc]
    grind
  rw [this]; rfl
noncomputable instance : DecidableEq Vw := fun _ _ => Classical.propDecidable _
def dk : List Lk := [⟨0, 1, 9, 1, 0⟩, ⟨1, 2, 9, 1, 0⟩]
def dl : List Adv := dk.map fun k => ⟨k, 0, true, List.replicate 8 9⟩
def dw : Wt := ⟨4, 0, 0, 0, 0, 0⟩
def dv : Vw := ⟨7, 2, dw, lsZ, lsZ, 5, 1⟩
def dky : Ky := ⟨2, 7, 0, 1⟩
theorem dfit : fitL dl (askV dv) = dk := by kernel_rfl
theorem dgood : goodN 3 dk := goodN_iff.2 (by decide)
theorem dgoodF : goodF 3 dl (askV dv) 0 2 := ⟨dgood, by omega, by omega, by omega, rfl, by decide⟩
theorem dwk {v c : Int} {l : List Int} (h : Wk dk 0 v l c) : (v = 0 ∧ l = [0] ∧ c = 0) ∨ (v = 1 ∧ l = [0, 1] ∧ c = 1) ∨ (v = 2 ∧ l = [0, 1, 2] ∧ c = 2) := by
  induction h with
  | one => exact Or.inl ⟨rfl, rfl, rfl⟩
  | snoc u l c i h hi hf ih =>
    have hi' : i < 2 := hi
    have h4 : i = 0 ∨ i = 1 := by omega
    rcases h4 with rfl | rfl
    · have hf' : (0 : Int) = u := hf
      rcases ih with ⟨a, b, c'⟩ | ⟨a, -⟩ | ⟨a, -⟩
      · subst b c'; exact Or.inr (Or.inl ⟨rfl, rfl, rfl⟩)
      all_goals omega
    · have hf' : (1 : Int) = u := hf
      rcases ih with ⟨a, -⟩ | ⟨a, b, c'⟩ | ⟨a, -⟩
      · omega
      · subst b c'; exact Or.inr (Or.inr ⟨rfl, rfl, rfl⟩)
      all_goals omega
theorem dw0 : Wk dk 0 0 [0] 0 := .one
theorem dw1 : Wk dk 0 1 [0, 1] 1 := .snoc 0 _ _ 0 dw0 (by decide) rfl
theorem dw2 : Wk dk 0 2 [0, 1, 2] 2 := .snoc 1 _ _ 1 dw1 (by decide) rfl
theorem dfind : FndP 3 dl (askV dv) 0 2 0 [0, 1, 2] 2 := by
  refine Or.inr ⟨dgoodF, ⟨[0, 1, 2], 2, false⟩, ?_, Or.inr ⟨rfl, by decide, rfl, rfl⟩⟩
  rw [dfit]
  refine ⟨fun _ => ⟨dw2, by decide, by decide⟩, fun h => absurd h (by decide), fun l c hw hl => ?_⟩
  rcases dwk hw with ⟨h, -⟩ | ⟨h, -⟩ | ⟨-, rfl, rfl⟩
  · omega
  · omega
  · exact ⟨by decide, leB.refl _ _⟩
theorem dFN : FN 3 dl (askV dv) 0 2 = (0, [0, 1, 2]) := FN_is dfind
def dm1 : Mg := ⟨0, 3, [⟨7, 2, dw, lsZ, ⟨dky, dw, [0, 1, 2]⟩, 15, 1⟩], 1, [⟨1, 7, dky, dw, [0, 1, 2]⟩], []⟩
theorem dcreate : (mgN 0 3).create 5 7 2 dw dl = (dm1, 0) := by
  have hp : posL (mgN 0 3).l 7 = 0 := rfl
  have h1 : ((mgN 0 3).insV 0 dv).tries 0 dv 5 dl = dm1 := by
    unfold Mg.tries
    have e : FN ((mgN 0 3).insV 0 dv).n dl (askV dv) ((mgN 0 3).insV 0 dv).head dv.tl = (0, [0, 1, 2]) := dFN
    rw [e]
    rfl
  unfold Mg.create
  rw [if_neg (by decide), if_neg (by decide), if_neg (by decide)]
  simp only [hp]
  have hb : busyB ((mgN 0 3).insV 0 dv) = false := by decide
  show ((if busyB ((mgN 0 3).insV 0 dv) = true then (mgN 0 3).insV 0 dv else ((mgN 0 3).insV 0 dv).tries 0 dv 5 dl), (0 : Int)) = _
  rw [hb, h1]; rfl
def dev : Ev := ⟨1, dky, 0⟩
def dm2 : Mg := ⟨0, 3, [⟨7, 2, dw, ⟨dky, dw, [0, 1, 2]⟩, lsZ, 15, 1⟩], 1, [⟨3, 7, dky, wtZ, []⟩], [⟨6, 7, 1, 0⟩]⟩
theorem devent : ({ dm1 with acts := [] } : Mg).event 6 dev = (dm2, 0) := rfl
theorem dl_wf : ∀ x ∈ dl, x.wf := by
  intro x hx
  have hobt := List.mem_map.1 hx
  obtain ⟨k, hk, rfl⟩ := hobt
  have : 0 ≤ k.g ∧ k.g < 4294967296 := by
    simp only [dk, List.mem_cons, List.not_mem_nil, or_false] at hk
    rcases hk with rfl | rfl <;> decide
  refine ⟨rfl, fun n hn => ?_, this.1, this.2⟩
  simp at hn; omega
theorem dk_rw : Rw 5 (dk.map Lk.enc) := by
  intro r hr
  have hobt := List.mem_map.1 hr
  obtain ⟨k, -, rfl⟩ := hobt
  exact ⟨rfl, rfl⟩
theorem dl_at {k : Nat} (h : k < dk.length) (h' : k < dl.length) {x : Lk} (hx : dk[k] = x) : dl[k] = ⟨x, 0, true, List.replicate 8 9⟩ := by subst hx; exact List.getElem_map _
theorem dw_wf : dw.wf := by unfold Wt.wf dw; simp
theorem dm1_wf : dm1.wf := by
  have := (mgN_wf (head := 0) (n := 3) rfl)
  exact ⟨by decide, by decide, by decide, fun v hv => by
    rw [List.mem_singleton.1 hv]; exact ⟨by show (0:Int) ≤ 1 ∧ (1 : Int) ≤ 8; omega, dw_wf, wtZ_wf, dw_wf⟩, by decide⟩
theorem dm2_wf : dm2.wf := ⟨by decide, by decide, by decide, fun v hv => by
    rw [List.mem_singleton.1 hv]; exact ⟨by show (0:Int) ≤ 1 ∧ (1 : Int) ≤ 8; omega, dw_wf, dw_wf, wtZ_wf⟩, by decide⟩
theorem nines : aBuild Tryz.prog 81 [(0, Value.int .u64 9), (1, Value.int .u64 9), (2, Value.int .u64 9), (3, Value.int .u64 9), (4, Value.int .u64 9), (5, Value.int .u64 9), (6, Value.int .u64 9), (7, Value.int .u64 9)] = some (.agg ⟨[.int .u64 9, .int .u64 9, .int .u64 9, .int .u64 9, .int .u64 9, .int .u64 9, .int .u64 9, .int .u64 9]⟩) := by kernel_rfl
section
set_option maxHeartbeats 4000000 in
theorem alive_ok (A : AH) : ACall Tryz.prog 5 [] A fun v A' => v = .bool true ∧ Ext A A' := by
  refine code5.call (by simp) fun hwf => ?_
  unfold c5
  simp
  refine LN.use (fun m E A' => ∃ (k : Nat) (u : Value), m + k = 2 ∧ Ext A A' ∧ A.next + 1 ≤ A'.next ∧ A'.get A.next = some (.row (dk.map Lk.enc).flatten 79 false) ∧ Own (A.next + 1) A' 83 15 u ((dl.take k).map Adv.enc) ∧ E.get 1 = u ∧ E.get 12 = .slice (some ⟨A.next, 0, none⟩) 2 2 ∧ E.get 13 = .int .i64 2 ∧ E.get 14 = .int .i64 k) 2
    ⟨0, .slice none 0 0, by omega, Ext.alloc A _, by simp, AH.get_new _ _, Own.nil _ _ _ _, by simp, by simp, by simp, by simp⟩ ?_
  rintro m E A1 hw1 hn1 ⟨k, u, hk, x1, n1, g1, o1, E1, E12, E13, E14⟩
  by_cases hlt : k < 2
  · have hlt' : (k : Int) < 2 := by omega
    have hgi : IntKind.i64.wrap ((k : Int) + 1) = ((k + 1 : Nat) : Int) := by rw [i64_in (by omega) (by omega)]; simp
    have hkd : k < dk.length := hlt
    have hat := flat_at dk_rw.len (i := k) (by rw [List.length_map]; exact hlt)
    rw [List.getElem_map] at hat
    have hfl : (dk.map Lk.enc).flatten.length = 10 := rfl
    have hfit : k * 5 + 5 ≤ (dk.map Lk.enc).flatten.length := by omega
    obtain ⟨f, t, cc, mm, g, hx⟩ : ∃ f t c m g, dk[k] = (⟨f, t, c, m, g⟩ : Lk) := ⟨_, _, _, _, _, rfl⟩
    rw [hx] at hat
    simp only [Lk.enc] at hat
    have hkl : k < dl.length := hlt
    have hdk : dl[k].enc = [.int .i64 f, .int .i64 t, .int .u64 cc, .int .i64 mm, .int .u32 g, .int .i64 0, .bool true, .int .u64 9, .int .u64 9, .int .u64 9, .int .u64 9, .int .u64 9, .int .u64 9, .int .u64 9, .int .u64 9] := by
      rw [dl_at hkd hkl hx]; rfl
    have hdl : (dl.take k).length = k := by rw [List.length_take]; exact Nat.min_eq_left (by show k ≤ 2; omega)
    have x2 := Ext.alloc A1 (.row [.int .i64 f, .int .i64 t, .int .u64 cc, .int .i64 mm, .int .u32 g] 79 false)
    have hw2 := AH.wf_alloc hw1 (.row [.int .i64 f, .int .i64 t, .int .u64 cc, .int .i64 mm, .int .u32 g] 79 false)
    have hobt := own_push (o1.ext hw1 x2) (y := 120) (r := dl[k].enc) hw2 (by simp; omega) (by rw [hdk]; exact ⟨rfl, rfl⟩) (by omega) (by omega) (by simp [hdl]; omega)
    obtain ⟨u', A3, p1, p2, p3, p4⟩ := hobt
    simp only [AH.next_alloc] at p1 p3
    have hobt := own_slm o1
    obtain ⟨a2, c2, rfl, -⟩ := hobt
    rw [hdl] at p1 E1
    rw [hdk] at p1
    generalize hcs : (dk.map Lk.enc).flatten = cs at g1 hat hfit
    simp [E1, E12, E13, E14, hlt, hlt', g1, hat, hfit, nines, p1, hgi]
    refine NX.of ⟨m - 1, by omega, k + 1, u', by omega, fun c hc => by rw [p4 c (by omega), x2 c (by omega), x1 c hc], by omega, by rw [p4 _ (by omega), x2 _ (by omega)]; exact g1, ?_, by simp, by simp [E12], by simp [E13], by simp⟩
    rw [take_snoc hkl, List.map_append]; exact p2
  obtain rfl : k = 2 := by omega
  have hobt := own_slm o1
  obtain ⟨a2, c2, rfl, s2, -⟩ := hobt
  have t2 := own_ty o1
  have hd4 : dl.take 2 = dl := rfl
  rw [hd4] at s2 E1
  have hl4 : dl.length = 2 := rfl
  rw [hl4] at E1
  have hdw : dw.enc = [.int .u64 4, .int .i64 0, .int .i64 0, .int .u32 0, .int .u32 0, .int .u32 0] := rfl
  simp [E1, E13, E14]
  refine CN.use (new_ok 0 3 A1) ?_
  rintro _ A2 hw2 hn2 ⟨x2, ⟨e, -⟩ | ⟨-, mb, hmb, rfl, h2⟩⟩
  · cases e
  simp [E1]
  have ht2 : ∀ b o, a2 = some ⟨b, o, none⟩ → ∃ cs ro, A2.get b = some (.row cs 83 ro) := fun b o e => by
    have hobt := t2 b o e
    obtain ⟨cs, ro, g⟩ := hobt
    exact ⟨cs, ro, x2.get hw1 g⟩
  have hcr := create_ok (cl := c2) h2 (mgN_wf rfl) 5 7 2 dw dw_wf (by exact ⟨by decide, by decide⟩) hn2 (s2.ext hw1 x2) ht2 dl_wf (by decide)
  rw [dcreate] at hcr
  refine CN.use hcr ?_
  rintro _ A3 hw3 hn3 ⟨⟨ps, h3⟩, rfl, f3⟩
  simp
  refine CN.use (actions_ok h3 dm1_wf) ?_
  rintro _ A4 hw4 hn4 ⟨o4, h4, xs, a4, c4, rfl, hxs, s4, k4, -⟩
  have hl1 : xs.length = 1 := by have := congrArg List.length hxs; simpa [dm1] using this
  obtain ⟨x0, rfl⟩ : ∃ x0, xs = [x0] := by
    match xs, hl1 with
    | [x0], _ => exact ⟨x0, rfl⟩
  have hx0 : x0.x = ⟨1, 7, dky, dw, [0, 1, 2]⟩ := by simpa [dm1] using hxs
  have hobt := s4.at (i := 0) (by simp)
  obtain ⟨b, o, cs, q, rfl, g1', g2', g3'⟩ := hobt
  rw [List.getElem_map, List.getElem_cons_zero] at g3'
  have hxl := x0.cells
  obtain ⟨xl, xo, xt⟩ := hxl
  have hobt := k4 x0 (by simp)
  obtain ⟨sx, tx, rx⟩ := hobt
  rw [hx0] at sx
  have hrow : x0.enc = [.int .i64 1, .int .i64 7, .int .i64 2, .int .i64 7, .int .i64 0, .int .i64 1, .int .u64 4, .int .i64 0, .int .i64 0, .int .u32 0, .int .u32 0, .int .u32 0, .slice x0.a 3 x0.c] := by unfold AcM.enc; rw [hx0]; rfl
  rw [hrow] at g3'
  have hdl1 : List.length [x0] = 1 := rfl
  have hky : dky.enc = [.int .i64 2, .int .i64 7, .int .i64 0, .int .i64 1] := rfl
  have hke : ∀ A : AH, aBin Tryz.prog A .neq 38 (.agg ⟨[.int .i64 2, .int .i64 7, .int .i64 0, .int .i64 1]⟩) (.agg ⟨[.int .i64 2, .int .i64 7, .int .i64 0, .int .i64 1]⟩) = some (.bool false) := fun A => ky_neq A dky dky
  have hbn : ¬ b = A4.next := fun e => by have := hw4 _ _ g1'; omega
  have hobx : ∃ A5, A5 = A4.alloc (.row [.int .i64 2, .int .i64 7, .int .i64 0, .int .i64 1] 38 false) := ⟨_, rfl⟩
  obtain ⟨A5, hA5⟩ := hobx
  have w5 : A5.wf := by rw [hA5]; exact AH.wf_alloc hw4 _
  have n5 : A5.next = A4.next + 1 := by rw [hA5]; rfl
  have x5 : Ext A4 A5 := by rw [hA5]; exact Ext.alloc A4 _
  have gk : A5.get A4.next = some (.row [.int .i64 2, .int .i64 7, .int .i64 0, .int .i64 1] 38 false) := by rw [hA5, AH.get_new]
  have g5 := x5.get hw4 g1'
  have d0 := at_cell (i := 0) g3' (by omega)
  have d2 := at_part (i := 2) (n := 4) g3' (by omega)
  have d12 := at_cell (i := 12) g3' (by omega)
  simp at g2' g3' d0 d2 d12
  simp [← hA5, g5, gk, g2', d0, d2, d12, hdl1, hke, hbn]
  refine ⟨by omega, ?_⟩
  have x6 := Ext.alloc A5 (.row [.int .i64 0, .int .i64 1, .int .i64 2] 3 false)
  refine CN.use (intsEq_ok (l := [0, 1, 2]) (l' := [0, 1, 2]) (c := x0.c) (c' := 3) ((sx.ext hw4 x5).ext w5 x6) (Sl.row (ints_rw _) (AH.get_new A5 _) (by simp [ints])) (by simp)) ?_
  rintro _ _ - - ⟨rfl, rfl⟩
  have w6 := AH.wf_alloc w5 (.row [.int .i64 0, .int .i64 1, .int .i64 2] 3 false)
  have h6 : MP A1.next (A5.alloc (.row [.int .i64 0, .int .i64 1, .int .i64 2] 3 false)) mb ps { dm1 with acts := [] } := (h4.ext hw4 x5).ext w5 x6
  have wf6 : Mg.wf { dm1 with acts := [] } := ⟨dm1_wf.hd, dm1_wf.n, dm1_wf.cnt, dm1_wf.vs, dm1_wf.len⟩
  have n4 : A1.next ≤ A4.next := by omega
  have hke2 : dev.enc = [.int .i64 1, .int .i64 2, .int .i64 7, .int .i64 0, .int .i64 1, .int .i64 0] := rfl
  have hev := event_ok h6 wf6 6 dev (by exact ⟨by decide, by decide⟩) (by simp; omega)
  rw [devent, hke2] at hev
  have hbn5 : ¬ A4.next = A5.next := by omega
  simp [sameL, gk, AH.get_alloc, hbn5]
  refine CN.use hev ?_
  rintro _ A7 hw7 hn7 ⟨h7, rfl, f7⟩
  simp only [AH.next_alloc] at hn7
  simp
  refine CN.use (actions_ok h7 dm2_wf) ?_
  rintro _ A8 hw8 hn8 ⟨o8, h8, ys, a8, c8, rfl, hys, s8, k8, t8⟩
  have hl8 : ys.length = 1 := by have := congrArg List.length hys; simpa [dm2] using this
  obtain ⟨y0, rfl⟩ : ∃ y0, ys = [y0] := by
    match ys, hl8 with
    | [y0], _ => exact ⟨y0, rfl⟩
  have hy0 : y0.x = ⟨3, 7, dky, wtZ, []⟩ := by simpa [dm2] using hys
  have wf8 : Mg.wf { dm2 with acts := [] } := ⟨dm2_wf.hd, dm2_wf.n, dm2_wf.cnt, dm2_wf.vs, dm2_wf.len⟩
  have hobt := s8.at (i := 0) (by simp)
  obtain ⟨b8, p8, cs8, q8, rfl, g81, g82, g83⟩ := hobt
  rw [List.getElem_map, List.getElem_cons_zero] at g83
  have hrow8 : y0.enc = [.int .i64 3, .int .i64 7, .int .i64 2, .int .i64 7, .int .i64 0, .int .i64 1, .int .u64 0, .int .i64 0, .int .i64 0, .int .u32 0, .int .u32 0, .int .u32 0, .slice y0.a 0 y0.c] := by unfold AcM.enc; rw [hy0]; rfl
  rw [hrow8] at g83
  have d8 := at_cell (i := 0) g83 (by omega)
  simp at g82 d8
  simp
  refine CN.use (lines_ok h8 wf8) ?_
  rintro _ A9 hw9 hn9 ⟨o9, h9, a9, c9, rfl, s9, t9⟩
  have hmb8 : b8 ≠ mb := fun e => by
    have hobt := h8.mget
    obtain ⟨cs, gm⟩ := hobt
    have hobt := t8 b8 p8 rfl
    obtain ⟨cs', ro, ga⟩ := hobt
    rw [e, gm] at ga; injection ga with ga; injection ga with _ ga _; revert ga; decide
  have g9 := o9.1 b8 hmb8
  rw [g81] at g9
  have hl9 : dm2.lines.length = 1 := rfl
  have hll : dm2.lines = [⟨6, 7, 1, 0⟩] := rfl
  rw [hll] at s9
  have hobt := s9.at (i := 0) (by simp)
  obtain ⟨b9, p9, cs9, q9, rfl, g91, g92, g93⟩ := hobt
  rw [List.getElem_map, List.getElem_cons_zero] at g93
  have hr9 : Li.enc ⟨6, 7, 1, 0⟩ = [.int .i64 6, .int .i64 7, .int .i64 1, .int .i64 0] := rfl
  rw [hr9] at g93
  simp at g92 g93
  have hdl8 : List.length [y0] = 1 := rfl
  have wf9 : Mg.wf { { dm2 with acts := [] } with lines := [] } := ⟨dm2_wf.hd, dm2_wf.n, dm2_wf.cnt, dm2_wf.vs, dm2_wf.len⟩
  have hli : ∀ A : AH, aBin Tryz.prog A .eql 89 (.agg ⟨[.int .i64 6, .int .i64 7, .int .i64 1, .int .i64 0]⟩) (.agg ⟨[.int .i64 6, .int .i64 7, .int .i64 1, .int .i64 0]⟩) = some (.bool true) := fun A => by
    rw [aBin_eql_agg A _ _ _ eg89]; simp
  simp [hdl8, g9, g82, d8, hl9, hll, g91, g92, g93, hli]
  refine CN.use (tunnels_ok h9 wf9) ?_
  rintro _ A10 hw10 hn10 ⟨x10, zs, a10, c10, rfl, hzs, -⟩
  have hlz : zs.length = 1 := by have := congrArg List.length hzs; simpa [dm2] using this
  simp [hlz]
  refine DN.of ⟨rfl, fun b hb => ?_⟩
  rw [x10 b (by omega), o9.1 b (by omega), o8.1 b (by omega), f7.1 b (by omega), x6 b (by omega), x5 b (by omega), o4.1 b (by omega), f3.1 b (by omega), x2 b (by omega), x1 b hb]
end
theorem ownI_at {k : Ky} : ∀ {l : List Vw} {i : Nat}, ownI l k = some i → ∃ v, l[i]? = some v ∧ hitB v k = true
  | [], i, h => by cases h
  | v :: l, i, h => by
    unfold ownI at h
    split at h
    · injection h with h; subst h; exact ⟨v, rfl, by assumption⟩
    · rw [Option.map_eq_some_iff] at h
      obtain ⟨j, h1, rfl⟩ := h
      have hobt := ownI_at h1
      obtain ⟨u, h2, h3⟩ := hobt
      exact ⟨u, by simpa using h2, h3⟩
theorem Mg.wf.event {m : Mg} (h : m.wf) (now : Int) (e : Ev) : (m.event now e).1.wf := by
  unfold Mg.event
  split
  · exact h
  split
  · exact h
  · rename_i i hi
    have hobt := ownI_at hi
    obtain ⟨v, hv, -⟩ := hobt
    have hvw := h.vs v (List.mem_of_getElem? hv)
    simp only [at_getD hv]
    split
    · exact h.ups i hvw now
    split
    · exact ((h.stop _ _).put i (v := { v with new := lsZ }) ⟨hvw.1, hvw.2.1, hvw.2.2.1, wtZ_wf⟩).fails i (v := { v with new := lsZ }) ⟨hvw.1, hvw.2.1, hvw.2.2.1, wtZ_wf⟩ _ _
    split
    · exact ((h.leave i hvw).says _).put i ⟨by show (0:Int) ≤ 1 ∧ (1 : Int) ≤ 8; omega, hvw.2.1, wtZ_wf, hvw.2.2.2⟩
    · exact h
theorem Mg.wf.create {m : Mg} (h : m.wf) (now n tail : Int) {w : Wt} (hw : w.wf) (l : List Adv) : (m.create now n tail w l).1.wf := by
  unfold Mg.create
  split
  · exact h
  split
  · exact h
  split
  · exact h
  · have vw : Vw.wf ⟨n, tail, w, lsZ, lsZ, now, 1⟩ := ⟨by show (0:Int) ≤ 1 ∧ (1 : Int) ≤ 8; omega, hw, wtZ_wf, wtZ_wf⟩
    have hi := h.insV (posL m.l n) vw (by omega)
    simp only
    split
    · exact hi
    · exact hi.tries _ vw _ _
theorem Mg.wf.modify {m : Mg} (h : m.wf) (now n : Int) {w : Wt} (hw : w.wf) (l : List Adv) : (m.modify now n w l).1.wf := by
  unfold Mg.modify
  split
  · exact h
  split
  · exact h
  · rename_i hi
    have hobt := isL_at (by simpa using hi)
    obtain ⟨v, hv, -⟩ := hobt
    have hvw := h.vs v (List.mem_of_getElem? hv)
    simp only [at_getD hv]
    have v1 : Vw.wf { v with w := w, new := lsZ, wait := now, back := 1 } := ⟨by show (0:Int) ≤ 1 ∧ (1 : Int) ≤ 8; omega, hw, hvw.2.2.1, wtZ_wf⟩
    have hm := (h.stop v.tn v.new).put (posL m.l n) v1
    split
    · exact hm.tries _ v1 _ _
    · exact hm
theorem Mg.wf.delete {m : Mg} (h : m.wf) (n : Int) : (m.delete n).1.wf := by
  unfold Mg.delete
  split
  · exact h
  · rename_i hi
    have hobt := isL_at (by simpa using hi)
    obtain ⟨v, hv, -⟩ := hobt
    have hvw := h.vs v (List.mem_of_getElem? hv)
    simp only [at_getD hv]
    exact Mg.wf.delV (((h.leave _ hvw).stop _ _).put _ (v := { v with now := lsZ, new := lsZ }) ⟨hvw.1, hvw.2.1, wtZ_wf, wtZ_wf⟩) _
theorem Mg.in.up {f : Mg → Nat → Mg} {d : Nat} (hf : ∀ {n : Nat} (m : Mg) (k i : Nat), m.in n (k + d) → i < n → (f m i).in n k) {m : Mg} (h : m.wf) {k : Nat} (hr : m.room (k + m.l.length * d)) : (upto f m m.l.length).in m.l.length k := by
  have := upto_in hf m.l.length (Nat.le_refl _) ⟨h, rfl, hr⟩
  rw [Nat.sub_self, Nat.zero_mul] at this; exact this
theorem Mg.in.tick {m : Mg} (h : m.wf) (now : Int) (l : List Adv) {k : Nat} (hr : m.room (k + 48)) : (upto (Mg.retry now l) (upto (Mg.lapse now) m m.l.length) m.l.length).in m.l.length k := by
  have h1 := Mg.in.up (f := Mg.lapse now) (d := 2) (fun m k i h hi => h.lapse hi now) h (k := k + m.l.length * 1) (hr.le (by have := h.len; omega))
  have h2 := Mg.in.up (f := Mg.retry now l) (d := 1) (fun m k i h hi => h.retry hi now l) h1.1 (k := k) (by rw [h1.2.1]; exact h1.2.2)
  rw [h1.2.1] at h2
  exact h2
theorem Mg.in.restart {m : Mg} (h : m.wf) (now : Int) {k : Nat} (hr : m.room (k + 16)) : (upto (Mg.forget now) { m with acts := [] } m.l.length).in m.l.length k :=
  Mg.in.up (f := Mg.forget now) (d := 1) (m := { m with acts := [] }) (fun m k i h hi => h.forget hi now) ⟨h.hd, h.n, h.cnt, h.vs, h.len⟩ (k := k) (by have := h.len; have h1 := hr.1; have h2 := hr.2; exact ⟨by show 0 + (k + m.l.length * 1) ≤ 100000; omega, by show m.lines.length + (k + m.l.length * 1) ≤ 100000; omega⟩)
theorem Mg.act_wf {m : Mg} (h : m.wf) (x : At) (hw : x.w.wf) (hr : m.room 100) : (m.act x).1.wf := by
  unfold Mg.act Mg.actK
  split
  · exact h.event _ _
  · exact h.create _ _ _ hw _
  · exact h.modify _ _ hw _
  · exact h.delete _
  · unfold Mg.tick
    split
    · exact h
    · exact (Mg.in.tick h _ _ (k := 0) (hr.le (by omega))).1
  · unfold Mg.restart
    split
    · exact h
    · exact (Mg.in.restart h _ (k := 0) (hr.le (by omega))).1
def PlR (hd n : Int) (a : Option Addr) (len c : Nat) : List Value := [.int .i64 hd, .int .i64 n, .slice a len c]
theorem AtM.ok.low {A A' : AH} {y : AtM} (h : y.ok A) (hk : ∀ b, b < A.next → A'.get b = A.get b) (hw : A.wf) : y.ok A' := ⟨h.1.ext hw hk, h.2⟩
theorem newB_false {hd n : Int} (h : newB hd n = false) : n < 1 ∨ 16 < n ∨ hd < 0 ∨ n ≤ hd := by
  simp only [newB, decide_eq_false_iff_not] at h; omega
theorem FrL.low {n0 : Nat} {A A' : AH} (h : FrL n0 A A') {A0 : AH} (hx : ∀ b, b < n0 → A.get b = A0.get b) : ∀ b, b < n0 → A'.get b = A0.get b := fun b hb => by rw [h.1 b hb, hx b hb]
theorem FrL.ext {n0 : Nat} {A A' : AH} (hw : A.wf) (hn : n0 ≤ A.next) (h : Ext A A') : FrL n0 A A' := (Fr.ext hw hn h).frL
theorem Only.frL {n0 : Nat} {A A' : AH} {mb : Nat} {ps : List Nat} {m : Mg} (h : MP n0 A mb ps m) (ho : Only mb A A') : FrL n0 A A' := (ho.fr h).frL
end Go.Proofs.YtnlopamlmojbgaaGreat.AC
/- Arguments, read: adverts, questions, cases. -/
namespace Go.Proofs.YtnlopamlmojbgaaGreat.AC
open Go Go.AI Go.RowKit Go.Proofs Go.Proofs.YtnlopamlmojbgaaGreat.AQ
set_option linter.unusedVariables false
theorem lit_u64 {i : Int} (h : (Lit.int .u64 i).wf = true) : ∃ n : Nat, i = n ∧ n < 18446744073709551616 := by
  have a : IntKind.u64.min = 0 := rfl
  have b : IntKind.u64.max = 18446744073709551615 := rfl
  simp [Lit.wf, a, b] at h
  exact ⟨i.toNat, by omega, by omega⟩
theorem lit_u32 {i : Int} (h : (Lit.int .u32 i).wf = true) : ∃ n : Nat, i = n ∧ n < 4294967296 := by
  have a : IntKind.u32.min = 0 := rfl
  have b : IntKind.u32.max = 4294967295 := rfl
  simp [Lit.wf, a, b] at h
  exact ⟨i.toNat, by omega, by omega⟩
section
variable {A : AH} {n : Nat} {cs : List Value}
theorem adv_rd (h : Rd Tryz.prog A n 132 cs) : ∃ x : {x : Adv // x.fr.length = 8}, cs = x.1.enc ∧ x.1.wf := by
  have hobt := Rd_struct Tryz.underlying132 (by kernel_rfl) h
  obtain ⟨n', h⟩ := hobt
  simp only [RdS] at h
  obtain ⟨p0, _, rfl, h0, p1, _, rfl, h1, p2, _, rfl, h2, p3, _, rfl, h3, rfl⟩ := h
  have hobt := link_rd h0
  obtain ⟨k, rfl, hk⟩ := hobt
  have hobt := int_rd h1
  obtain ⟨i1, rfl, w1⟩ := hobt
  have hobt := Rd_bool Tryz.underlying4 h2
  obtain ⟨b, rfl⟩ := hobt
  have hobt := Rd_arr (N := 8) Tryz.underlying81 Tryz.underlying33 (by kernel_rfl) (by kernel_rfl) h3
  obtain ⟨L, hL, rfl, hw⟩ := hobt
  have hobt := lit_u32 hk.2.2.2.2
  obtain ⟨g, hg, hg2⟩ := hobt
  have hm : (L.map Int.toNat).map (fun n : Nat => Value.int .u64 n) = L.map (.int .u64) := by
    rw [List.map_map]
    apply List.map_congr_left
    intro i hi
    have hobt := lit_u64 (hw i hi)
    obtain ⟨m, rfl, -⟩ := hobt
    simp
  refine ⟨⟨⟨k, i1, b, L.map Int.toNat⟩, by simp [hL]⟩, ?_, by simp [hL], ?_, by simp only [hg]; omega, by simp only [hg]; omega⟩
  · simp only [Adv.enc, hm]; simp
  · intro m hm'
    have hobt := List.mem_map.1 hm'
    obtain ⟨i, hi, rfl⟩ := hobt
    have hobt := lit_u64 (hw i hi)
    obtain ⟨m, rfl, hm⟩ := hobt
    simpa using hm
theorem advs_rd (h : Rd Tryz.prog A n 41 cs) : ∃ (a : Option Addr) (c : Nat) (l : List Adv), cs = [.slice a l.length c] ∧ Sl A 132 15 a (l.map Adv.enc) ∧ ∀ x ∈ l, x.wf := by
  have hobt := Rd_slice (z := 15) (f := fun x : {x : Adv // x.fr.length = 8} => x.1.enc) (Q := fun x => x.1.wf) Tryz.underlying41 (by kernel_rfl) (by decide) (fun x => ⟨(Adv.cells x.2).1, (Adv.cells x.2).2.1⟩) (fun n cs h => adv_rd h) h
  obtain ⟨a, c, L, h1, h2, -, -, h3⟩ := hobt
  refine ⟨a, c, L.map (·.1), by simp [h1], by rw [List.map_map]; exact h2, fun x hx => ?_⟩
  have hobt := List.mem_map.1 hx
  obtain ⟨y, hy, rfl⟩ := hobt
  exact h3 y hy
end
end Go.Proofs.YtnlopamlmojbgaaGreat.AC
/- Arguments, read: calls. -/
namespace Go.Proofs.YtnlopamlmojbgaaGreat.AC
open Go Go.AI Go.RowKit Go.Proofs Go.Proofs.YtnlopamlmojbgaaGreat.AQ
set_option linter.unusedVariables false
section
variable {A : AH} {n : Nat} {cs : List Value}
theorem key_rd (h : Rd Tryz.prog A n 38 cs) : ∃ k : Ky, cs = k.enc := by
  have hobt := Rd_struct Tryz.underlying38 (by kernel_rfl) h
  obtain ⟨n', h⟩ := hobt
  simp only [RdS] at h
  obtain ⟨p0, _, rfl, h0, p1, _, rfl, h1, p2, _, rfl, h2, p3, _, rfl, h3, rfl⟩ := h
  have hobt := int_rd h0
  obtain ⟨i0, rfl, -⟩ := hobt
  have hobt := int_rd h1
  obtain ⟨i1, rfl, -⟩ := hobt
  have hobt := int_rd h2
  obtain ⟨i2, rfl, -⟩ := hobt
  have hobt := int_rd h3
  obtain ⟨i3, rfl, -⟩ := hobt
  exact ⟨⟨i0, i1, i2, i3⟩, rfl⟩
theorem want_rd (h : Rd Tryz.prog A n 36 cs) : ∃ w : Wt, cs = w.enc ∧ w.wf := by
  have hobt := Rd_struct Tryz.underlying36 (by kernel_rfl) h
  obtain ⟨n', h⟩ := hobt
  simp only [RdS] at h
  obtain ⟨q0, _, rfl, g0, q1, _, rfl, g1, q2, _, rfl, g2, q3, _, rfl, g3, q4, _, rfl, g4, q5, _, rfl, g5, rfl⟩ := h
  have hobt := Rd_int Tryz.underlying33 g0
  obtain ⟨j0, rfl, v0⟩ := hobt
  have hobt := int_rd g1
  obtain ⟨j1, rfl, -⟩ := hobt
  have hobt := int_rd g2
  obtain ⟨j2, rfl, -⟩ := hobt
  have hobt := Rd_int Tryz.underlying34 g3
  obtain ⟨j3, rfl, v3⟩ := hobt
  have hobt := Rd_int Tryz.underlying34 g4
  obtain ⟨j4, rfl, v4⟩ := hobt
  have hobt := Rd_int Tryz.underlying34 g5
  obtain ⟨j5, rfl, v5⟩ := hobt
  have hobt := lit_u64 v0
  obtain ⟨m0, rfl, k0⟩ := hobt
  have hobt := lit_u32 v3
  obtain ⟨m3, rfl, k3⟩ := hobt
  have hobt := lit_u32 v4
  obtain ⟨m4, rfl, k4⟩ := hobt
  have hobt := lit_u32 v5
  obtain ⟨m5, rfl, k5⟩ := hobt
  exact ⟨⟨m0, j1, j2, m3, m4, m5⟩, rfl, k0, k3, k4, k5⟩
theorem ev_rd (h : Rd Tryz.prog A n 40 cs) : ∃ e : Ev, cs = e.enc := by
  have hobt := Rd_struct Tryz.underlying40 (by kernel_rfl) h
  obtain ⟨n', h⟩ := hobt
  simp only [RdS] at h
  obtain ⟨p0, _, rfl, h0, p1, _, rfl, h1, p2, _, rfl, h2, rfl⟩ := h
  have hobt := int_rd h0
  obtain ⟨i0, rfl, -⟩ := hobt
  have hobt := key_rd h1
  obtain ⟨k, rfl⟩ := hobt
  have hobt := int_rd h2
  obtain ⟨i2, rfl, -⟩ := hobt
  exact ⟨⟨i0, k, i2⟩, by simp [Ev.enc]⟩
theorem tact_rd (h : Rd Tryz.prog A n 43 cs) : ∃ y : AtM, cs = y.enc ∧ y.ok A := by
  have hobt := Rd_struct Tryz.underlying43 (by kernel_rfl) h
  obtain ⟨n', h⟩ := hobt
  simp only [RdS] at h
  obtain ⟨p0, _, rfl, h0, p1, _, rfl, h1, p2, _, rfl, h2, p3, _, rfl, h3, p4, _, rfl, h4, p5, _, rfl, h5, p6, _, rfl, h6, rfl⟩ := h
  have hobt := Rd_int Tryz.underlying5 h0
  obtain ⟨i0, rfl, v0⟩ := hobt
  have hobt := int_rd h1
  obtain ⟨i1, rfl, -⟩ := hobt
  have hobt := int_rd h2
  obtain ⟨i2, rfl, -⟩ := hobt
  have hobt := int_rd h3
  obtain ⟨i3, rfl, -⟩ := hobt
  have hobt := want_rd h4
  obtain ⟨w, rfl, hw⟩ := hobt
  have hobt := ev_rd h5
  obtain ⟨e, rfl⟩ := hobt
  have hobt := advs_rd h6
  obtain ⟨a, c, l, rfl, hl, hx⟩ := hobt
  have a0 : IntKind.u8.min = 0 := rfl
  have b0 : IntKind.u8.max = 255 := rfl
  simp [Lit.wf, a0, b0] at v0
  obtain ⟨k, hk⟩ : ∃ k : Nat, i0 = k := ⟨i0.toNat, by omega⟩
  subst hk
  exact ⟨⟨⟨k, i1, i2, i3, w, e, l⟩, a, c⟩, by simp [AtM.enc], hl, hx, hw, by show k < 256; omega⟩
theorem play_rd (h : Rd Tryz.prog A n 24 cs) : ∃ (hd m : Int) (a : Option Addr) (c : Nat) (xs : List AtM), cs = [.int .i64 hd, .int .i64 m, .slice a xs.length c] ∧ Sl A 43 17 a (xs.map AtM.enc) ∧ ∀ y ∈ xs, y.ok A := by
  have hobt := Rd_struct Tryz.underlying24 (by kernel_rfl) h
  obtain ⟨n', h⟩ := hobt
  simp only [RdS] at h
  obtain ⟨p0, _, rfl, h0, p1, _, rfl, h1, p2, _, rfl, h2, rfl⟩ := h
  have hobt := int_rd h0
  obtain ⟨i0, rfl, -⟩ := hobt
  have hobt := int_rd h1
  obtain ⟨i1, rfl, -⟩ := hobt
  have hobt := Rd_slice (z := 17) (f := AtM.enc) (Q := fun x => x.ok A) Tryz.underlying22 (by kernel_rfl) (by decide) (fun x => ⟨rfl, rfl⟩) (fun n cs h => tact_rd h) h2
  obtain ⟨a, c, L, rfl, g2, -, -, g3⟩ := hobt
  exact ⟨i0, i1, a, c, L, rfl, g2, g3⟩
end
theorem one_row {A : AH} (x : Int) : Sl (A.alloc (.row [.int .i64 x] 3 false)) 3 1 (some ⟨A.next, 0, none⟩) (ints [x]) := Sl.row (ints_rw [x]) (AH.get_new _ _) (by simp [ints])
def W4M (A : AH) (wb : Nat) (r : List Value) (x : Wy) : Prop :=
  ∃ a c, r = [.slice a x.l.length c, .int .i64 x.c] ∧ Sl A 3 1 a (ints x.l) ∧ (x.l = [] → a = none) ∧ (∀ b o, a = some ⟨b, o, none⟩ → b ≠ wb) ∧ x.l.length ≤ 1000 ∧ ∀ b o, a = some ⟨b, o, none⟩ → ∃ cs ro, A.get b = some (.row cs 3 ro)
theorem sl_lt {A : AH} {a : Option Addr} {l : List Int} {b o : Nat} (h : Sl A 3 1 a (ints l)) (hw : A.wf) (hn : l = [] → a = none) (ha : a = some ⟨b, o, none⟩) : b < A.next := by
  cases l with
  | nil => rw [hn rfl] at ha; cases ha
  | cons x l =>
    have hobt := h.one (Go.AI.ints_at (l := x :: l) (i := 0) (by simp))
    obtain ⟨b', o', cs, ro, h0, h1, h2⟩ := hobt
    rw [ha] at h0
    injection h0 with h0; injection h0 with h0 _ _
    rw [h0]; exact hw _ _ h1
theorem W4M.kept {A A' : AH} {wb : Nat} {r : List Value} {x : Wy} (h : W4M A wb r x) (hw : A.wf) (hk : ∀ b, b < A.next → b ≠ wb → A'.get b = A.get b) : W4M A' wb r x := by
  obtain ⟨a, c, h1, h2, h3, h4, h5, h6⟩ := h
  exact ⟨a, c, h1, h2.kept fun b o y hb hy => hk b (hw _ _ hy) (h4 b o hb), h3, h4, h5, fun b o e => by obtain ⟨cs, ro, g⟩ := h6 b o e; exact ⟨cs, ro, (hk b (hw _ _ g) (h4 b o e)).trans g⟩⟩
theorem W4M.move {A A' : AH} {wb wb' : Nat} {r : List Value} {x : Wy} (h : W4M A wb r x) (hw : A.wf) (hx : Ext A A') (hn : A.next ≤ wb') : W4M A' wb' r x := by
  obtain ⟨a, c, h1, h2, h3, h4, h5, h6⟩ := h
  exact ⟨a, c, h1, h2.ext hw hx, h3, fun b o hb => by have := sl_lt h2 hw h3 hb; omega, h5, fun b o e => by obtain ⟨cs, ro, g⟩ := h6 b o e; exact ⟨cs, ro, hx.get hw g⟩⟩
structure RS4 (A : AH) (wb n : Nat) (R : Nat → List Value) (w : Int → Wy) : Prop where
  ws : A.get wb = some (.row ((List.range n).map R).flatten 118 false)
  wy : ∀ v : Nat, v < n → W4M A wb (R v) (w v)
theorem RS4.rw {A : AH} {wb n : Nat} {R : Nat → List Value} {w : Int → Wy} (h : RS4 A wb n R w) : Rw 2 ((List.range n).map R) := by
  intro r hr
  have hobt := List.mem_map.1 hr
  obtain ⟨v, hv, rfl⟩ := hobt
  have hobt := h.wy v (List.mem_range.1 hv)
  obtain ⟨a, c, e, -⟩ := hobt
  rw [e]; exact ⟨rfl, rfl⟩
theorem RS4.at {A : AH} {wb n : Nat} {R : Nat → List Value} {w : Int → Wy} (h : RS4 A wb n R w) {v : Nat} (hv : v < n) : ∃ cs a c, A.get wb = some (.row cs 118 false) ∧ cs = ((List.range n).map R).flatten ∧ Sl A 3 1 a (ints (w v).l) ∧ (w v).l.length ≤ 1000 ∧ v * 2 + 2 ≤ cs.length ∧ (cs.drop (v * 2)).take 2 = [.slice a (w v).l.length c, .int .i64 (w v).c] ∧ cs[v * 2]? = some (.slice a (w v).l.length c) ∧ cs[v * 2 + 1]? = some (.int .i64 (w v).c) ∧ R v = [.slice a (w v).l.length c, .int .i64 (w v).c] ∧ ∀ b o, a = some ⟨b, o, none⟩ → ∃ cs ro, A.get b = some (.row cs 3 ro) := by
  have hobt := h.wy v hv
  obtain ⟨a, c, e, h2, h3, h4, h5, h6⟩ := hobt
  have hr := h.rw
  have hat := flat_at hr.len (i := v) (by simpa using hv)
  simp only [List.getElem_map, List.getElem_range, e] at hat
  have hlen := flat_len hr.len
  simp only [List.length_map, List.length_range] at hlen
  have hm : (v + 1) * 2 ≤ n * 2 := Nat.mul_le_mul_right _ hv
  refine ⟨_, a, c, h.ws, rfl, h2, h5, by omega, hat, ?_, ?_, e, h6⟩
  · have := at_cell (i := 0) hat (by omega); simpa using this
  · have := at_cell (i := 1) hat (by omega); simpa using this
theorem RS4.ext {A A' : AH} {wb n : Nat} {R : Nat → List Value} {w : Int → Wy} (h : RS4 A wb n R w) (hw : A.wf) (hx : Ext A A') : RS4 A' wb n R w :=
  ⟨(hx wb (hw _ _ h.ws)).trans h.ws, fun v hv => (h.wy v hv).kept hw fun b hb _ => hx b hb⟩
theorem RS4.move {A A' : AH} {wb wb' n : Nat} {R : Nat → List Value} {w : Int → Wy} (h : RS4 A wb n R w) (hw : A.wf) (hx : Ext A A') (hn : A.next ≤ wb') (hg : A'.get wb' = some (.row ((List.range n).map R).flatten 118 false)) : RS4 A' wb' n R w :=
  ⟨hg, fun v hv => (h.wy v hv).move hw hx hn⟩
theorem RS4.put {A A' : AH} {wb n : Nat} {R : Nat → List Value} {w : Int → Wy} {cs : List Value} (h : RS4 A wb n R w) (hw : A.wf) (hcs : cs = ((List.range n).map R).flatten) {v : Nat} (hv : v < n) {r : List Value} {x : Wy} (hA : ∀ b, b < A.next → b ≠ wb → A'.get b = A.get b) (hwb : A'.get wb = some (.row (spl cs (v * 2) r) 118 false)) (hr : W4M A' wb r x) :
    RS4 A' wb n (fun u => if u = v then r else R u) (upd w v x) := by
  refine ⟨?_, fun u hu => ?_⟩
  · rw [hwb, hcs]
    obtain ⟨a, c, e, -⟩ := hr
    have hrl : r.length = 2 := by rw [e]; rfl
    have h1 := spl_flat (j := 0) (vs := r) h.rw.len (i := v) (by simpa using hv) (by omega)
    rw [Nat.add_zero] at h1
    rw [h1, spl_all (by rw [hrl]; exact (h.rw _ (List.getElem_mem (by simpa using hv))).1), range_set]
  · by_cases e : u = v
    · subst e; rw [if_pos rfl, upd_at]; exact hr
    · rw [if_neg e, upd_ne (by omega)]; exact (h.wy u hu).kept hw hA
set_option maxHeartbeats 4000000 in
theorem grown_ok {A : AH} {a : Option Addr} {c : Nat} {ks : List Lk} (h : Sl A 79 5 a (ks.map Lk.enc)) {n : Nat} {s : Int} (hg : goodN n ks) (hs : 0 ≤ s ∧ s < n) {hh : Nat} {w : Int → Wy} {wb : Nat} {R : Nat → List Value} (hR : RS4 A wb n R w) (hw : GI n s ks hh w) :
    ACall Tryz.prog 41 [.slice (some ⟨wb, 0, none⟩) n UNK, .slice a ks.length c] A fun v A' => Ext A A' ∧ ∃ wb' R' o, v = .slice (some ⟨wb', 0, none⟩) n UNK ∧ RS4 A' wb' n R' o ∧ GI n s ks (hh + 1) o := by
  have hn16 := hg.2.1
  have hl64 := hg.2.2.1
  have hn1 : 0 < n := by omega
  refine code41.call (by simp) fun hwf => ?_
  unfold c41
  simp
  refine LN.use (fun m E A' => ∃ (k : Nat) (u : Value), m + k = n ∧ Ext A A' ∧ A.next ≤ A'.next ∧ Own A.next A' 118 2 u ((List.range k).map R) ∧ E.get 0 = .slice (some ⟨wb, 0, none⟩) n UNK ∧ E.get 1 = .slice a ks.length c ∧ E.get 5 = u ∧ E.get 6 = .int .i64 k) n
    ⟨0, _, by omega, Ext.refl A, Nat.le_refl _, Own.nil _ _ _ _, by simp, by simp, by simp, by simp⟩ ?_
  rintro m E A2 hw2 hn2 ⟨k, u, hk, x2, n2, o2, E0, E1, E5, E6⟩
  by_cases hlt : (k : Int) < n
  · have hlt' : k < n := by omega
    have hr2 := hR.ext hwf x2
    have hobt := hr2.at hlt'
    obtain ⟨cs, a1, c1, u1, u2, u3, u4, u5, u6, u7, u8, u9, -⟩ := hobt
    have hobt := own_push o2 (y := 32) (r := R k) hw2 n2 (by rw [u9]; exact ⟨rfl, rfl⟩) (by omega) (by omega) (by simp; omega)
    obtain ⟨u', A3, p1, p2, p3, p4⟩ := hobt
    have hobt := o2.sl
    obtain ⟨a2, c2, rfl, -⟩ := hobt
    have hgi : IntKind.i64.wrap ((k : Int) + 1) = ((k + 1 : Nat) : Int) := by rw [i64_in (by omega) (by omega)]; simp
    simp only [List.length_map, List.length_range] at p1 E5
    rw [u9] at p1
    simp [E0, E5, E6, hlt, hlt', u1, u5, u6, p1, hgi]
    refine NX.of ⟨m - 1, by omega, k + 1, u', by omega, fun b hb => by rw [p4 b hb, x2 b hb], by omega, ?_, by simp [E0], by simp [E1], by simp, by simp⟩
    rw [List.range_succ, List.map_append]; exact p2
  obtain rfl : n = k := by omega
  obtain ⟨wo, rfl, hwo, g2⟩ : ∃ b, u = .slice (some ⟨b, 0, none⟩) n UNK ∧ A.next ≤ b ∧ A2.get b = some (.row ((List.range n).map R).flatten 118 false) := by
    rcases o2.2 with ⟨_, hnil⟩ | ⟨b, q1, q2, q3⟩
    · have := congrArg List.length hnil
      simp at this; omega
    · exact ⟨b, by simpa using q1, q2, q3⟩
  have hq0 := hR.move hwf x2 hwo g2
  simp [E0, E1, E5, E6]
  refine LN.use (fun m E A' => ∃ (i : Nat) (Ro : Nat → List Value) (o : Int → Wy), m + i = ks.length ∧ Ext A A' ∧ A2.next ≤ A'.next ∧ RS4 A' wo n Ro o ∧ GR n s ks hh w o i ∧ E.get 0 = .slice (some ⟨wb, 0, none⟩) n UNK ∧ E.get 1 = .slice a ks.length c ∧ E.get 5 = .slice (some ⟨wo, 0, none⟩) n UNK ∧ E.get 7 = .int .i64 i) ks.length
    ⟨0, R, w, by omega, x2, Nat.le_refl _, hq0, GR.start hw, by simp [E0], by simp [E1], by simp [E5], by simp⟩ ?_
  clear E0 E1 E5 E6 hq0
  rintro m E A4 hw4 hn4 ⟨i, R4, o4, hi, x4, n4, rs4, b4, E0, E1, E5, E7⟩
  by_cases hlt2 : (i : Int) < ks.length
  rotate_left
  · obtain rfl : i = ks.length := by omega
    simp [E1, E5, E7]
    exact DN.of ⟨x4, wo, R4, o4, rfl, rs4, b4.done hg hs hw⟩
  have hil : i < ks.length := by omega
  have hgl := hg.link hil
  have hlk4 := h.ext hwf x4
  have hobt := lks_at hlk4 hil
  obtain ⟨bk, ok, csk, qk, rfl, z1, z2, z3, z4, z5, z6⟩ := hobt
  obtain ⟨fu, hf⟩ : ∃ fu : Nat, (lk ks i).f = fu := ⟨(lk ks i).f.toNat, by omega⟩
  obtain ⟨tu, ht'⟩ : ∃ tu : Nat, (lk ks i).t = tu := ⟨(lk ks i).t.toNat, by omega⟩
  have hfn : fu < n := by omega
  have htn : tu < n := by omega
  have hr4 := hR.ext hwf x4
  have hobt := hr4.at hfn
  obtain ⟨csw, af, cf, u1, u2, u3, u4, u5, u6, u7, u8, u9, -⟩ := hobt
  have hb4 := hw4 _ _ u1
  have hbk := hw4 _ _ z1
  have hbo := hw4 _ _ rs4.ws
  have hgi : IntKind.i64.wrap ((i : Int) + 1) = ((i + 1 : Nat) : Int) := by rw [i64_in (by omega) (by omega)]; simp
  rw [hf] at z4
  rw [ht'] at z5
  have v1 : ¬ wb = A4.next := by omega
  have v2 : ¬ bk = A4.next := by omega
  have v3 : ¬ wo = A4.next := by omega
  have v4 : ¬ bk = A4.next + 1 := by omega
  have v5 : ¬ wo = A4.next + 1 := by omega
  have xl := Ext.alloc A4 (.row [.slice af (w fu).l.length cf, .int .i64 (w fu).c] 118 false)
  have hwl := AH.wf_alloc hw4 (.row [.slice af (w fu).l.length cf, .int .i64 (w fu).c] 118 false)
  by_cases hc : (w fu).c < 0
  · simp [E0, E1, E5, E7, hlt2, hil, z1, z4, z5, hfn, u1, u5, u6, v1, v2, hc, hgi]
    exact NX.of ⟨m - 1, by omega, i + 1, R4, o4, by omega, x4.app (by omega) _, by simp; omega, rs4.ext hw4 xl, b4.no (by rw [hf]; exact hc), by simp [E0], by simp [E1], by simp [E5], by simp⟩
  simp [E0, E1, E5, E7, hlt2, hil, z1, z4, z5, hfn, u1, u5, u6, v1, v2, hc, hgi]
  refine CN.use (has_ok (c := cf) (u3.ext hw4 xl) (by omega) (tu : Int)) ?_
  rintro _ _ - - ⟨rfl, rfl⟩
  cases hh' : hasL (w fu).l tu with
  | true =>
    simp [E7, hgi]
    exact NX.of ⟨m - 1, by omega, i + 1, R4, o4, by omega, x4.app (by omega) _, by simp; omega, rs4.ext hw4 xl, b4.back hg hw hil (by rw [hf]; omega) (by rw [hf, ht']; exact of_decide_eq_true hh'), by simp [E0], by simp [E1], by simp [E5], by simp⟩
  | false =>
    have hnin := of_decide_eq_false hh'
    have hobt := (hw.bh fu (by omega) (by omega)).path (by omega)
    obtain ⟨p1, p2, p3⟩ := hobt
    have hup := p1.up hg
    have hln := nodup_len n _ p2 fun y hy => p1.rng hg hs y hy
    have hwr : IntKind.i64.wrap ((w fu).c + (lk ks i).m) = (w fu).c + (lk ks i).m := i64_in (by omega) (by omega)
    simp [E0, E1, E5, E7, hil, z1, z6, z5, hfn, u1, v1, v2, v4, hwr]
    refine LN.use (fun mm E A' => ∃ (k : Nat) (u : Value), mm + k = (w fu).l.length ∧ Ext A4 A' ∧ A4.next + 2 ≤ A'.next ∧ A'.get A4.next = some (.row [.slice af (w fu).l.length cf, .int .i64 (w fu).c] 118 false) ∧ A'.get (A4.next + 1) = some (.row [u, .int .i64 ((w fu).c + (lk ks i).m)] 118 false) ∧ Own (A4.next + 2) A' 3 1 u (ints ((w fu).l.take k)) ∧ E.get 0 = .slice (some ⟨wb, 0, none⟩) n UNK ∧ E.get 1 = .slice (some ⟨bk, ok, none⟩) ks.length c ∧ E.get 5 = .slice (some ⟨wo, 0, none⟩) n UNK ∧ E.get 7 = .int .i64 i ∧ E.get 8 = .pointer (some ⟨A4.next, 0, none⟩) ∧ E.get 9 = .pointer (some ⟨A4.next + 1, 0, none⟩) ∧ E.get 10 = .int .i64 k) (w fu).l.length
      ⟨0, .slice none 0 0, by omega, (xl.app (by simp) _).setnew (by omega) _, by simp, by rw [AH.get_set, if_neg (by omega)]; simp [AH.get_alloc], by rw [AH.get_set, if_pos rfl], Own.nil _ _ _ _, by simp [E0], by simp [E1], by simp [E5], by simp [E7], by simp, by simp, by simp⟩ ?_
    clear E0 E1 E5 E7
    rintro mm E A5 hw5 hn5 ⟨k, u, hk, x5, n5, g1, gx, o1, E0, E1, E5, E7, E8, E9, E10⟩
    by_cases hlt : (k : Int) < (w fu).l.length
    · have hlt' : k < (w fu).l.length := by omega
      have hs1 := u3.ext hw4 x5
      have hobt := hs1.one (Go.AI.ints_at (l := (w fu).l) (i := k) hlt')
      obtain ⟨b, o, cs, ro, rfl, h1, h2⟩ := hobt
      have hb1 := hw5 _ _ h1
      have hobt := own_push o1 (y := 8) (r := [.int .i64 (w fu).l[k]]) hw5 n5 ⟨rfl, rfl⟩ (by omega) (by omega) (by simp; omega)
      obtain ⟨u', A6, p1, p2, p3, p4⟩ := hobt
      have hobt := o1.sl
      obtain ⟨a2, c2, rfl, -⟩ := hobt
      have hobt := p2.sl
      obtain ⟨a3, c3, rfl, -⟩ := hobt
      have hgk : IntKind.i64.wrap ((k : Int) + 1) = ((k + 1 : Nat) : Int) := by rw [i64_in (by omega) (by omega)]; simp
      have htk := List.take_succ_eq_append_getElem hlt'
      have hl2 : (ints ((w fu).l.take k)).length = k := by simp; omega
      rw [hl2] at p1 gx
      have gx' := (p4 _ (by omega)).trans gx
      have g1' := (p4 _ (by omega)).trans g1
      simp [E8, E9, E10, hlt, hlt', g1, gx, h1, h2, p1, hgk, gx']
      refine NX.of ⟨mm - 1, by omega, k + 1, _, by omega, fun b hb => by rw [AH.get_set, if_neg (by omega), p4 b (by omega), x5 b hb], by simp; omega, by rw [AH.get_set, if_neg (by omega)]; exact g1', by rw [AH.get_set, if_pos rfl], ?_, by simp [E0], by simp [E1], by simp [E5], by simp [E7], by simp [E8], by simp [E9], by simp⟩
      have hk := own_kept (A' := A6.set (A4.next + 1) (.row [.slice a3 (min k (w fu).l.length + 1) c3, .int .i64 ((w fu).c + (lk ks i).m)] 118 false)) p2 fun b x hb _ => by rw [AH.get_set, if_neg (by omega)]
      rw [htk]
      have : ints ((w fu).l.take k ++ [(w fu).l[k]]) = ints ((w fu).l.take k) ++ [[.int .i64 (w fu).l[k]]] := by unfold ints; rw [List.map_append]; rfl
      rw [this]
      simpa using hk
    · obtain rfl : k = (w fu).l.length := by omega
      rw [List.take_length] at o1
      have hobt := own_push o1 (y := 8) (r := [.int .i64 tu]) hw5 n5 ⟨rfl, rfl⟩ (by omega) (by omega) (by simp; omega)
      obtain ⟨u', A6, p1, p2', p3', p4⟩ := hobt
      have hobt := o1.sl
      obtain ⟨a2, c2, rfl, -⟩ := hobt
      have hobt := p2'.sl
      obtain ⟨ax, cx, rfl, sx⟩ := hobt
      have hl2 : (ints (w fu).l).length = (w fu).l.length := by simp
      simp only [List.length_append, List.length_singleton, hl2] at p1 gx p2'
      have gx' := (p4 _ (by omega)).trans gx
      have g1' := (p4 _ (by omega)).trans g1
      have w1 : ¬ bk = A4.next + 1 := by omega
      have w2 : ¬ wo = A4.next + 1 := by omega
      have zk5 := x5.get hw4 z1
      have zk6 := (p4 bk (by omega)).trans zk5
      have gw5 := (x5.get hw4 rs4.ws)
      have hobt := rs4.at htn
      obtain ⟨cs4, at5, ct5, q1, q2, q3, q4, q5, q6, q7, q8, q9⟩ := hobt
      have gw6 := (p4 wo (by omega)).trans (x5.get hw4 q1)
      have hn6 : A5.next ≤ A6.next := by omega
      have w3 : ¬ bk = A6.next := by omega
      have w4 : ¬ wo = A6.next := by omega
      have w5 : ¬ A4.next + 1 = A6.next := by omega
      have hnc : A4.next + 1 < A6.next := by omega
      have x46 : Ext A4 A6 := fun b hb => by rw [p4 b (by omega), x5 b hb]
      have x47 : Ext A4 ((((A6.set (A4.next + 1) (.row [.slice ax ((w fu).l.length + 1) cx, .int .i64 ((w fu).c + (lk ks i).m)] 118 false)).alloc (.row [.slice none 0 0, .int .i64 0] 118 false)).set A6.next (.row [.slice at5 (o4 tu).l.length ct5, .int .i64 (o4 tu).c] 118 false))) := fun b hb => by rw [AH.get_set, if_neg (by omega), AH.get_alloc, AH.next_set, if_neg (by omega), AH.get_set, if_neg (by omega), x46 b hb]
      have n7 : ((((A6.set (A4.next + 1) (.row [.slice ax ((w fu).l.length + 1) cx, .int .i64 ((w fu).c + (lk ks i).m)] 118 false)).alloc (.row [.slice none 0 0, .int .i64 0] 118 false)).set A6.next (.row [.slice at5 (o4 tu).l.length ct5, .int .i64 (o4 tu).c] 118 false))).next = A6.next + 1 := by simp
      have hints : ints ((w fu).l ++ [(tu : Int)]) = ints (w fu).l ++ [[.int .i64 tu]] := by unfold ints; rw [List.map_append]; rfl
      rw [← hints] at sx
      have ha : ∀ b o, ax = some ⟨b, o, none⟩ → A4.next + 2 ≤ b := fun b o e => by
        rcases p2'.2 with ⟨e1, _⟩ | ⟨b', e1, e2, _⟩
        · injection e1 with e1 _ _; rw [e1] at e; cases e
        · injection e1 with e1 _ _; rw [e1] at e; injection e with e; injection e with e _; omega
      have hw6 : A6.wf := appW_wf p1 (AH.wf_alloc hw5 _)
      have sx7 : Sl ((((A6.set (A4.next + 1) (.row [.slice ax ((w fu).l.length + 1) cx, .int .i64 ((w fu).c + (lk ks i).m)] 118 false)).alloc (.row [.slice none 0 0, .int .i64 0] 118 false)).set A6.next (.row [.slice at5 (o4 tu).l.length ct5, .int .i64 (o4 tu).c] 118 false))) 3 1 ax (ints ((w fu).l ++ [(tu : Int)])) := sx.kept fun b o y hb hy => by
        have h1 := ha b o hb
        have h2 := hw6 _ _ hy
        rw [AH.get_set, if_neg (by omega), AH.get_alloc, AH.next_set, if_neg (by omega), AH.get_set, if_neg (by omega)]
      have sy7 := q3.ext hw4 x47
      have rs7 := rs4.ext hw4 x47
      have x07 := x4.trans (by omega) x47
      have hlen1 : ((w fu).l ++ [(tu : Int)]).length = (w fu).l.length + 1 := by simp
      have hsp : (spl cs4 (tu * 2) [.slice ax ((w fu).l.length + 1) cx, .int .i64 ((w fu).c + (lk ks i).m)]).length = cs4.length := spl_length _ _ _ (by simp; omega)
      have hbet : ∀ A7, A7 = ((((A6.set (A4.next + 1) (.row [.slice ax ((w fu).l.length + 1) cx, .int .i64 ((w fu).c + (lk ks i).m)] 118 false)).alloc (.row [.slice none 0 0, .int .i64 0] 118 false)).set A6.next (.row [.slice at5 (o4 tu).l.length ct5, .int .i64 (o4 tu).c] 118 false))).set wo (.row (spl cs4 (tu * 2) [.slice ax ((w fu).l.length + 1) cx, .int .i64 ((w fu).c + (lk ks i).m)]) 118 false) → RS4 A7 wo n (fun u => if u = tu then [.slice ax ((w fu).l.length + 1) cx, .int .i64 ((w fu).c + (lk ks i).m)] else R4 u) (upd o4 tu ⟨(w fu).l ++ [(tu : Int)], (w fu).c + (lk ks i).m, false⟩) ∧ Ext A A7 ∧ A2.next ≤ A7.next := by
        intro A7 hA7
        have hoth : ∀ b, b ≠ wo → A7.get b = ((((A6.set (A4.next + 1) (.row [.slice ax ((w fu).l.length + 1) cx, .int .i64 ((w fu).c + (lk ks i).m)] 118 false)).alloc (.row [.slice none 0 0, .int .i64 0] 118 false)).set A6.next (.row [.slice at5 (o4 tu).l.length ct5, .int .i64 (o4 tu).c] 118 false))).get b := fun b b2 => by rw [hA7, AH.get_set, if_neg b2]
        refine ⟨rs4.put hw4 q2 htn (fun b b1 b2 => by rw [hoth b b2, x47 b b1]) (by rw [hA7, AH.get_set, if_pos rfl]) ⟨ax, cx, by simp, ?_, fun hnil => by simp at hnil, fun b o hb => by have := ha b o hb; omega, by simp; omega, fun b o hb => by
          have h1 := ha b o hb
          rcases p2'.2 with ⟨e1, _⟩ | ⟨b', e1, e2, e3⟩
          · injection e1 with e1 _ _; rw [e1] at hb; cases hb
          · injection e1 with e1 _ _; rw [e1] at hb; injection hb with hb; injection hb with hb _ _; subst hb
            have h2 := hw6 _ _ e3
            exact ⟨_, _, by rw [hoth b' (by omega), AH.get_set, if_neg (by omega), AH.get_alloc, AH.next_set, if_neg (by omega), AH.get_set, if_neg (by omega)]; exact e3⟩⟩, ?_, by rw [hA7]; simp; omega⟩
        · exact sx7.kept fun b o y hb hy => hoth b (by have := ha b o hb; omega)
        · rw [hA7]
          exact x07.setnew (by omega) _
      have hn8 : A2.next ≤ ((((A6.set (A4.next + 1) (.row [.slice ax ((w fu).l.length + 1) cx, .int .i64 ((w fu).c + (lk ks i).m)] 118 false)).alloc (.row [.slice none 0 0, .int .i64 0] 118 false)).set A6.next (.row [.slice at5 (o4 tu).l.length ct5, .int .i64 (o4 tu).c] 118 false))).next := by omega
      by_cases hy : (o4 tu).c < 0
      · simp [E0, E1, E5, E7, E8, E9, E10, hil, g1, gx, zk5, z5, p1, gx', g1', w1, w2, w3, w4, w5, zk6, gw6, htn, q5, q6, hy, hgi, hsp]
        have hobt := hbet _ rfl
        obtain ⟨r7, x7, n7'⟩ := hobt
        exact NX.of ⟨m - 1, by omega, i + 1, _, _, by omega, x7, n7', r7, by have := b4.better hg hw hil (by rw [hf]; omega) (by rw [hf, ht']; exact hnin) (Or.inl (by rw [ht']; exact hy)); rw [hf, ht'] at this; exact this, by simp [E0], by simp [E1], by simp [E5], by simp⟩
      · simp [E0, E1, E5, E7, E8, E9, E10, hil, g1, gx, zk5, z5, p1, gx', g1', w1, w2, w3, w4, w5, zk6, gw6, htn, q5, q6, hy]
        have hbt := rbetter_ok (c := cx) (c' := ct5) sx7 sy7 (by simp; omega) ((w fu).c + (lk ks i).m) (o4 tu).c
        rw [hlen1] at hbt
        refine CN.use hbt ?_
        rintro _ _ - - ⟨rfl, rfl⟩
        cases hb : betB ((w fu).c + (lk ks i).m) ((w fu).l ++ [(tu : Int)]) (o4 tu).c (o4 tu).l with
        | true =>
          simp [E0, E1, E5, E7, E8, E9, E10, hil, g1, gx, zk5, z5, p1, gx', g1', w1, w2, w3, w4, w5, zk6, gw6, htn, q5, q6, hy, hgi, hsp]
          have hobt := hbet _ rfl
          obtain ⟨r7, x7, n7'⟩ := hobt
          exact NX.of ⟨m - 1, by omega, i + 1, _, _, by omega, x7, n7', r7, by have := b4.better hg hw hil (by rw [hf]; omega) (by rw [hf, ht']; exact hnin) (Or.inr (by rw [hf, ht']; exact hb)); rw [hf, ht'] at this; exact this, by simp [E0], by simp [E1], by simp [E5], by simp⟩
        | false =>
          simp [E7, hy, hgi]
          exact NX.of ⟨m - 1, by omega, i + 1, R4, o4, by omega, x07, hn8, rs7, b4.stay (by rw [ht']; omega) (by rw [hf, ht']; exact hb), by simp [E0], by simp [E1], by simp [E5], by simp⟩
set_option maxHeartbeats 4000000 in
theorem rfind_ok {A : AH} {al : Option Addr} {cl : Nat} {l : List Adv} (hl : Sl A 132 15 al (l.map Adv.enc)) (hx : ∀ x ∈ l, x.wf) (hn : l.length ≤ 1000) (a : AskM) (h : a.ok A 73) (hw : a.q.wf) (n s t : Int) :
    ACall Tryz.prog 18 [.int .i64 n, .slice al l.length cl, .agg a.enc.toArray, .int .i64 s, .int .i64 t] A fun v A' => Ext A A' ∧ ∃ a' c' r x e, v = .tuple #[.slice a' r.length c', .int .i64 x, .int .i64 e] ∧ FndP n l a.q s t e r x ∧ Sl A' 3 1 a' (ints r) ∧ r.length ≤ 1000 ∧ ∀ b o, a' = some ⟨b, o, none⟩ → ∃ cs ro, A'.get b = some (.row cs 3 ro) := by
  have hobt := a.cells
  obtain ⟨ael, ao, at6, -, -, -, -, -, k9⟩ := hobt
  have at10 : List.take 10 a.enc = a.enc := List.take_of_length_le (by omega)
  have a9g : a.enc[9] = .int .i64 a.q.hops := rfl
  have goal : ∀ A' : AH, Ext A A' → ¬ goodF n l a.q s t → Ext A A' ∧ ∃ a' c' r x e, Value.tuple #[.slice none 0 0, .int .i64 0, .int .i64 2] = .tuple #[.slice a' r.length c', .int .i64 x, .int .i64 e] ∧ FndP n l a.q s t e r x ∧ Sl A' 3 1 a' (ints r) ∧ r.length ≤ 1000 ∧ ∀ b o, a' = some ⟨b, o, none⟩ → ∃ cs ro, A'.get b = some (.row cs 3 ro) := fun A' hx' hb => ⟨hx', none, 0, [], 0, 2, rfl, Or.inl ⟨rfl, hb, rfl, rfl⟩, Sl.nil Pla.no _ _ _, by simp, fun b o e => by cases e⟩
  refine code18.call (by simp) fun hwf => ?_
  unfold c18
  have x0 : Ext A (A.alloc (.row a.enc 67 false)) := Ext.alloc A _
  simp
  refine CN.use (rall17_ok (hl.ext hwf x0) hx hn) ?_
  rintro _ A1 hw1 hn1 ⟨x1, o1⟩
  simp only [AH.next_alloc] at hn1
  have hobt := own_slm o1
  obtain ⟨a2, c2, rfl, s2, -⟩ := hobt
  simp
  have hck := rcheck_ok (c := c2) s2 n
  rw [List.length_map] at hck
  refine CN.use hck ?_
  rintro _ A2 hw2 hn2 ⟨x2, r, rfl, hr⟩
  have x02 : Ext A A2 := (x0.trans (by simp) x1).trans (by omega) x2
  have r0 : (A.alloc (.row a.enc 67 false)).get A.next = some (.row a.enc 67 false) := AH.get_new _ _
  have r2 := x2.get hw1 (x1.get (AH.wf_alloc hwf _) r0)
  by_cases b1 : r = 0
  rotate_left
  · have hbad : ¬ goodF n l a.q s t := fun hg => b1 (hr.zero.2 hg.1)
    simp [b1]
    exact DN.of (goal _ x02 hbad)
  have hgn := hr.zero.1 b1
  have hn1' := hgn.1
  have hn16 := hgn.2.1
  by_cases b2 : 0 ≤ s ∧ s < n ∧ 0 ≤ t ∧ t < n ∧ s ≠ t
  rotate_left
  · have hbad : ¬ goodF n l a.q s t := fun hg => b2 ⟨hg.2.1.1, hg.2.1.2, hg.2.2.1.1, hg.2.2.1.2, hg.2.2.2.1⟩
    have b3 : s < 0 ∨ (¬ s < 0 ∧ n ≤ s) ∨ (¬ s < 0 ∧ ¬ n ≤ s ∧ t < 0) ∨ (¬ s < 0 ∧ ¬ n ≤ s ∧ ¬ t < 0 ∧ n ≤ t) ∨ (¬ s < 0 ∧ ¬ n ≤ s ∧ ¬ t < 0 ∧ ¬ n ≤ t ∧ s = t) := by omega
    rcases b3 with b3 | ⟨b3, b4⟩ | ⟨b3, b4, b5⟩ | ⟨b3, b4, b5, b6⟩ | ⟨b3, b4, b5, b6, b7⟩
    · simp [b1, b3]; exact DN.of (goal _ x02 hbad)
    · simp [b1, b3, b4]; exact DN.of (goal _ x02 hbad)
    · simp [b1, b3, b4, b5]; exact DN.of (goal _ x02 hbad)
    · simp [b1, b3, b4, b5, b6]; exact DN.of (goal _ x02 hbad)
    · subst b7; simp [b1, b3, b4]; exact DN.of (goal _ x02 hbad)
  obtain ⟨b21, b22, b23, b24, b25⟩ := b2
  have c1 : ¬ s < 0 := by omega
  have c2' : ¬ n ≤ s := by omega
  have c3 : ¬ t < 0 := by omega
  have c4 : ¬ n ≤ t := by omega
  simp [b1, c1, c2', c3, c4, b25, r2, ael, at6]
  refine CN.use (rright_ok a.q.w _) ?_
  rintro _ A3 hw3 hn3 ⟨rfl, x3⟩
  have r3 := x3.get hw2 r2
  have x03 := x02.trans (by omega) x3
  cases b5 : rightB a.q.w with
  | false =>
    have hbad : ¬ goodF n l a.q s t := fun hg => by rw [hg.2.2.2.2.1] at b5; cases b5
    simp
    exact DN.of (goal _ x03 hbad)
  | true =>
  by_cases b6 : a.q.hops < 0
  · have hbad : ¬ goodF n l a.q s t := fun hg => by have := hg.2.2.2.2.2; omega
    simp [r3, ael, a9g, b6]
    exact DN.of (goal _ x03 hbad)
  have hgood : goodF n l a.q s t := ⟨hgn, ⟨b21, b22⟩, ⟨b23, b24⟩, b25, b5, by omega⟩
  simp [r3, ael, a9g, b6]
  obtain ⟨nn, rfl⟩ : ∃ nn : Nat, n = nn := ⟨n.toNat, by omega⟩
  obtain ⟨t, rfl⟩ : ∃ t' : Nat, t = t' := ⟨t.toNat, by omega⟩
  obtain ⟨s, rfl⟩ : ∃ s' : Nat, s = s' := ⟨s.toNat, by omega⟩
  refine LN.use (fun m E A' => ∃ (k : Nat) (u : Value), m + k = nn ∧ Ext A3 A' ∧ A3.next ≤ A'.next ∧ Own A3.next A' 118 2 u ((List.range k).map fun _ => [.slice none 0 0, .int .i64 (-1)]) ∧ E.get 0 = .int .i64 nn ∧ E.get 1 = .slice al l.length cl ∧ E.get 3 = .int .i64 s ∧ E.get 4 = .int .i64 t ∧ E.get 7 = .pointer (some ⟨A.next, 0, none⟩) ∧ E.get 13 = u ∧ E.get 14 = .int .i64 k) nn
    ⟨0, .slice none 0 0, by omega, Ext.refl A3, Nat.le_refl _, Own.nil _ _ _ _, by simp, by simp, by simp, by simp, by simp, by simp, by simp⟩ ?_
  rintro m E A4 hw4 hn4 ⟨k, u, hk, x4, n4, o4, E0, E1, E3, E4, E7, E13, E14⟩
  by_cases hlt : (k : Int) < nn
  · obtain ⟨u', A5, p1, p2, p3, p4⟩ := own_push o4 (y := 32) (r := [.slice none 0 0, .int .i64 (-1)]) hw4 n4 ⟨rfl, rfl⟩ (by omega) (by omega) (by simp; omega)
    have hobt := o4.sl
    obtain ⟨a2, c2, rfl, -⟩ := hobt
    have hgi : IntKind.i64.wrap ((k : Int) + 1) = ((k + 1 : Nat) : Int) := by rw [i64_in (by omega) (by omega)]; simp
    simp only [List.length_map, List.length_range] at p1 E13
    simp [E0, E13, E14, hlt, p1, hgi]
    refine NX.of ⟨m - 1, by omega, k + 1, u', by omega, fun b hb => by rw [p4 b hb, x4 b hb], by omega, ?_, by simp [E0], by simp [E1], by simp [E3], by simp [E4], by simp [E7], by simp, by simp⟩
    rw [List.range_succ, List.map_append]; exact p2
  obtain rfl : nn = k := by omega
  have hsn : s < nn := by omega
  obtain ⟨wb, rfl, hwb, g2⟩ : ∃ b, u = .slice (some ⟨b, 0, none⟩) nn UNK ∧ A3.next ≤ b ∧ A4.get b = some (.row ((List.range nn).map fun _ => [Value.slice none 0 0, .int .i64 (-1)]).flatten 118 false) := by
    rcases o4.2 with ⟨_, hnil⟩ | ⟨b, q1, q2, q3⟩
    · have := congrArg List.length hnil
      simp at this; omega
    · exact ⟨b, by simpa using q1, q2, q3⟩
  have hwb2 := hw4 _ _ g2
  have hne : ¬ wb = A4.next := by omega
  have rs0 : RS4 A4 wb nn (fun _ => [.slice none 0 0, .int .i64 (-1)]) w0 := ⟨g2, fun v _ => ⟨none, 0, rfl, Sl.nil Pla.no _ _ _, fun _ => rfl, by simp, by simp [w0], fun b o e => by cases e⟩⟩
  have hl0 := flat_len rs0.rw.len
  simp only [List.length_map, List.length_range] at hl0
  generalize hcs : ((List.range nn).map fun _ => [Value.slice none 0 0, .int .i64 (-1)]).flatten = cs at g2 hl0
  have hfit : s * 2 + 2 ≤ cs.length := by omega
  have hA : A.next < A3.next := hw3 _ _ r3
  have r4 := x4.get hw3 r3
  have w1 : ¬ A.next = A4.next := by omega
  have w2 : ¬ A.next = wb := by omega
  have hwn : IntKind.i64.wrap ((nn : Int) - 1) = (nn : Int) - 1 := i64_in (by omega) (by omega)
  have x04 := x03.trans (by omega) x4
  have xa := x04.app (by omega) (.row [.int .i64 s] 3 false)
  have xb := xa.setnew (c := wb) (by omega) (.row (spl cs (s * 2) [.slice (some ⟨A4.next, 0, none⟩) 1 1, .int .i64 0]) 118 false)
  have rs1 : RS4 ((A4.alloc (.row [.int .i64 s] 3 false)).set wb (.row (spl cs (s * 2) [.slice (some ⟨A4.next, 0, none⟩) 1 1, .int .i64 0]) 118 false)) wb nn (fun u => if u = s then [.slice (some ⟨A4.next, 0, none⟩) 1 1, .int .i64 0] else [.slice none 0 0, .int .i64 (-1)]) (upd w0 s ⟨[(s : Int)], 0, false⟩) := by
    refine rs0.put hw4 hcs.symm hsn (fun b b1 b2 => by rw [AH.get_set, if_neg b2, AH.get_alloc, if_neg (by omega)]) (by rw [AH.get_set, if_pos rfl]) ⟨_, _, rfl, ?_, fun hnil => by simp at hnil, fun b o e => ?_, by simp, fun b o e => by
      injection e with e; injection e with e _; subst e
      exact ⟨_, _, by rw [AH.get_set, if_neg (by omega), AH.get_new]⟩⟩
    · refine (one_row (A := A4) (s : Int)).kept fun b o y hb hy => ?_
      injection hb with hb; injection hb with hb _
      rw [AH.get_set, if_neg (by omega)]
    · injection e with e; injection e with e _
      omega
  have hws := AH.wf_set (AH.wf_alloc hw4 (.row [.int .i64 s] 3 false)) (c := wb) (by simp; omega) (.row (spl cs (s * 2) [.slice (some ⟨A4.next, 0, none⟩) 1 1, .int .i64 0]) 118 false)
  have hgk : goodN nn (fitL l a.q) := hgn.sub (fitL_sub l a.q)
  have b8 : (0 < a.q.hops ∧ (if a.q.hops < (nn : Int) - 1 then a.q.hops else (nn : Int) - 1) = (hopsN nn a.q.hops : Nat)) ∨ (¬ 0 < a.q.hops ∧ (nn : Int) - 1 = (hopsN nn a.q.hops : Nat)) := by
    by_cases b7 : 0 < a.q.hops
    · exact Or.inl ⟨b7, (min_hops nn a.q.hops hn1' b7).symm⟩
    · exact Or.inr ⟨b7, (max_hops nn a.q.hops hn1' b7).symm⟩
  have hHn : (hopsN nn a.q.hops : Int) < nn ∧ hopsN nn a.q.hops ≤ 15 := by unfold hopsN; split <;> (try split) <;> omega
  have hwH : IntKind.i64.wrap (hopsN nn a.q.hops : Nat) = (hopsN nn a.q.hops : Nat) := i64_in (by omega) (by omega)
  rcases b8 with ⟨b7, b8⟩ | ⟨b7, b8⟩
  all_goals
    simp [E0, E1, E3, E4, E7, E13, E14, hsn, hne, g2, hfit, hwn, w1, w2, r4, ael, a9g, b7, b8, hwH, at10]
    refine CN.use (rlinks_ok (hl.ext hwf xb) hx hn a (h.ext hwf xb) hw) ?_
    rintro vL A5 hw5 hn5 ⟨x5, o5⟩
    have hobt := own_slm o5
    obtain ⟨aL, cL, rfl, sL, -⟩ := hobt
    have x05 := xb.trans (by simp; omega) x5
    simp only [AH.next_set, AH.next_alloc] at hn5
    simp
    refine LN.use (fun m E A' => ∃ (i : Nat) (wb : Nat) (R : Nat → List Value) (w : Int → Wy), m + i = hopsN nn a.q.hops ∧ Ext A5 A' ∧ A5.next ≤ A'.next ∧ RS4 A' wb nn R w ∧ GI nn s (fitL l a.q) i w ∧ E.get 4 = .int .i64 t ∧ E.get 13 = .slice (some ⟨wb, 0, none⟩) nn UNK ∧ E.get 15 = .int .i64 (hopsN nn a.q.hops : Nat) ∧ E.get 16 = .slice aL (fitL l a.q).length cL ∧ E.get 17 = .int .i64 i) (hopsN nn a.q.hops)
      ⟨0, wb, _, _, by omega, Ext.refl A5, Nat.le_refl _, rs1.ext hws x5, GI.start ⟨by omega, by omega⟩, by simp [E4], by simp [E13], by simp, by simp, by simp⟩ ?_
    clear E0 E1 E3 E4 E7 E13 E14
    rintro m E A6 hw6 hn6 ⟨i, wb6, R6, w6, hi, x6, n6, rs6, gi6, E4, E13, E15, E16, E17⟩
    by_cases hlt : (i : Int) < (hopsN nn a.q.hops : Nat)
    · have hgi : IntKind.i64.wrap ((i : Int) + 1) = ((i + 1 : Nat) : Int) := by rw [i64_in (by omega) (by omega)]; simp
      simp [E13, E15, E16, E17, hlt]
      refine CN.use (grown_ok (c := cL) (sL.ext hw5 x6) hgk ⟨by omega, by omega⟩ rs6 gi6) ?_
      rintro _ A7 hw7 hn7 ⟨x7, wb7, R7, w7, rfl, rs7, gi7⟩
      simp [E17, hgi]
      exact NX.of ⟨m - 1, by omega, i + 1, wb7, R7, w7, by omega, x6.trans (by omega) x7, by omega, rs7, gi7, by simp [E4], by simp, by simp [E15], by simp [E16], by simp⟩
    · obtain rfl : i = hopsN nn a.q.hops := by omega
      have htn : t < nn := by omega
      have hobt := rs6.at htn
      obtain ⟨cs6, a6, c6, u1, u2, u3, u4, u5, u6, u7, u8, u9, u10⟩ := hobt
      have hbh := gi6.bh t b23 b24
      have xf := x05.trans (by omega) x6
      by_cases hc : (w6 t).c < 0
      · simp [E4, E13, E15, E17, u1, u8, hc, htn]
        exact DN.of ⟨xf, none, 0, [], 0, 8, rfl, Or.inr ⟨hgood, _, hbh, Or.inl ⟨rfl, hc, rfl, rfl⟩⟩, Sl.nil Pla.no _ _ _, by simp, fun b o e => by cases e⟩
      · simp [E4, E13, E15, E17, u1, u7, u8, hc, htn]
        exact DN.of ⟨xf, a6, c6, _, _, 0, rfl, Or.inr ⟨hgood, _, hbh, Or.inr ⟨rfl, by omega, rfl, rfl⟩⟩, u3, u4, u10⟩
end Go.Proofs.YtnlopamlmojbgaaGreat.AC
