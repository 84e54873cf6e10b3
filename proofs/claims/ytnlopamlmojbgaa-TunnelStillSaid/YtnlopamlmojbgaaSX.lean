/-
  What the law does.
-/
import Derived.Test.YtnlopamlmojbgaaCAL
import Derived.Test.YtnlopamlmojbgaaS3
set_option linter.unusedSimpArgs false
set_option linter.unusedVariables false
/- The law TunnelStill, walked. -/
namespace Go.Proofs.Ytnlopamlmojbgaa.AC
open Go Go.AI Go.Proofs Go.Proofs.Ytnlopamlmojbgaa.AQ
set_option linter.unusedVariables false
set_option linter.unusedSimpArgs false
set_option maxHeartbeats 8000000 in
theorem still_ok {A : AH} (hd n : Int) {a : Option Addr} {c : Nat} {xs : List AtM} (hs : Sl A 54 17 a (xs.map AtM.enc)) (hy : ∀ y ∈ xs, y.ok A) :
    ACall Try.prog 6 [.agg (PlR hd n a xs.length c).toArray] A fun v A' => v = .bool true ∧ Ext A A' := by
  refine ACall.wf fun hwf => ?_
  have hobx : ∃ A1, A1 = A.alloc (.row [.int .i64 hd, .int .i64 n, .slice a xs.length c] 47 false) := ⟨_, rfl⟩
  obtain ⟨A1, hA1⟩ := hobx
  have w1 : A1.wf := by rw [hA1]; exact AH.wf_alloc hwf _
  have n1 : A1.next = A.next + 1 := by rw [hA1]; rfl
  have x1 : Ext A A1 := by rw [hA1]; exact Ext.alloc A _
  have g1 : A1.get A.next = some (.row [.int .i64 hd, .int .i64 n, .slice a xs.length c] 47 false) := by rw [hA1, AH.get_new]
  refine code6.call (by simp) fun hwf => ?_
  unfold c6
  simp [PlR, ← hA1]
  refine CN.use (alive_ok A1) ?_
  rintro _ A2 hw2 hn2 ⟨rfl, x2⟩
  have g2 := x2.get w1 g1
  have x02 := x1.trans (by omega) x2
  simp [g2]
  refine CN.use (new_ok hd n A2) ?_
  rintro _ A3 hw3 hn3 ⟨x3, ⟨e, rfl⟩ | ⟨hnb, mb, hmb, rfl, h3⟩⟩
  · have x03 := x02.trans (by omega) x3
    have g3 := x3.get hw2 g2
    have hne := newB_false e
    by_cases k1 : n < 1
    · simp [g3, k1]
      exact DN.of ⟨rfl, x03⟩
    by_cases k2 : 16 < n
    · simp [g3, k1, k2]
      exact DN.of ⟨rfl, x03⟩
    by_cases k3 : hd < 0
    · simp [g3, k1, k2, k3]
      exact DN.of ⟨rfl, x03⟩
    have k4 : n ≤ hd := by omega
    simp [g3, k1, k2, k3, k4]
    exact DN.of ⟨rfl, x03⟩
  simp
  refine LN.use (fun k E A' => ∃ (i : Nat) (ps : List Nat) (m : Mg), k + i = xs.length + 1 ∧ i ≤ xs.length ∧ (∀ b, b < A2.next → A'.get b = A2.get b) ∧ A2.next ≤ A'.next ∧ MP A2.next A' mb ps m ∧ m.wf ∧ m.acts = [] ∧ m.lines = [] ∧ E.get 1 = .pointer (some ⟨A.next, 0, none⟩) ∧ E.get 3 = .pointer (some ⟨mb, 0, none⟩) ∧ E.get 4 = .int .i64 i) (xs.length + 1)
    ⟨0, [], mgN hd n, by omega, by omega, x3, by omega, h3, mgN_wf hnb, rfl, rfl, by simp, by simp, by simp⟩ ?_
  rintro k E A4 hw4 hn4 ⟨i, ps, m, hk, hile, lo4, n4, h4, hm, ha, hli, E1, E3, E4⟩
  have g4 : A4.get A.next = some (.row [.int .i64 hd, .int .i64 n, .slice a xs.length c] 47 false) := by rw [lo4 _ (by omega)]; exact g2
  have fin : Ext A A4 := fun b hb => by rw [lo4 b (by omega), x02 b hb]
  by_cases hlt : i < xs.length
  rotate_left
  · have hlt' : ¬ (i : Int) < xs.length := by omega
    simp [E1, E3, E4, g4, hlt']
    exact DN.of ⟨rfl, fin⟩
  have hlt' : (i : Int) < xs.length := by omega
  by_cases h60 : i < 60
  rotate_left
  · have h60' : ¬ (i : Int) < 60 := by omega
    simp [E1, E3, E4, g4, hlt, hlt', h60']
    exact DN.of ⟨rfl, fin⟩
  have h60' : (i : Int) < 60 := by omega
  have hgi : IntKind.i64.wrap ((i : Int) + 1) = ((i + 1 : Nat) : Int) := by rw [i64_in (by omega) (by omega)]; simp
  have hobx : ∃ y, y = xs[i] := ⟨_, rfl⟩
  obtain ⟨y, hyd⟩ := hobx
  have hyo := hy y (by rw [hyd]; exact List.getElem_mem hlt)
  have hobt := (hs.ext hwf x02).at (i := i) (by simpa using hlt)
  obtain ⟨b, o, cs, q, hab, u1, u2, u3⟩ := hobt
  rw [List.getElem_map, ← hyd] at u3
  have hb2 : b < A2.next := hw2 _ _ u1
  have u14 : A4.get b = some (.row cs q.1 q.2) := by rw [lo4 b hb2]; exact u1
  have d16 := at_cell (i := 16) u3 (by omega)
  have e16 : y.enc[16]? = some (.slice y.a y.x.l.length y.c) := rfl
  rw [e16] at d16
  by_cases h100 : 100 < y.x.l.length
  · have h100' : (100 : Int) < y.x.l.length := by omega
    simp [E1, E3, E4, g4, hlt, hlt', h60', hab, u14, d16, h100', hgi]
    exact NX.of ⟨k - 1, by omega, i + 1, ps, m, by omega, by omega, lo4, n4, h4, hm, ha, hli, by simp [E1], by simp [E3], by simp⟩
  have h100' : ¬ (100 : Int) < y.x.l.length := by omega
  simp [E1, E3, E4, g4, hlt, hlt', h60', hab, u14, d16, h100']
  refine CN.use (tunnels_ok h4 hm) ?_
  rintro _ A5 hw5 hn5 ⟨x5, vs, a5, c5, rfl, hvs, s5⟩
  have h5 := h4.ext hw4 x5
  have hvl : vs.length ≤ 1000 := by have := congrArg List.length hvs; have := hm.len; simp at *; omega
  simp
  refine CN.use (views_ok s5 hvl) ?_
  rintro _ A6 hw6 hn6 ⟨x6, a6, c6, rfl, s6⟩
  have h6 := h5.ext hw5 x6
  have x46 := x5.trans hn5 x6
  have u16 := x46.get hw4 u14
  have g6 := x46.get hw4 g4
  have lo6 : ∀ b, b < A2.next → A6.get b = A2.get b := fun b hb => by rw [x46 b (by omega), lo4 b hb]
  have yo6 : y.ok A6 := hyo.low (fun b hb => by rw [lo6 b (by omega), x02 b hb]) hwf
  have yl : y.enc.length = 17 := rfl
  simp [E1, E3, E4, g6, hlt, hlt', hab, u16, u2, u3]
  refine CN.use (act_ok h6 hm y yo6 (by omega) (by exact ⟨by rw [ha]; simp, by rw [hli]; simp⟩) (by omega)) ?_
  rintro _ A7 hw7 hn7 ⟨⟨ps7, h7⟩, rfl, f7⟩
  have wf7 := Mg.act_wf hm y.x hyo.2.2.1 (by exact ⟨by rw [ha]; simp, by rw [hli]; simp⟩)
  have s7 := s6.frL f7
  simp [E3]
  refine CN.use (actions_ok h7 wf7) ?_
  rintro _ A8 hw8 hn8 ⟨o8, h8, acs, a8, c8, rfl, hacs, -⟩
  have wf8 : Mg.wf { (m.act y.x).1 with acts := [] } := ⟨wf7.hd, wf7.n, wf7.cnt, wf7.vs, wf7.len⟩
  have s8 := s7.frL (o8.frL h7)
  simp [E3]
  refine CN.use (lines_ok h8 wf8) ?_
  rintro _ A9 hw9 hn9 ⟨o9, h9, a9, c9, rfl, -⟩
  have wf9 : Mg.wf { { (m.act y.x).1 with acts := [] } with lines := [] } := ⟨wf7.hd, wf7.n, wf7.cnt, wf7.vs, wf7.len⟩
  have s9 := s8.frL (o9.frL h8)
  have lo9 : ∀ b, b < A2.next → A9.get b = A2.get b := (o9.frL h8).low ((o8.frL h7).low (f7.low lo6))
  have n9 : A2.next ≤ A9.next := by omega
  by_cases he : (m.act y.x).2 = 0
  · simp [he, E4, hgi]
    exact NX.of ⟨k - 1, by omega, i + 1, ps7, _, by omega, by omega, lo9, n9, h9, wf9, rfl, rfl, by simp [E1], by simp [E3], by simp⟩
  have hst := Mg.act_err y.x he
  have hal : acs.length = 0 := by have := congrArg List.length hacs; rw [hst, ha] at this; simpa using this
  have hll : (m.act y.x).1.lines.length = 0 := by rw [hst, hli]; rfl
  have hlm : (m.act y.x).1.lines = [] := by rw [hst, hli]
  simp [he, hal, hll, hlm, E3]
  refine CN.use (tunnels_ok h9 wf9) ?_
  rintro _ A10 hw10 hn10 ⟨x10, ws, a10, c10, rfl, hws, s10⟩
  have hwl : ws.length ≤ 1000 := by have := congrArg List.length hws; have := wf9.len; simp at *; omega
  have h10 := h9.ext hw9 x10
  simp
  refine CN.use (views_ok s10 hwl) ?_
  rintro _ A11 hw11 hn11 ⟨x11, a11, c11, rfl, s11⟩
  have h11 := h10.ext hw10 x11
  have x911 := x10.trans hn10 x11
  simp
  refine CN.use (rviews_ok (s9.ext hw9 x911) s11 hvl) ?_
  rintro _ A12 hw12 hn12 ⟨rfl, x12⟩
  have x912 := x911.trans (by omega) x12
  have heq : vs.map VwM.v = ws.map VwM.v := by rw [hvs, hws]; show m.l = (m.act y.x).1.l; rw [hst]
  simp [heq, E4, hgi]
  exact NX.of ⟨k - 1, by omega, i + 1, ps7, _, by omega, by omega, fun b hb => by rw [x912 b (by omega), lo9 b hb], by omega, h11.ext hw11 x12, wf9, rfl, rfl, by simp [E1], by simp [E3], by simp⟩
theorem still_walk {A : AH} (hd n : Int) {a : Option Addr} {c : Nat} {xs : List AtM} (hs : Sl A 54 17 a (xs.map AtM.enc)) (hy : ∀ y ∈ xs, y.ok A) :
    ACall Try.prog 6 [.agg (PlR hd n a xs.length c).toArray] A fun v A' => v = .bool true := (still_ok hd n hs hy).mono fun _ _ _ _ h => h.1
end Go.Proofs.Ytnlopamlmojbgaa.AC
