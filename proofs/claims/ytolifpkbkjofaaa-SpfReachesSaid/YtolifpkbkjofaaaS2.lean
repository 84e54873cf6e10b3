/-
  What the functions of the program, and those of the law, do.
-/
import Derived.Test.YtolifpkbkjofaaaS1
set_option linter.unusedSimpArgs false
set_option linter.unusedVariables false
/- The reference's best routes. -/
namespace Go.Proofs.Ytolifpkbkjofaaa.AC
open Go Go.AI Go.Proofs Go.Proofs.Ytolifpkbkjofaaa.AQ
set_option linter.unusedVariables false
theorem own_push {n0 : Nat} {A : AH} {e : TypeId} {z y : Nat} {v : Value} {L : List (List Value)} {r : List Value} (h : Own n0 A e z v L) (hw : A.wf) (hn0 : n0 ≤ A.next) (hr : r.length = z ∧ r.all oneB = true) (hz : 0 < z) (hy : y ≤ 1048576) (hl : L.length ≤ 1000000) :
    ∃ v' A', appW e z y v (.slice (some ⟨A.next, 0, none⟩) 1 1) (A.alloc (.row r e false)) = some (v', A') ∧ Own n0 A' e z v' (L ++ [r]) ∧ A.next + 1 ≤ A'.next ∧ ∀ b, b < n0 → A'.get b = A.get b := by
  have xa := Ext.alloc A (.row r e false)
  have hsl : Sl (A.alloc (.row r e false)) e z (some ⟨A.next, 0, none⟩) [r] := Sl.row (Rw.one hr) (AH.get_new _ _) (by simp)
  have hm : (L.length + [r].length) * y ≤ 17592186044416 := by
    have : (L.length + [r].length) * y ≤ 1000001 * 1048576 := Nat.mul_le_mul (by simp; omega) hy
    omega
  have hobt := (h.ext hw xa).app (y := y) (by simp; omega) hsl hz hy (by simp; omega) hm (c := 1)
  obtain ⟨v', A', p1, p2, p3, p4⟩ := hobt
  exact ⟨v', A', p1, p2, p3, fun b hb => (p4 ⟨n0, A.tab⟩ rfl (fun b hb => xa b (by simp at hb; omega))) b hb⟩
theorem one_row {A : AH} (x : Int) : Sl (A.alloc (.row [.int .i64 x] 3 false)) 3 1 (some ⟨A.next, 0, none⟩) (ints [x]) := Sl.row (ints_rw [x]) (AH.get_new _ _) (by simp [ints])
theorem own_kept {n0 : Nat} {A A' : AH} {e : TypeId} {z : Nat} {v : Value} {L : List (List Value)} (h : Own n0 A e z v L) (hk : ∀ b x, n0 ≤ b → A.get b = some x → A'.get b = A.get b) : Own n0 A' e z v L :=
  ⟨h.1, h.2.imp id fun ⟨b, q1, q2, q3⟩ => ⟨b, q1, q2, (hk b _ q2 q3).trans q3⟩⟩
theorem further_ok {A : AH} {a : Option Addr} {c : Nat} {l : List Int} (h : Sl A 3 1 a (ints l)) (hl : l.length ≤ 1000) (x t m : Int) (hw : IntKind.i64.wrap (x + m) = x + m) :
    ACall Try.prog 28 [.agg #[.slice a l.length c, .int .i64 x], .int .i64 t, .int .i64 m] A fun v A' => Ext A A' ∧ ∃ u, v = .agg #[u, .int .i64 (x + m)] ∧ Own (A.next + 2) A' 3 1 u (ints (l ++ [t])) := by
  refine code28.call (by simp) fun hwf => ?_
  unfold c28
  have x2 : Ext A ((A.alloc (.row [.slice a l.length c, .int .i64 x] 37 false)).alloc (.row [.slice none 0 0, .int .i64 0] 37 false)) := (Ext.alloc A _).app (by simp) _
  simp
  refine LN.use (fun mm E A' => ∃ (k : Nat) (u : Value), mm + k = l.length ∧ Ext A A' ∧ A.next + 2 ≤ A'.next ∧ A'.get A.next = some (.row [.slice a l.length c, .int .i64 x] 37 false) ∧ A'.get (A.next + 1) = some (.row [.slice none 0 0, .int .i64 0] 37 false) ∧ Own (A.next + 2) A' 3 1 u (ints (l.take k)) ∧ E.get 1 = .int .i64 t ∧ E.get 2 = .int .i64 m ∧ E.get 3 = .pointer (some ⟨A.next, 0, none⟩) ∧ E.get 6 = .pointer (some ⟨A.next + 1, 0, none⟩) ∧ E.get 7 = u ∧ E.get 8 = .int .i64 k) l.length
    ⟨0, _, by omega, x2, by simp, by simp [AH.get_alloc], by simp [AH.get_alloc], by simpa [ints] using Own.nil _ _ _ _, by simp, by simp, by simp, by simp, by simp, by simp⟩ ?_
  rintro mm E A1 hw1 hn1 ⟨k, u, hk, x1, n1, g1, g2, o1, E1, E2, E3, E6, E7, E8⟩
  by_cases hlt : (k : Int) < l.length
  · have hlt' : k < l.length := by omega
    have hs1 := h.ext hwf x1
    have hobt := hs1.one (Go.AI.ints_at (l := l) (i := k) hlt')
    obtain ⟨b, o, cs, ro, rfl, h1, h2⟩ := hobt
    have hb1 := hw1 _ _ h1
    have hobt := own_push o1 (y := 8) (r := [.int .i64 l[k]]) hw1 n1 ⟨rfl, rfl⟩ (by omega) (by omega) (by simp; omega)
    obtain ⟨u', A2, p1, p2, p3, p4⟩ := hobt
    have hobt := o1.sl
    obtain ⟨a2, c2, rfl, -⟩ := hobt
    have hgi : IntKind.i64.wrap ((k : Int) + 1) = ((k + 1 : Nat) : Int) := by rw [i64_in (by omega) (by omega)]; simp
    have htk := List.take_succ_eq_append_getElem hlt'
    have hl2 : (ints (l.take k)).length = k := by simp; omega
    rw [hl2] at E7 p1
    simp [E3, E7, E8, hlt, hlt', g1, h1, h2, p1, hgi]
    refine NX.of ⟨mm - 1, by omega, k + 1, u', by omega, fun b hb => by rw [p4 b (by omega), x1 b hb], by omega, by rw [p4 _ (by omega)]; exact g1, by rw [p4 _ (by omega)]; exact g2, ?_, by simp [E1], by simp [E2], by simp [E3], by simp [E6], by simp, by simp⟩
    rw [htk]; unfold ints at p2 ⊢; rw [List.map_append]; exact p2
  · obtain rfl : k = l.length := by omega
    rw [List.take_length] at o1
    have hobt := own_push o1 (y := 8) (r := [.int .i64 t]) hw1 n1 ⟨rfl, rfl⟩ (by omega) (by omega) (by simp; omega)
    obtain ⟨u', A2, p1, p2, p3, p4⟩ := hobt
    have hobt := o1.sl
    obtain ⟨a2, c2, rfl, -⟩ := hobt
    have hl2 : (ints l).length = l.length := by simp
    rw [hl2] at E7 p1
    have g1' := (p4 _ (by omega)).trans g1
    have g2' := (p4 _ (by omega)).trans g2
    have hobt := p2.sl
    obtain ⟨a3, c3, rfl, -⟩ := hobt
    have hn : A.next ≠ A.next + 1 := by omega
    simp [E1, E2, E3, E6, E7, E8, g1, p1, g1', g2', hw]
    refine DN.of ⟨?_, ?_⟩
    · intro b hb
      rw [AH.get_set, if_neg (by omega), p4 b (by omega), x1 b hb]
    · refine ⟨_, rfl, ?_⟩
      have : ints (l ++ [t]) = ints l ++ [[.int .i64 t]] := by unfold ints; rw [List.map_append]; rfl
      rw [this]
      have hk := own_kept (A' := A2.set (A.next + 1) (.row [.slice a3 (l.length + 1) c3, .int .i64 (x + m)] 37 false)) p2 fun b x hb _ => by rw [AH.get_set, if_neg (by omega)]
      simpa using hk
def W2M (A : AH) (n0 wb : Nat) (r : List Value) (x : Wy) : Prop :=
  ∃ a c, r = [.slice a x.l.length c, .int .i64 x.c] ∧ Sl A 3 1 a (ints x.l) ∧ (∀ b o, a = some ⟨b, o, none⟩ → n0 ≤ b ∧ b ≠ wb) ∧ x.l.length ≤ 1000
def K2 (A A' : AH) (wb : Nat) : Prop := ∀ b, b < A.next → b ≠ wb → A'.get b = A.get b
theorem W2M.kept {A A' : AH} {n0 wb : Nat} {r : List Value} {x : Wy} (h : W2M A n0 wb r x) (hw : A.wf) (hk : K2 A A' wb) : W2M A' n0 wb r x := by
  obtain ⟨a, c, h1, h2, h3, h4⟩ := h
  exact ⟨a, c, h1, h2.kept fun b o y hb hy => hk b (hw _ _ hy) (h3 b o hb).2, h3, h4⟩
structure RS2 (n0 : Nat) (A : AH) (wb n : Nat) (R : Nat → List Value) (w : Int → Wy) : Prop where
  ws : A.get wb = some (.row ((List.range n).map R).flatten 37 false)
  wy : ∀ v : Nat, v < n → W2M A n0 wb (R v) (w v)
  lo : n0 ≤ wb
theorem RS2.rw {n0 : Nat} {A : AH} {wb n : Nat} {R : Nat → List Value} {w : Int → Wy} (h : RS2 n0 A wb n R w) : Rw 2 ((List.range n).map R) := by
  intro r hr
  have hobt := List.mem_map.1 hr
  obtain ⟨v, hv, rfl⟩ := hobt
  have hobt := h.wy v (List.mem_range.1 hv)
  obtain ⟨a, c, e, -⟩ := hobt
  rw [e]; exact ⟨rfl, rfl⟩
theorem RS2.at {n0 : Nat} {A : AH} {wb n : Nat} {R : Nat → List Value} {w : Int → Wy} (h : RS2 n0 A wb n R w) {v : Nat} (hv : v < n) : ∃ cs a c, A.get wb = some (.row cs 37 false) ∧ cs = ((List.range n).map R).flatten ∧ Sl A 3 1 a (ints (w v).l) ∧ (w v).l.length ≤ 1000 ∧ v * 2 + 2 ≤ cs.length ∧ (cs.drop (v * 2)).take 2 = [.slice a (w v).l.length c, .int .i64 (w v).c] ∧ cs[v * 2]? = some (.slice a (w v).l.length c) ∧ cs[v * 2 + 1]? = some (.int .i64 (w v).c) ∧ W2M A n0 wb [.slice a (w v).l.length c, .int .i64 (w v).c] (w v) := by
  have hobt := h.wy v hv
  obtain ⟨a, c, e, h2, h3, h4⟩ := hobt
  have hr := h.rw
  have hat := flat_at hr.len (i := v) (by simpa using hv)
  simp only [List.getElem_map, List.getElem_range, e] at hat
  have hlen := flat_len hr.len
  simp only [List.length_map, List.length_range] at hlen
  have hm : (v + 1) * 2 ≤ n * 2 := Nat.mul_le_mul_right _ hv
  refine ⟨_, a, c, h.ws, rfl, h2, h4, by omega, hat, ?_, ?_, a, c, rfl, h2, h3, h4⟩
  · have := at_cell (i := 0) hat (by omega); simpa using this
  · have := at_cell (i := 1) hat (by omega); simpa using this
theorem RS2.kept {n0 : Nat} {A A' : AH} {wb n : Nat} {R : Nat → List Value} {w : Int → Wy} (h : RS2 n0 A wb n R w) (hw : A.wf) (hx : Ext A A') : RS2 n0 A' wb n R w :=
  ⟨(hx wb (hw _ _ h.ws)).trans h.ws, fun v hv => (h.wy v hv).kept hw fun b hb _ => hx b hb, h.lo⟩
/-- A row is written over. -/
theorem RS2.put {n0 : Nat} {A A' : AH} {wb n : Nat} {R : Nat → List Value} {w : Int → Wy} {cs : List Value} (h : RS2 n0 A wb n R w) (hw : A.wf) (hcs : cs = ((List.range n).map R).flatten) {v : Nat} (hv : v < n) {r : List Value} {x : Wy} (hA : ∀ b, b < A.next → b ≠ wb → A'.get b = A.get b) (hwb : A'.get wb = some (.row (spl cs (v * 2) r) 37 false)) (hr : W2M A' n0 wb r x) :
    RS2 n0 A' wb n (fun u => if u = v then r else R u) (upd w v x) := by
  refine ⟨?_, fun u hu => ?_, h.lo⟩
  · rw [hwb, hcs]
    obtain ⟨a, c, e, -⟩ := hr
    have hrl : r.length = 2 := by rw [e]; rfl
    have h1 := spl_flat (j := 0) (vs := r) h.rw.len (i := v) (by simpa using hv) (by omega)
    rw [Nat.add_zero] at h1
    rw [h1, spl_all (by rw [hrl]; exact (h.rw _ (List.getElem_mem (by simpa using hv))).1), range_set]
  · by_cases e : u = v
    · subst e; rw [if_pos rfl, upd_at]; exact hr
    · rw [if_neg e, upd_ne (by omega)]; exact (h.wy u hu).kept hw hA
/-- What the reference answers. -/
def RM2 (A : AH) (n0 : Nat) (w : Int → Wy) (n : Nat) (v : Value) : Prop := ∃ wb R, v = .slice (some ⟨wb, 0, none⟩) n UNK ∧ RS2 n0 A wb n R w
theorem rall_good {A : AH} {a : Option Addr} {c : Nat} {ks : List Lk} (h : Sl A 53 5 a (ks.map Lk.enc)) {n : Nat} {s : Int} (hg : goodN n ks) (hs : 0 ≤ s ∧ s < n) :
    ACall Try.prog 14 [.int .i64 n, .slice a ks.length c, .int .i64 s] A fun v A' => Ext A A' ∧ ∃ w, Best n ks s w ∧ ∃ vr, v = .tuple #[vr, .int .i64 0] ∧ RM2 A' A.next w n vr := by
  have hn16 := hg.2.1
  have hl64 := hg.2.2.1
  refine code14.call (by simp) fun hwf => ?_
  unfold c14
  simp
  refine CN.use (rcheck_ok (c := c) h n) ?_
  rintro _ A1 hw1 hn1 ⟨x1, r, rfl, hr⟩
  obtain rfl := hr.zero.2 hg
  have hs1 : ¬ s < 0 := by omega
  have hs2 : ¬ (n : Int) ≤ s := by omega
  simp [hs1, hs2]
  refine LN.use (fun m E A' => ∃ (k : Nat) (u : Value), m + k = n ∧ Ext A1 A' ∧ A1.next ≤ A'.next ∧ Own A1.next A' 37 2 u ((List.range k).map fun _ => [.slice none 0 0, .int .i64 (-1)]) ∧ E.get 0 = .int .i64 n ∧ E.get 1 = .slice a ks.length c ∧ E.get 2 = .int .i64 s ∧ E.get 8 = u ∧ E.get 9 = .int .i64 k) n
    ⟨0, _, by omega, Ext.refl A1, Nat.le_refl _, Own.nil _ _ _ _, by simp, by simp, by simp, by simp, by simp⟩ ?_
  rintro m E A2 hw2 hn2 ⟨k, u, hk, x2, n2, o2, E0, E1, E2, E8, E9⟩
  by_cases hlt : (k : Int) < n
  · obtain ⟨u', A3, p1, p2, p3, p4⟩ := own_push o2 (y := 32) (r := [.slice none 0 0, .int .i64 (-1)]) hw2 n2 ⟨rfl, rfl⟩ (by omega) (by omega) (by simp; omega)
    have hobt := o2.sl
    obtain ⟨a2, c2, rfl, -⟩ := hobt
    have hgi : IntKind.i64.wrap ((k : Int) + 1) = ((k + 1 : Nat) : Int) := by rw [i64_in (by omega) (by omega)]; simp
    simp only [List.length_map, List.length_range] at p1 E8
    simp [E0, E8, E9, hlt, p1, hgi]
    refine NX.of ⟨m - 1, by omega, k + 1, u', by omega, fun b hb => by rw [p4 b hb, x2 b hb], by omega, ?_, by simp [E0], by simp [E1], by simp [E2], by simp, by simp⟩
    rw [List.range_succ, List.map_append]; exact p2
  obtain rfl : n = k := by omega
  obtain ⟨t, rfl⟩ : ∃ t : Nat, s = t := ⟨s.toNat, by omega⟩
  have ht : t < n := by omega
  obtain ⟨wb, rfl, hwb, g2⟩ : ∃ b, u = .slice (some ⟨b, 0, none⟩) n UNK ∧ A1.next ≤ b ∧ A2.get b = some (.row ((List.range n).map fun _ => [Value.slice none 0 0, .int .i64 (-1)]).flatten 37 false) := by
    rcases o2.2 with ⟨_, hnil⟩ | ⟨b, q1, q2, q3⟩
    · have := congrArg List.length hnil
      simp at this; omega
    · exact ⟨b, by simpa using q1, q2, q3⟩
  have hwb2 := hw2 _ _ g2
  have hne : ¬ wb = A2.next := by omega
  have rs0 : RS2 A.next A2 wb n (fun _ => [.slice none 0 0, .int .i64 (-1)]) w0 := ⟨g2, fun v _ => ⟨none, 0, rfl, Sl.nil Pla.no _ _ _, by simp, by simp [w0]⟩, by omega⟩
  have hl0 := flat_len rs0.rw.len
  simp only [List.length_map, List.length_range] at hl0
  generalize hcs : ((List.range n).map fun _ => [Value.slice none 0 0, .int .i64 (-1)]).flatten = cs at g2 hl0
  have hfit : t * 2 + 2 ≤ cs.length := by omega
  simp [E0, E1, E2, E8, E9, ht, hne, g2, hfit]
  have x02 : Ext A A2 := x1.trans hn1 x2
  have xa := x02.app (by omega) (.row [.int .i64 t] 3 false)
  have xb := xa.setnew (c := wb) (by omega) (.row (spl cs (t * 2) [.slice (some ⟨A2.next, 0, none⟩) 1 1, .int .i64 0]) 37 false)
  have rs1 : RS2 A.next ((A2.alloc (.row [.int .i64 t] 3 false)).set wb (.row (spl cs (t * 2) [.slice (some ⟨A2.next, 0, none⟩) 1 1, .int .i64 0]) 37 false)) wb n (fun u => if u = t then [.slice (some ⟨A2.next, 0, none⟩) 1 1, .int .i64 0] else [.slice none 0 0, .int .i64 (-1)]) (upd w0 t ⟨[t], 0, false⟩) := by
    refine rs0.put hw2 hcs.symm ht (fun b b1 b2 => by rw [AH.get_set, if_neg b2, AH.get_alloc, if_neg (by omega)]) (by rw [AH.get_set, if_pos rfl]) ⟨_, _, rfl, ?_, fun b o e => ?_, by simp⟩
    · refine (one_row (A := A2) (t : Int)).kept fun b o y hb hy => ?_
      injection hb with hb; injection hb with hb _
      rw [AH.get_set, if_neg (by omega)]
    · injection e with e; injection e with e _
      omega
  refine LN.use (fun m E A' => ∃ (k : Nat) (R : Nat → List Value) (w : Int → Wy), m + k = n ∧ Ext A A' ∧ A2.next ≤ A'.next ∧ RS2 A.next A' wb n R w ∧ BI n t ks w k 0 ∧ E.get 0 = .int .i64 n ∧ E.get 1 = .slice a ks.length c ∧ E.get 8 = .slice (some ⟨wb, 0, none⟩) n UNK ∧ E.get 10 = .int .i64 k) n
    ⟨0, _, _, by omega, xb, by simp, rs1, BI.start (by omega), by simp [E0], by simp [E1], by simp [E8], by simp⟩ ?_
  clear E0 E1 E2 E8 E9 rs1 xb xa rs0
  rintro m E A3 hw3 hn3 ⟨k, R, w, hk, x3, n3, rs3, b3, E0, E1, E8, E10⟩
  by_cases hlt : (k : Int) < n
  · simp [E0, E10, hlt]
    refine LN.use (fun m2 E A' => ∃ (i : Nat) (R : Nat → List Value) (w : Int → Wy), m2 + i = ks.length ∧ Ext A A' ∧ A2.next ≤ A'.next ∧ RS2 A.next A' wb n R w ∧ BI n t ks w k i ∧ E.get 0 = .int .i64 n ∧ E.get 1 = .slice a ks.length c ∧ E.get 8 = .slice (some ⟨wb, 0, none⟩) n UNK ∧ E.get 10 = .int .i64 k ∧ E.get 11 = .int .i64 i) ks.length
      ⟨0, R, w, by omega, x3, n3, rs3, b3, by simp [E0], by simp [E1], by simp [E8], by simp [E10], by simp⟩ ?_
    clear E0 E1 E8 E10
    rintro m2 E A4 hw4 hn4 ⟨i, R4, w4, hi, x4, n4, rs4, b4, E0, E1, E8, E10, E11⟩
    by_cases hlt2 : (i : Int) < ks.length
    · have hil : i < ks.length := by omega
      have hgl := hg.link hil
      have hlk4 := h.ext hwf x4
      have hobt := lks_at hlk4 hil
      obtain ⟨bk, ok, csk, qk, rfl, z1, z2, z3, z4, z5, z6⟩ := hobt
      obtain ⟨fu, hf⟩ : ∃ fu : Nat, (lk ks i).f = fu := ⟨(lk ks i).f.toNat, by omega⟩
      obtain ⟨tu, ht'⟩ : ∃ tu : Nat, (lk ks i).t = tu := ⟨(lk ks i).t.toNat, by omega⟩
      have hfn : fu < n := by omega
      have htn : tu < n := by omega
      have hobt := rs4.at hfn
      obtain ⟨cs4, af, cf, u1, u2, u3, u4, u5, u6, u7, u8, u9⟩ := hobt
      have hb4 := hw4 _ _ u1
      have hbk := hw4 _ _ z1
      have hgi : IntKind.i64.wrap ((i : Int) + 1) = ((i + 1 : Nat) : Int) := by rw [i64_in (by omega) (by omega)]; simp
      rw [hf] at z4
      rw [ht'] at z5
      have v1 : ¬ wb = A4.next := by omega
      have v2 : ¬ bk = A4.next := by omega
      have xl := Ext.alloc A4 (.row [.slice af (w4 fu).l.length cf, .int .i64 (w4 fu).c] 37 false)
      have hwl := AH.wf_alloc hw4 (.row [.slice af (w4 fu).l.length cf, .int .i64 (w4 fu).c] 37 false)
      by_cases hc : (w4 fu).c < 0
      · simp [E0, E1, E8, E10, E11, hlt2, hil, z1, z4, z5, hfn, htn, u1, u5, u6, v1, v2, hc, hgi]
        exact NX.of ⟨m2 - 1, by omega, i + 1, R4, w4, by omega, x4.app (by omega) _, by simp; omega, rs4.kept hw4 xl, b4.no (by rw [hf]; exact hc), by simp [E0], by simp [E1], by simp [E8], by simp [E10], by simp⟩
      simp [E0, E1, E8, E10, E11, hlt2, hil, z1, z4, z5, hfn, htn, u1, u5, u6, v1, v2, hc, hgi]
      refine CN.use (has_ok (c := cf) (u3.ext hw4 xl) (by omega) (tu : Int)) ?_
      rintro _ _ - - ⟨rfl, rfl⟩
      cases hh : hasL (w4 fu).l tu with
      | true =>
        simp [E11, hgi]
        exact NX.of ⟨m2 - 1, by omega, i + 1, R4, w4, by omega, x4.app (by omega) _, by simp; omega, rs4.kept hw4 xl, b4.back hg hil (by rw [hf]; omega) (by rw [hf, ht']; exact of_decide_eq_true hh), by simp [E0], by simp [E1], by simp [E8], by simp [E10], by simp⟩
      | false =>
        have hnin := of_decide_eq_false hh
        have hobt := b4.path fu (by omega) (by omega) (by omega)
        obtain ⟨p1, p2, p3⟩ := hobt
        have hup := p1.up hg
        have hln := nodup_len n _ p2 fun y hy => p1.rng hg (by omega) y hy
        have hwr : IntKind.i64.wrap ((w4 fu).c + (lk ks i).m) = (w4 fu).c + (lk ks i).m := i64_in (by omega) (by omega)
        have hobt := rs4.at htn
        obtain ⟨cs5, at5, ct5, u1', u2', u3', u4', u5', u6', u7', u8', u9'⟩ := hobt
        rw [u1] at u1'
        injection u1' with u1'
        injection u1' with u1' _ _
        subst u1'
        simp [E1, E8, E11, hil, z1, z6, z5, hfn, htn, u1, u5', u6', v1, v2]
        refine CN.use (further_ok (c := cf) (u3.ext hw4 xl) u4 (w4 fu).c tu (lk ks i).m hwr) ?_
        rintro _ A5 hw5 hn5 ⟨x5, uu, rfl, o5⟩
        simp only [AH.next_alloc] at hn5 o5
        have hobt := o5.sl
        obtain ⟨ax, cx, rfl, sx⟩ := hobt
        have g5 := x5.get hwl ((AH.get_alloc A4 _ wb).trans (if_neg v1) |>.trans u1)
        have gk5 := x5.get hwl ((AH.get_alloc A4 _ bk).trans (if_neg v2) |>.trans z1)
        have hwb5 := hw5 _ _ g5
        have hbk5 := hw5 _ _ gk5
        have w1 : ¬ wb = A5.next := by omega
        have w2 : ¬ wb = A5.next + 1 := by omega
        have w3 : ¬ bk = A5.next := by omega
        have w5 : ¬ bk = A5.next + 1 := by omega
        have w6 : ¬ A5.next = A5.next + 1 := by omega
        have x6 : Ext A5 ((((A5.alloc (.row [.slice none 0 0, .int .i64 0] 37 false)).alloc (.row [.slice none 0 0, .int .i64 0] 37 false)).set A5.next (.row [.slice ax ((w4 fu).l.length + 1) cx, .int .i64 ((w4 fu).c + (lk ks i).m)] 37 false)).set (A5.next + 1) (.row [.slice at5 (w4 tu).l.length ct5, .int .i64 (w4 tu).c] 37 false)) := (((Ext.alloc A5 _).app (by simp) _).setnew (by omega) _).setnew (by omega) _
        have x45 : Ext A4 A5 := xl.trans (by simp) x5
        have x46 := x45.trans (by omega) x6
        have hsp : (spl cs4 (tu * 2) [.slice ax ((w4 fu).l.length + 1) cx, .int .i64 ((w4 fu).c + (lk ks i).m)]).length = cs4.length := spl_length _ _ _ (by simp; omega)
        have hlen1 : (ints ((w4 fu).l ++ [(tu : Int)])).length = (w4 fu).l.length + 1 := by simp
        simp only [hlen1] at o5
        have hbet : ∀ A7, A7 = ((((A5.alloc (.row [.slice none 0 0, .int .i64 0] 37 false)).alloc (.row [.slice none 0 0, .int .i64 0] 37 false)).set A5.next (.row [.slice ax ((w4 fu).l.length + 1) cx, .int .i64 ((w4 fu).c + (lk ks i).m)] 37 false)).set (A5.next + 1) (.row [.slice at5 (w4 tu).l.length ct5, .int .i64 (w4 tu).c] 37 false)).set wb (.row (spl cs4 (tu * 2) [.slice ax ((w4 fu).l.length + 1) cx, .int .i64 ((w4 fu).c + (lk ks i).m)]) 37 false) → RS2 A.next A7 wb n (fun u => if u = tu then [.slice ax ((w4 fu).l.length + 1) cx, .int .i64 ((w4 fu).c + (lk ks i).m)] else R4 u) (upd w4 tu ⟨(w4 fu).l ++ [(tu : Int)], (w4 fu).c + (lk ks i).m, false⟩) ∧ Ext A A7 ∧ A2.next ≤ A7.next := by
          intro A7 hA7
          have hoth : ∀ b, b < A5.next → b ≠ wb → A7.get b = A5.get b := fun b b1 b2 => by
            rw [hA7, AH.get_set, if_neg b2, x6 b b1]
          refine ⟨rs4.put hw4 u2 htn (fun b b1 b2 => by rw [hoth b (by omega) b2, x45 b b1]) (by rw [hA7, AH.get_set, if_pos rfl]) ⟨ax, cx, by simp, ?_, ?_, by simp; omega⟩, ?_, by rw [hA7]; simp; omega⟩
          · refine sx.kept fun b o y hb hy => hoth b (hw5 _ _ hy) ?_
            rcases o5.2 with ⟨q1, _⟩ | ⟨b', q1, q2, _⟩
            · injection q1 with q1 _ _; rw [q1] at hb; cases hb
            · injection q1 with q1 _ _; rw [q1] at hb; injection hb with hb; injection hb with hb _; omega
          · intro b o hb
            rcases o5.2 with ⟨q1, _⟩ | ⟨b', q1, q2, _⟩
            · injection q1 with q1 _ _; rw [q1] at hb; cases hb
            · injection q1 with q1 _ _; rw [q1] at hb; injection hb with hb; injection hb with hb _; omega
          · rw [hA7]
            exact (x4.trans (by omega) x46).setnew (by omega) _
        have sy := u3'.ext hw4 x46
        have sx6 := sx.ext hw5 x6
        have rs6 := rs4.kept hw4 x46
        have x06 := x4.trans (by omega) x46
        simp [E1, E8, E11, hil, gk5, g5, z5, htn, u5', u6', w1, w2, w3, w5, w6]
        by_cases hy : (w4 tu).c < 0
        · simp [E1, E8, E11, hil, gk5, g5, z5, htn, u5', u6', w1, w2, w3, w5, w6, hy, hgi, hsp]
          have hobt := hbet _ rfl
          obtain ⟨r7, x7, n7⟩ := hobt
          exact NX.of ⟨m2 - 1, by omega, i + 1, _, _, by omega, x7, n7, r7, by have := b4.better hg hil (by rw [hf]; omega) (by rw [hf, ht']; exact hnin) (Or.inl (by rw [ht']; exact hy)); rw [hf, ht'] at this; exact this, by simp [E0], by simp [E1], by simp [E8], by simp [E10], by simp⟩
        · simp [E1, E8, E11, hil, gk5, g5, z5, htn, u5', u6', w1, w2, w3, w5, w6, hy, hgi]
          have hbt := rbetter_ok (c := cx) (c' := ct5) sx6 sy (by simp; omega) ((w4 fu).c + (lk ks i).m) (w4 tu).c
          simp only [List.length_append, List.length_singleton] at hbt
          refine CN.use hbt ?_
          rintro _ _ - - ⟨rfl, rfl⟩
          cases hb : betB ((w4 fu).c + (lk ks i).m) ((w4 fu).l ++ [(tu : Int)]) (w4 tu).c (w4 tu).l with
          | true =>
            simp [E1, E8, E11, hil, gk5, g5, z5, htn, u5', u6', w1, w2, w3, w5, w6, hy, hgi, hsp]
            have hobt := hbet _ rfl
            obtain ⟨r7, x7, n7⟩ := hobt
            exact NX.of ⟨m2 - 1, by omega, i + 1, _, _, by omega, x7, n7, r7, by have := b4.better hg hil (by rw [hf]; omega) (by rw [hf, ht']; exact hnin) (Or.inr (by rw [hf, ht']; exact hb)); rw [hf, ht'] at this; exact this, by simp [E0], by simp [E1], by simp [E8], by simp [E10], by simp⟩
          | false =>
            simp [E11, hy, hgi]
            exact NX.of ⟨m2 - 1, by omega, i + 1, R4, w4, by omega, x06, by simp; omega, rs6, b4.stay (by rw [ht']; omega) (by rw [hf, ht']; exact hb), by simp [E0], by simp [E1], by simp [E8], by simp [E10], by simp⟩
    · obtain rfl : i = ks.length := by omega
      have hgi : IntKind.i64.wrap ((k : Int) + 1) = ((k + 1 : Nat) : Int) := by rw [i64_in (by omega) (by omega)]; simp
      simp [E1, E10, E11, hgi]
      exact NX.of ⟨m - 1, by omega, k + 1, R4, w4, by omega, x4, n4, rs4, b4.round, by simp [E0], by simp [E1], by simp [E8], by simp⟩
  · obtain rfl : n = k := by omega
    simp [E0, E8, E10]
    exact DN.of ⟨x3, w, BI.done hg (by omega) (by simpa using b3), _, rfl, wb, R, rfl, rs3⟩
end Go.Proofs.Ytolifpkbkjofaaa.AC
/- The reference's best route. -/
namespace Go.Proofs.Ytolifpkbkjofaaa.AC
open Go Go.AI Go.Proofs Go.Proofs.Ytolifpkbkjofaaa.AQ
set_option linter.unusedVariables false
theorem rall_bad {A : AH} {a : Option Addr} {c : Nat} {ks : List Lk} (h : Sl A 53 5 a (ks.map Lk.enc)) {n s : Int} (hg : ¬ goodS n ks s) :
    ACall Try.prog 14 [.int .i64 n, .slice a ks.length c, .int .i64 s] A fun v A' => Ext A A' ∧ v = .tuple #[.slice none 0 0, .int .i64 2] := by
  refine code14.call (by simp) fun hwf => ?_
  unfold c14
  simp
  refine CN.use (rcheck_ok (c := c) h n) ?_
  rintro _ A1 hw1 hn1 ⟨x1, r, rfl, hr⟩
  by_cases h0 : r = 0
  · have hgn := hr.zero.1 h0
    by_cases hs : s < 0
    · simp [h0, hs]
      exact DN.of ⟨x1, rfl⟩
    · have hs2 : n ≤ s := by
        by_cases hh : n ≤ s
        · exact hh
        · exact absurd ⟨hgn, by omega, by omega⟩ hg
      simp [h0, hs, hs2]
      exact DN.of ⟨x1, rfl⟩
  · simp [h0]
    exact DN.of ⟨x1, rfl⟩
theorem rbest_ok {A : AH} {a : Option Addr} {c : Nat} {ks : List Lk} (h : Sl A 53 5 a (ks.map Lk.enc)) (n s t : Int) :
    ACall Try.prog 16 [.int .i64 n, .slice a ks.length c, .int .i64 s, .int .i64 t] A fun v A' => Ext A A' ∧ ∃ a' c' l x e, v = .tuple #[.agg #[.slice a' l.length c', .int .i64 x], .int .i64 e] ∧ BstP n ks s t e l x ∧ Sl A' 3 1 a' (ints l) ∧ l.length ≤ 1000 := by
  have goal : ∀ (A' : AH), Ext A A' → BstP n ks s t 2 [] 0 → Ext A A' ∧ ∃ a' c' l x e, Value.tuple #[.agg #[.slice none 0 0, .int .i64 0], .int .i64 2] = .tuple #[.agg #[.slice a' l.length c', .int .i64 x], .int .i64 e] ∧ BstP n ks s t e l x ∧ Sl A' 3 1 a' (ints l) ∧ l.length ≤ 1000 := fun A' hx hb => ⟨hx, none, 0, [], 0, 2, rfl, hb, Sl.nil Pla.no _ _ _, by simp⟩
  have xa := Ext.alloc A (.row [.slice none 0 0, .int .i64 0] 37 false)
  by_cases hg : goodS n ks s
  · obtain ⟨m, rfl⟩ : ∃ m : Nat, n = m := ⟨n.toNat, by have := hg.1.1; omega⟩
    refine code16.call (by simp) fun hwf => ?_
    unfold c16
    simp
    refine CN.use (rall_good (c := c) (h.ext hwf xa) hg.1 hg.2) ?_
    rintro _ A1 hw1 hn1 ⟨x1, w, hb, vr, rfl, wb, R, rfl, rs⟩
    have g0 := x1 A.next (by simp)
    rw [AH.get_new] at g0
    simp only [AH.next_alloc] at hn1 rs
    have x2 : Ext A (A1.set A.next (.row [.slice none 0 0, .int .i64 0] 37 false)) := (xa.trans (by simp) x1).setnew (by omega) _
    by_cases b1 : t < 0
    · simp [b1, g0]
      exact DN.of (goal _ x2 (Or.inl ⟨rfl, by omega, rfl, rfl⟩))
    by_cases b2 : (m : Int) ≤ t
    · simp [b1, b2, g0]
      exact DN.of (goal _ x2 (Or.inl ⟨rfl, by omega, rfl, rfl⟩))
    by_cases b3 : t = s
    · subst b3
      simp [b1, b2, g0]
      exact DN.of (goal _ x2 (Or.inl ⟨rfl, by omega, rfl, rfl⟩))
    obtain ⟨u, rfl⟩ : ∃ u : Nat, t = u := ⟨t.toNat, by omega⟩
    have hu : u < m := by omega
    have hobt := rs.at hu
    obtain ⟨cs, af, cf, u1, u2, u3, u4, u5, u6, u7, u8, a9, c9, u9, -, u10, -⟩ := hobt
    simp only [List.cons.injEq, and_true] at u9
    by_cases hc : (w u).c < 0
    · simp [b1, b2, b3, u1, u5, u8, hu, hc, g0]
      exact DN.of ⟨x2, none, 0, [], 0, 8, rfl, Or.inr ⟨hg, ⟨by omega, by omega, b3⟩, w, hb, Or.inl ⟨rfl, hc, rfl, rfl⟩⟩, Sl.nil Pla.no _ _ _, by simp⟩
    · simp [b1, b2, b3, u1, u5, u6, u8, hu, hc, g0]
      refine DN.of ⟨(xa.trans (by simp) x1).setnew (by omega) _, af, cf, (w u).l, (w u).c, 0, rfl, Or.inr ⟨hg, ⟨by omega, by omega, b3⟩, w, hb, Or.inr ⟨rfl, by omega, rfl, rfl⟩⟩, u3.kept fun b o y hb hy => ?_, u4⟩
      injection u9 with u9 _ _
      have := u10 b o (by rw [← u9]; exact hb)
      rw [AH.get_set, if_neg (by omega)]
  · refine code16.call (by simp) fun hwf => ?_
    unfold c16
    simp
    refine CN.use (rall_bad (c := c) (h.ext hwf xa) hg) ?_
    rintro _ A1 hw1 hn1 ⟨x1, rfl⟩
    have g0 := x1 A.next (by simp)
    rw [AH.get_new] at g0
    simp [g0]
    exact DN.of (goal _ ((xa.trans (by simp) x1).setnew (by omega) _) (Or.inl ⟨rfl, fun hh => hg hh.1, rfl, rfl⟩))
end Go.Proofs.Ytolifpkbkjofaaa.AC
/- The laws of layer 11, walked. -/
namespace Go.Proofs.Ytolifpkbkjofaaa.AC
open Go Go.AI Go.Proofs Go.Proofs.Ytolifpkbkjofaaa.AQ
set_option linter.unusedVariables false
theorem RM.ext {A A' : AH} {n0 : Nat} {w : Int → Wy} {n : Nat} {vr vc : Value} (h : RM A n0 w n vr vc) (hw : A.wf) (hx : Ext A A') : RM A' n0 w n vr vc := by
  obtain ⟨rb, cb, S, h1, h2, h3, h4, h5, h6, h7⟩ := h
  refine ⟨rb, cb, S, h1, h2, h3, h4, (hx _ (hw _ _ h5)).trans h5, (hx _ (hw _ _ h6)).trans h6, fun u hu => ?_⟩
  have hobt := h7 u hu
  obtain ⟨a, c, k1, k2, k3, k4, k5⟩ := hobt
  exact ⟨a, c, k1, k2.ext hw hx, k3, k4.ext hw hx, k5⟩
theorem spfAll_walk {A : AH} {a : Option Addr} {c : Nat} {ks : List Lk} {n s : Int} (h : Sl A 53 5 a (ks.map Lk.enc)) :
    ACall Try.prog 4 [.int .i64 n, .slice a ks.length c, .int .i64 s] A fun v A' => v = .bool true := by
  refine code4.call (by simp) fun hwf => ?_
  unfold c4
  simp
  refine CN.use (alive_ok _) ?_
  rintro _ _ - - ⟨rfl, rfl⟩
  simp
  by_cases hl : (100 : Int) < ks.length
  · simp [hl]
    exact DN.of rfl
  simp [hl]
  by_cases hg : goodS n ks s
  · obtain ⟨m, rfl⟩ : ∃ m : Nat, n = m := ⟨n.toNat, by have := hg.1.1; omega⟩
    refine CN.use (all_good (c := c) h hg.1 hg.2) ?_
    rintro _ A1 hw1 hn1 ⟨x1, w, hb, vr, vc, rfl, hrm⟩
    simp
    refine CN.use (rall_good (c := c) (h.ext hwf x1) hg.1 hg.2) ?_
    rintro _ A2 hw2 hn2 ⟨x2, w', hb', vr', rfl, wb, R, rfl, rs⟩
    have hobt := hrm.ext hw1 x2
    obtain ⟨rb, cb, S, rfl, rfl, -, -, g1, g2, g3⟩ := hobt
    have hn16 := hg.1.2.1
    simp
    refine LN.use (fun mm E A' => ∃ k : Nat, mm + k = m ∧ A' = A2 ∧ E.get 7 = .slice (some ⟨rb, 0, none⟩) m m ∧ E.get 8 = .slice (some ⟨cb, 0, none⟩) m m ∧ E.get 10 = .slice (some ⟨wb, 0, none⟩) m UNK ∧ E.get 51 = .int .i64 m ∧ E.get 52 = .int .i64 k) m
      ⟨0, by omega, rfl, by simp, by simp, by simp, by simp, by simp⟩ ?_
    rintro mm E _ - - ⟨k, hk, rfl, E7, E8, E10, E51, E52⟩
    by_cases hlt : (k : Int) < m
    · have hkm : k < m := by omega
      have hobt := g3 k hkm
      obtain ⟨ax, cx, q1, q2, -, q4, q5⟩ := hobt
      have hobt := rs.at hkm
      obtain ⟨cs, af, cf, u1, u2, u3, u4, u5, u6, u7, u8, -⟩ := hobt
      have at1 := flat_one_at (S := S) hkm
      have at2 := flat_one_at (S := fun u : Nat => Value.int .i64 (w u).c) hkm
      have hobt := hb.same hb' (v := (k : Int)) (by omega) (by omega)
      obtain ⟨same1, same2⟩ := hobt
      have hgi : IntKind.i64.wrap ((k : Int) + 1) = ((k + 1 : Nat) : Int) := by rw [i64_in (by omega) (by omega)]; simp
      rw [← same2] at u3 u7 u4
      rw [← same1] at u8
      rw [q1] at at1
      generalize ((List.range m).map fun u => [S u]).flatten = cs1 at g1 at1
      generalize ((List.range m).map fun u : Nat => [Value.int .i64 (w u).c]).flatten = cs2 at g2 at2
      simp [E7, E8, E10, E51, E52, hlt, hkm, g1, g2, at1, at2, u1, u7, u8, hgi]
      refine CN.use (intsEq_ok (c := cx) (c' := cf) q2 u3 (by omega)) ?_
      rintro _ _ - - ⟨rfl, rfl⟩
      have hs : sameL (w k).l (w k).l = true := decide_eq_true rfl
      simp [E7, E8, E10, E51, E52, hlt, hkm, g1, g2, at1, at2, u1, u7, u8, hs, hgi]
      exact NX.of ⟨mm - 1, by omega, k + 1, by omega, rfl, by simp [E7], by simp [E8], by simp [E10], by simp [E51], by simp⟩
    · obtain rfl : m = k := by omega
      simp [E51, E52]
      exact DN.of rfl
  · refine CN.use (all_bad (c := c) h hg) ?_
    rintro _ A1 hw1 hn1 ⟨x1, rfl⟩
    simp
    refine CN.use (rall_bad (c := c) (h.ext hwf x1) hg) ?_
    rintro _ A2 hw2 hn2 ⟨x2, rfl⟩
    simp
    refine LN.use (fun mm E A' => E.get 51 = .int .i64 0 ∧ E.get 52 = .int .i64 0) 0 ⟨by simp, by simp⟩ ?_
    rintro mm E _ - - ⟨E51, E52⟩
    simp [E51, E52]
    exact DN.of rfl
set_option maxHeartbeats 2000000 in
theorem spfBest_walk {A : AH} {a : Option Addr} {c : Nat} {ks : List Lk} {n s t : Int} (h : Sl A 53 5 a (ks.map Lk.enc)) :
    ACall Try.prog 5 [.int .i64 n, .slice a ks.length c, .agg #[.int .i64 s, .int .i64 t]] A fun v A' => v = .bool true := by
  refine code5.call (by simp) fun hwf => ?_
  unfold c5
  have x0 := Ext.alloc A (.row [.int .i64 s, .int .i64 t] 22 false)
  have hw0 := AH.wf_alloc hwf (.row [.int .i64 s, .int .i64 t] 22 false)
  simp
  refine CN.use (alive_ok _) ?_
  rintro _ _ - - ⟨rfl, rfl⟩
  simp
  by_cases hl : (100 : Int) < ks.length
  · simp [hl]
    exact DN.of rfl
  simp [hl, AH.get_alloc]
  refine CN.use (best_ok (c := c) (h.ext hwf x0) n s t) ?_
  rintro _ A1 hw1 hn1 ⟨x1, a1, c1, l, x, e, rfl, hb, s1, -, k1, l1⟩
  have g1 := x1 A.next (by simp)
  rw [AH.get_new] at g1
  have h1 := (h.ext hwf x0).ext hw0 x1
  simp [g1]
  refine CN.use (rbest_ok (c := c) h1 n s t) ?_
  rintro _ A2 hw2 hn2 ⟨x2, a2, c2, l', x', e', rfl, hb', s2, l2⟩
  have hobt := hb.same hb'
  obtain ⟨rfl, rfl, rfl⟩ := hobt
  have g2 := x2.get hw1 g1
  simp only [AH.next_alloc] at hn1
  have hne : ¬ A.next = A2.next := by omega
  simp
  have x3 := Ext.alloc A2 (.row [.slice a2 l.length c2, .int .i64 x] 37 false)
  refine CN.use (intsEq_ok (c := c1) (c' := c2) ((s1.ext hw1 x2).ext hw2 x3) (s2.ext hw2 x3) (by omega)) ?_
  rintro _ A3 hw3 - ⟨rfl, hA3⟩
  have hs : sameL l l = true := decide_eq_true rfl
  have g3 : A3.get A2.next = some (.row [.slice a2 l.length c2, .int .i64 x] 37 false) := by rw [hA3, AH.get_new]
  simp [hs, g3]
  by_cases he : e = 0
  · subst he
    rcases hb with ⟨h0, _⟩ | ⟨hg, ht, w, hw, ⟨h0, _⟩ | ⟨-, hc, rfl, rfl⟩⟩
    · omega
    · omega
    have hobt := hw.path t ht.1 ht.2.1 hc
    obtain ⟨p1, p2⟩ := hobt
    have hx3 : Ext A1 A3 := by rw [hA3]; exact x2.trans hn2 x3
    have sr := s1.ext hw1 hx3
    have hlen := nodup_len n.toNat _ p2 fun y hy => by have := p1.rng hg.1 hg.2 y hy; omega
    have hn16 := hg.1.2.1
    have hne0 := p1.ne
    have hl0 : 0 < (w t).l.length := List.length_pos_iff.2 hne0
    have hl1 : (w t).l.length ≠ 1 := fun e => by
      have h1 := p1.ends hl0
      simp only [e] at h1
      exact ht.2.2 (h1.2.symm.trans h1.1)
    simp
    refine CN.use (route_ok (c := c) (c' := c1) (h1.ext hw1 hx3) hg.1 sr (k1.ext hw1 hx3) (by omega)) ?_
    rintro _ A4 hw4 - ⟨hA4, m, e, rfl, hr⟩
    subst hA4
    rcases hr with ⟨rfl, -, -, -, s', v', hw'⟩ | ⟨-, -, hno⟩
    · obtain rfl := p1.same_cost hg.1 hw'
      have hg4 := hx3.get hw1 g1
      have hobt := sr.one (Go.AI.ints_at (l := (w t).l) (i := 0) hl0)
      obtain ⟨b, o, cs, ro, ha1, y1, y2⟩ := hobt
      have hobt := sr.one (Go.AI.ints_at (l := (w t).l) (i := (w t).l.length - 1) (by omega))
      obtain ⟨b', o', cs', ro', ha1', y1', y2'⟩ := hobt
      subst ha1
      injection ha1' with ha1'
      injection ha1' with q1 q2 _
      subst q1 q2
      rw [y1] at y1'
      injection y1' with y1'
      injection y1' with y1' _ _
      subst y1'
      have hends := p1.ends hl0
      rw [hends.1] at y2
      rw [hends.2] at y2'
      have hwr : IntKind.i64.wrap (((w t).l.length : Int) - 1) = (((w t).l.length - 1 : Nat) : Int) := by rw [i64_in (by omega) (by omega)]; omega
      have hlt1 : (w t).l.length - 1 < (w t).l.length := by omega
      simp at y2
      simp [y1, y2, y2', hwr, hlt1, hl0, hg4]
      exact DN.of rfl
    · exact absurd ⟨by omega, by omega, p2, s, t, _, p1⟩ hno
  · simp [he]
    exact DN.of rfl
end Go.Proofs.Ytolifpkbkjofaaa.AC
/- More of the laws of layer 11, walked. -/
namespace Go.Proofs.Ytolifpkbkjofaaa.AC
open Go Go.AI Go.Proofs Go.Proofs.Ytolifpkbkjofaaa.AQ
set_option linter.unusedVariables false
theorem nodup_ne {l : List Int} (h : l.Nodup) {i j : Nat} (hi : i < l.length) (hj : j < l.length) (hij : i < j) : l[i] ≠ l[j] := List.pairwise_iff_getElem.1 h i j hi hj hij
/-- Each beginning of a best way is best. -/
theorem Best.begins {n s : Int} {ks : List Lk} {w : Int → Wy} (hg : goodN n ks) (hs : 0 ≤ s ∧ s < n) (h : Best n ks s w) : ∀ (m : Nat) (v : Int), 0 ≤ v → v < n → 0 ≤ (w v).c → (w v).l.length = m → ∀ k (hk : k < (w v).l.length), (w (w v).l[k]).l = (w v).l.take (k + 1) ∧ 0 ≤ (w (w v).l[k]).c := by
  intro m
  induction m with
  | zero => intro v h0 h1 hc hm k hk; omega
  | succ m ih =>
    intro v h0 h1 hc hm k hk
    rcases h.begin hg hs h0 h1 hc with ⟨e1, e2, e3⟩ | ⟨i, hi, ht, hcu, e1, e2⟩
    · subst e1
      have hk0 : k = 0 := by rw [e2] at hk; simpa using hk
      subst hk0
      have : (w v).l[0] = v := by simp [e2]
      rw [this]
      exact ⟨by rw [List.take_of_length_le (by rw [e2]; simp)], hc⟩
    · have hl := hg.link hi
      have hlu : (w (lk ks i).f).l.length = m := by rw [e1] at hm; simpa using hm
      by_cases hkm : k = m
      · have : (w v).l[k] = v := by
          simp only [e1, hkm]
          rw [List.getElem_append_right (by omega)]
          simp
        rw [this]
        exact ⟨by rw [List.take_of_length_le (by omega)], hc⟩
      · have hk2 : k < (w (lk ks i).f).l.length := by omega
        have hx : (w v).l[k] = (w (lk ks i).f).l[k] := by
          simp only [e1]
          rw [List.getElem_append_left hk2]
        have := ih _ hl.1 hl.2.1 hcu hlu k hk2
        rw [hx]
        refine ⟨?_, this.2⟩
        rw [this.1, e1, List.take_append_of_le_length (by omega)]
/-- And each costs more. -/
theorem Best.rises {n s : Int} {ks : List Lk} {w : Int → Wy} (hg : goodN n ks) (hs : 0 ≤ s ∧ s < n) (h : Best n ks s w) {v : Int} (h0 : 0 ≤ v) (h1 : v < n) (hc : 0 ≤ (w v).c) {k : Nat} (hk : k + 1 < (w v).l.length) : (w (w v).l[k]).c < (w (w v).l[k + 1]).c ∧ 0 ≤ (w v).l[k + 1] ∧ (w v).l[k + 1] < n ∧ (w v).l[k + 1] ≠ s := by
  have hobt := h.path v h0 h1 hc
  obtain ⟨p1, p2⟩ := hobt
  have hobt := h.begins hg hs _ v h0 h1 hc rfl (k + 1) hk
  obtain ⟨b1, b2⟩ := hobt
  have hobt := h.begins hg hs _ v h0 h1 hc rfl k (by omega)
  obtain ⟨b3, b4⟩ := hobt
  have hr := p1.rng hg hs _ (List.getElem_mem hk)
  have hns : (w v).l[k + 1] ≠ s := fun e => by
    have hends := p1.ends (by omega)
    exact nodup_ne p2 (i := 0) (j := k + 1) (by omega) hk (by omega) (by rw [e, hends.1])
  refine ⟨?_, hr.1, hr.2, hns⟩
  rcases h.begin hg hs hr.1 hr.2 b2 with ⟨e1, -⟩ | ⟨i, hi, ht, hcu, e1, e2⟩
  · exact absurd e1 hns
  · have hl := hg.link hi
    rw [b1, List.take_succ_eq_append_getElem hk] at e1
    have hlu := List.append_inj_left' e1 rfl
    have hu := (h.path _ hl.1 hl.2.1 hcu).1.last
    rw [← hlu, List.getLast?_eq_getElem?, List.length_take, Nat.min_eq_left (by omega), List.getElem?_take, if_pos (by omega), List.getElem?_eq_getElem (by omega)] at hu
    injection hu with hu
    simp only [Nat.add_sub_cancel] at hu
    rw [hu, e2]
    omega
set_option maxHeartbeats 2000000 in
theorem spfNone_walk {A : AH} {a a' : Option Addr} {c c' : Nat} {ks : List Lk} {l : List Int} {n : Int} (h : Sl A 53 5 a (ks.map Lk.enc)) (h' : Sl A 3 1 a' (ints l)) (hc' : CapOk A 3 a' l.length c') :
    ACall Try.prog 6 [.int .i64 n, .slice a ks.length c, .slice a' l.length c'] A fun v A' => v = .bool true := by
  refine code6.call (by simp) fun hwf => ?_
  unfold c6
  simp
  refine CN.use (alive_ok _) ?_
  rintro _ _ - - ⟨rfl, rfl⟩
  simp
  by_cases hl : (100 : Int) < ks.length
  · simp [hl]
    exact DN.of rfl
  by_cases hl2 : (100 : Int) < l.length
  · simp [hl, hl2]
    exact DN.of rfl
  simp [hl, hl2]
  refine CN.use (rcheck_ok (c := c) h n) ?_
  rintro _ A1 hw1 hn1 ⟨x1, r, rfl, hr⟩
  by_cases hr0 : r = 0
  rotate_left
  · simp [hr0, hl, hl2]
    exact DN.of rfl
  have hg := hr.zero.1 hr0
  have h1 := h.ext hwf x1
  have h1' := h'.ext hwf x1
  simp [hr0, hl, hl2]
  refine CN.use (route_ok (c := c) (c' := c') h1 hg h1' (hc'.ext hwf x1) (by omega)) ?_
  rintro _ A2 hw2 - ⟨hA2, m, e, rfl, hrt⟩
  subst hA2
  rcases hrt with ⟨rfl, hlen2, hlen16, hnd, s, t, hw⟩ | ⟨rfl, -, -⟩
  rotate_left
  · simp
    exact DN.of rfl
  have hl0 : 0 < l.length := by omega
  have hobt := h1'.one (Go.AI.ints_at (l := l) (i := 0) hl0)
  obtain ⟨b, o, cs, ro, ha1, y1, y2⟩ := hobt
  have hobt := h1'.one (Go.AI.ints_at (l := l) (i := l.length - 1) (by omega))
  obtain ⟨b', o', cs', ro', ha1', y1', y2'⟩ := hobt
  subst ha1
  injection ha1' with ha1'
  injection ha1' with q1 q2 _
  subst q1 q2
  rw [y1] at y1'
  injection y1' with y1'
  injection y1' with y1' _ _
  subst y1'
  have hends := hw.ends hl0
  rw [hends.1] at y2
  rw [hends.2] at y2'
  have hwr : IntKind.i64.wrap ((l.length : Int) - 1) = ((l.length - 1 : Nat) : Int) := by rw [i64_in (by omega) (by omega)]; omega
  have hlt1 : l.length - 1 < l.length := by omega
  simp at y2
  simp [y1, y2, y2', hwr, hlt1, hl0]
  refine CN.use (best_ok (c := c) h1 n s t) ?_
  rintro _ A3 hw3 hn3 ⟨x3, a3, c3, l3, x, e, rfl, hb, s3, -, k3, l3'⟩
  have hst : t ≠ s := fun e => by
    exact nodup_ne hnd (i := 0) (j := l.length - 1) hl0 hlt1 (by omega) (by rw [hends.1, hends.2, e])
  have hsr : 0 ≤ s ∧ s < n := by
    have hobt := hw.step 1 (by omega) (by omega)
    obtain ⟨i, hi, hs1, hs2⟩ := hobt
    have hl := hg.link hi
    have : l[1 - 1] = s := hends.1
    rw [this] at hs1
    omega
  have htr := hw.rng hg hsr t hw.last'
  rcases hb with ⟨-, hno, -⟩ | ⟨-, -, w, hB, hcase⟩
  · exact absurd ⟨⟨hg, hsr⟩, htr.1, htr.2, hst⟩ hno
  have hobt := hB.least t l m hw
  obtain ⟨q1, q2⟩ := hobt
  rcases hcase with ⟨-, hneg, -⟩ | ⟨rfl, -, rfl, rfl⟩
  · omega
  have q2' : betB m l (w t).c (w t).l = false := q2
  simp
  refine CN.use (rbetter_ok (c := c') (c' := c3) (h1'.ext hw2 x3) s3 (by omega) m (w t).c) ?_
  rintro _ _ - - ⟨rfl, rfl⟩
  simp [q2']
  exact DN.of rfl
end Go.Proofs.Ytolifpkbkjofaaa.AC
/- The last laws of layer 11, walked. -/
namespace Go.Proofs.Ytolifpkbkjofaaa.AC
open Go Go.AI Go.Proofs Go.Proofs.Ytolifpkbkjofaaa.AQ
set_option linter.unusedVariables false
set_option maxHeartbeats 2000000 in
theorem spfReaches_walk {A : AH} {a : Option Addr} {c : Nat} {ks : List Lk} {n s : Int} (h : Sl A 53 5 a (ks.map Lk.enc)) :
    ACall Try.prog 8 [.int .i64 n, .slice a ks.length c, .int .i64 s] A fun v A' => v = .bool true := by
  refine code8.call (by simp) fun hwf => ?_
  unfold c8
  simp
  refine CN.use (alive_ok _) ?_
  rintro _ _ - - ⟨rfl, rfl⟩
  simp
  by_cases hl : (100 : Int) < ks.length
  · simp [hl]
    exact DN.of rfl
  simp [hl]
  by_cases hg : goodS n ks s
  · obtain ⟨m, rfl⟩ : ∃ m : Nat, n = m := ⟨n.toNat, by have := hg.1.1; omega⟩
    refine CN.use (all_good (c := c) h hg.1 hg.2) ?_
    rintro _ A1 hw1 hn1 ⟨x1, w, hb, vr, vc, rfl, hrm⟩
    simp
    refine CN.use (reach_ok (c := c) (h.ext hwf x1) hg.1 hg.2) ?_
    rintro _ A2 hw2 hn2 ⟨x2, bb, r, rfl, gb, ra, rb'⟩
    have hobt := hrm.ext hw1 x2
    obtain ⟨rb, cb, S, rfl, rfl, -, -, g1, g2, g3⟩ := hobt
    have hn16 := hg.1.2.1
    simp
    refine LN.use (fun mm E A' => ∃ k : Nat, mm + k = m ∧ A' = A2 ∧ E.get 7 = .slice (some ⟨rb, 0, none⟩) m m ∧ E.get 8 = .slice (some ⟨cb, 0, none⟩) m m ∧ E.get 10 = .slice (some ⟨bb, 0, none⟩) m m ∧ E.get 57 = .int .i64 m ∧ E.get 58 = .int .i64 k) m
      ⟨0, by omega, rfl, by simp, by simp, by simp, by simp, by simp⟩ ?_
    rintro mm E _ - - ⟨k, hk, rfl, E7, E8, E10, E57, E58⟩
    by_cases hlt : (k : Int) < m
    · have hkm : k < m := by omega
      have hobt := g3 k hkm
      obtain ⟨ax, cx, q1, q2, -, q4, q5⟩ := hobt
      have at1 := flat_one_at (S := S) hkm
      have at2 := flat_one_at (S := fun u : Nat => Value.int .i64 (w u).c) hkm
      have at3 := flat_one_at (S := fun u : Nat => Value.bool (r u)) hkm
      have hgi : IntKind.i64.wrap ((k : Int) + 1) = ((k + 1 : Nat) : Int) := by rw [i64_in (by omega) (by omega)]; simp
      have hiff : (0 ≤ (w k).c ↔ r k = true) ∧ ((0 : Int) < (w k).l.length ↔ r k = true) := by
        have hA : 0 ≤ (w k).c → r k = true := fun hc => by
          have h1 := hb.path k (by omega) (by omega) hc
          have h2 := nodup_len m _ h1.2 fun y hy => h1.1.rng hg.1 hg.2 y hy
          have := rb' k _ _ h1.1 (by omega)
          simpa using this
        have hB : r k = true → 0 ≤ (w k).c := fun hr => by
          have hobt := ra k hkm hr
          obtain ⟨l', c', hw⟩ := hobt
          exact (hb.least _ _ _ hw).1
        refine ⟨⟨hA, hB⟩, fun hl => ?_, fun hr => ?_⟩
        · by_cases hc : 0 ≤ (w k).c
          · exact hA hc
          · rw [(hb.none k (by omega) (by omega) (by omega)).2] at hl; simp at hl
        · have h1 := (hb.path k (by omega) (by omega) (hB hr)).1.ne
          have := List.length_pos_iff.2 h1
          omega
      rw [q1] at at1
      generalize ((List.range m).map fun u => [S u]).flatten = cs1 at g1 at1
      generalize ((List.range m).map fun u : Nat => [Value.int .i64 (w u).c]).flatten = cs2 at g2 at2
      generalize ((List.range m).map fun u : Nat => [Value.bool (r u)]).flatten = cs3 at gb at3
      cases hrk : r k with
      | true =>
        have h1 := hiff.1.2 hrk
        have h2 := hiff.2.2 hrk
        have h3 : (w k).l ≠ [] := fun e => by rw [e] at h2; simp at h2
        have h4 : ¬ (w k).c < 0 := by omega
        rw [hrk] at at3
        simp [E7, E8, E10, E57, E58, hlt, hkm, g1, g2, gb, at1, at2, at3, h1, h2, h3, h4, hgi]
        exact NX.of ⟨mm - 1, by omega, k + 1, by omega, rfl, by simp [E7], by simp [E8], by simp [E10], by simp [E57], by simp⟩
      | false =>
        have h1 : ¬ 0 ≤ (w k).c := fun e => by rw [hiff.1.1 e] at hrk; cases hrk
        have h2 : ¬ (0 : Int) < (w k).l.length := fun e => by rw [hiff.2.1 e] at hrk; cases hrk
        have h3 : (w k).l = [] := List.eq_nil_of_length_eq_zero (by omega)
        have h4 : (w k).c < 0 := by omega
        rw [hrk] at at3
        simp [E7, E8, E10, E57, E58, hlt, hkm, g1, g2, gb, at1, at2, at3, h1, h2, h3, h4, hgi]
        exact NX.of ⟨mm - 1, by omega, k + 1, by omega, rfl, by simp [E7], by simp [E8], by simp [E10], by simp [E57], by simp⟩
    · obtain rfl : m = k := by omega
      simp [E57, E58]
      exact DN.of rfl
  · refine CN.use (all_bad (c := c) h hg) ?_
    rintro _ A1 hw1 hn1 ⟨x1, rfl⟩
    simp
    refine CN.use (reach_bad (c := c) (h.ext hwf x1) hg) ?_
    rintro _ A2 hw2 hn2 ⟨x2, rfl⟩
    simp
    exact DN.of rfl
set_option maxHeartbeats 2000000 in
theorem spfParts_walk {A : AH} {a : Option Addr} {c : Nat} {ks : List Lk} {n s t : Int} (h : Sl A 53 5 a (ks.map Lk.enc)) :
    ACall Try.prog 7 [.int .i64 n, .slice a ks.length c, .agg #[.int .i64 s, .int .i64 t]] A fun v A' => v = .bool true := by
  refine code7.call (by simp) fun hwf => ?_
  unfold c7
  have x0 := Ext.alloc A (.row [.int .i64 s, .int .i64 t] 22 false)
  have hw0 := AH.wf_alloc hwf (.row [.int .i64 s, .int .i64 t] 22 false)
  simp
  refine CN.use (alive_ok _) ?_
  rintro _ _ - - ⟨rfl, rfl⟩
  simp
  by_cases hl : (100 : Int) < ks.length
  · simp [hl]
    exact DN.of rfl
  simp [hl, AH.get_alloc]
  refine CN.use (best_ok (c := c) (h.ext hwf x0) n s t) ?_
  rintro _ A1 hw1 hn1 ⟨x1, a1, c1, l, x, e, rfl, hb, s1, -, k1, l1⟩
  have g1 := x1 A.next (by simp)
  rw [AH.get_new] at g1
  have h1 := (h.ext hwf x0).ext hw0 x1
  rcases hb with ⟨rfl, -, rfl, rfl⟩ | ⟨hg, ht, w, hB, ⟨rfl, -, rfl, rfl⟩ | ⟨rfl, hc, rfl, rfl⟩⟩
  · simp
    exact DN.of rfl
  · simp
    exact DN.of rfl
  have hobt := hB.path t ht.1 ht.2.1 hc
  obtain ⟨p1, p2⟩ := hobt
  have hne := p1.ne
  have hl0 : 0 < (w t).l.length := List.length_pos_iff.2 hne
  have hends := p1.ends hl0
  have hsrc := hB.source hg.1 hg.2
  simp
  have hk0 : (w ((w t).l[1 - 1]'(by omega))).c = 0 := by
    rw [show (w t).l[1 - 1]'(by omega) = s from hends.1]; exact hsrc.1
  refine LN.use (fun mm E A' => ∃ (k : Nat) (hk : k < (w t).l.length), mm + k + 1 = (w t).l.length ∧ Ext A1 A' ∧ E.get 0 = .int .i64 n ∧ E.get 1 = .slice a ks.length c ∧ E.get 5 = .pointer (some ⟨A.next, 0, none⟩) ∧ E.get 7 = .slice a1 (w t).l.length c1 ∧ E.get 8 = .int .i64 (w t).c ∧ E.get 10 = .int .i64 (w (w t).l[k]).c ∧ E.get 11 = .int .i64 (k + 1 : Nat)) ((w t).l.length - 1)
    ⟨0, hl0, by omega, Ext.refl A1, by simp, by simp, by simp, by simp, by simp, by simp; exact hk0.symm, by simp⟩ ?_
  rintro mm E A2 hw2 hn2 ⟨k, hk, hmm, x2, E0, E1, E5, E7, E8, E10, E11⟩
  by_cases hlt : ((k : Int) + 1) < (w t).l.length
  · have hlt' : k + 1 < (w t).l.length := by omega
    have hobt := hB.rises hg.1 hg.2 ht.1 ht.2.1 hc hlt'
    obtain ⟨r1, r2, r3, r4⟩ := hobt
    have hobt := hB.begins hg.1 hg.2 _ t ht.1 ht.2.1 hc rfl (k + 1) hlt'
    obtain ⟨b1, b2⟩ := hobt
    have s2 := s1.ext hw1 x2
    have hobt := s2.one (Go.AI.ints_at (l := (w t).l) (i := k + 1) hlt')
    obtain ⟨b, o, cs, ro, ha1, y1, y2⟩ := hobt
    subst ha1
    have g2 := x2.get hw1 g1
    have k2 := k1.ext hw1 x2
    have hcast : ((k + 1 : Nat) : Int) = (k : Int) + 1 := by omega
    simp [E0, E1, E5, E7, E11, hlt, hlt', g2, y1, y2]
    refine ⟨by omega, ?_⟩
    refine CN.use (best_ok (c := c) (h1.ext hw1 x2) n s _) ?_
    rintro _ A3 hw3 hn3 ⟨x3, a3, c3, l3, y, e, rfl, hb3, s3, -, k3, l3'⟩
    rcases hb3 with ⟨-, hno, -⟩ | ⟨-, -, w', hB', hcase⟩
    · exact absurd ⟨hg, r2, r3, r4⟩ hno
    have hobt := hB.same hB' r2 r3
    obtain ⟨same1, same2⟩ := hobt
    rcases hcase with ⟨-, hneg, -⟩ | ⟨rfl, -, rfl, rfl⟩
    · omega
    rw [← same2] at s3 l3'
    rw [← same2, ← same1]
    have s23 := s2.ext hw2 x3
    have y3 := x3.get hw2 y1
    have hwr : IntKind.i64.wrap ((k : Int) + 1 + 1) = ((k + 1 + 1 : Nat) : Int) := by rw [i64_in (by omega) (by omega)]; simp
    have hs := slW_pre (o := o) (h := k + 1 + 1) (n := (w t).l.length) (c := c1) (k := .i64) (z := 1) y3 (by omega) (CapOk.pre (k2.ext hw2 x3) y3)
    rw [show ((k + 1 + 1 : Nat) : Int) = (k : Int) + 1 + 1 from by omega] at hs
    have hpre : Sl A3 3 1 (some ⟨b, o, none⟩) (ints ((w t).l.take (k + 1 + 1))) := s23.pre (k := k + 1 + 1) (by simp [ints])
    have hlk : ((w t).l.take (k + 1 + 1)).length = k + 1 + 1 := by simp <;> omega
    have hie := intsEq_ok (c := c3) (c' := c1) s3 hpre (by omega)
    rw [hlk] at hie
    have hss : sameL (w (w t).l[k + 1]).l ((w t).l.take (k + 1 + 1)) = true := decide_eq_true b1
    have hr1 : ¬ (w (w t).l[k + 1]).c ≤ (w (w t).l[k]).c := by omega
    simp [E7, E10, E11, hwr, hs]
    refine CN.use hie ?_
    rintro _ _ - - ⟨rfl, rfl⟩
    simp [hss, E10, E11, hr1, hwr]
    exact NX.of ⟨mm - 1, by omega, k + 1, hlt', by omega, x2.trans hn2 x3, by simp [E0], by simp [E1], by simp [E5], by simp [E7], by simp [E8], by simp, by simp⟩
  · obtain rfl : k = (w t).l.length - 1 := by omega
    have hcast : (((w t).l.length - 1 + 1 : Nat) : Int) = (w t).l.length := by omega
    rw [hcast] at E11
    rw [hends.2] at E10
    simp [E7, E8, E10, E11]
    exact DN.of rfl
end Go.Proofs.Ytolifpkbkjofaaa.AC
