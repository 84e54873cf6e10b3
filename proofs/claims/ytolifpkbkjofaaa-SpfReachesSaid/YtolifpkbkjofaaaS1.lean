/-
  What the functions of the program, and those of the law, do.
-/
import Derived.Test.YtolifpkbkjofaaaCAQ
import Derived.Test.YtolifpkbkjofaaaCAC
import Derived.Test.YtolifpkbkjofaaaP2
import Derived.Test.YtolifpkbkjofaaaCAT
import Derived.Test.YtolifpkbkjofaaaP3
set_option linter.unusedSimpArgs false
set_option linter.unusedVariables false
/- Contracts of cmp's functions. -/
namespace Go.Proofs.Ytolifpkbkjofaaa.AC
open Go Go.AI Go.Proofs Go.Proofs.Ytolifpkbkjofaaa.AQ
set_option linter.unusedVariables false
theorem isNaN_ok (n : Int) (A : AH) : ACall Try.prog 37 [.int .i64 n] A fun v A' => v = .bool false ∧ A' = A := by
  refine code37.call (by simp) fun hwf => ?_
  unfold c37
  simp
  exact DN.of ⟨rfl, rfl⟩
def cmpI (a b : Int) : Int := if a < b then -1 else if b < a then 1 else 0
theorem compare_ok (a b : Int) (A : AH) : ACall Try.prog 30 [.int .i64 a, .int .i64 b] A fun v A' => v = .int .i64 (cmpI a b) ∧ A' = A := by
  refine code30.call (by simp) fun hwf => ?_
  unfold c30
  simp
  refine CN.use (isNaN_ok a A) ?_
  rintro _ _ - - ⟨rfl, rfl⟩
  simp
  refine CN.use (isNaN_ok b _) ?_
  rintro _ _ - - ⟨rfl, rfl⟩
  simp
  split
  · exact DN.of (by simp [cmpI, *])
  · split <;> exact DN.of (by simp [cmpI, *])
end Go.Proofs.Ytolifpkbkjofaaa.AC
/- Lists of numbers, compared. -/
namespace Go.Proofs.Ytolifpkbkjofaaa.AC
open Go Go.AI Go.Proofs Go.Proofs.Ytolifpkbkjofaaa.AQ
set_option linter.unusedVariables false
def cmpL : List Int → List Int → Int
  | [], [] => 0
  | [], _ :: _ => -1
  | _ :: _, [] => 1
  | a :: xs, b :: ys => if cmpI a b ≠ 0 then cmpI a b else cmpL xs ys
theorem cmpI_zero {a b : Int} : cmpI a b = 0 ↔ a = b := by unfold cmpI; split <;> (try split) <;> omega
theorem cmpI_neg (a b : Int) : cmpI b a = - cmpI a b := by unfold cmpI; split <;> split <;> omega
theorem cmpL_zero : ∀ {a b : List Int}, cmpL a b = 0 ↔ a = b
  | [], [] => by simp [cmpL]
  | [], _ :: _ => by simp [cmpL]
  | _ :: _, [] => by simp [cmpL]
  | a :: xs, b :: ys => by
    unfold cmpL
    split
    · rename_i h; constructor
      · intro e; exact absurd e h
      · intro e; injection e with e _; exact absurd (cmpI_zero.2 e) h
    · rename_i h
      have h := cmpI_zero.1 (Classical.not_not.1 h)
      rw [cmpL_zero, h]; simp
theorem cmpL_neg : ∀ (a b : List Int), cmpL b a = - cmpL a b
  | [], [] => rfl
  | [], _ :: _ => rfl
  | _ :: _, [] => rfl
  | a :: xs, b :: ys => by
    unfold cmpL
    rw [cmpI_neg a b, cmpL_neg xs ys]
    by_cases h : cmpI a b = 0
    · simp [h]
    · simp [h]
theorem cmpL_drop {a b : List Int} {k : Nat} (ha : k < a.length) (hb : k < b.length) : cmpL (a.drop k) (b.drop k) = if cmpI a[k] b[k] ≠ 0 then cmpI a[k] b[k] else cmpL (a.drop (k + 1)) (b.drop (k + 1)) := by
  rw [List.drop_eq_getElem_cons ha, List.drop_eq_getElem_cons hb]; rfl
theorem compareL_ok {A : AH} {a a' : Option Addr} {c c' : Nat} {l l' : List Int} (h : Sl A 3 1 a (ints l)) (h' : Sl A 3 1 a' (ints l')) (hl : l.length ≤ 1000000000) (hl' : l'.length ≤ 1000000000) :
    ACall Try.prog 20 [.slice a l.length c, .slice a' l'.length c'] A fun v A' => v = .int .i64 (cmpL l l') ∧ A' = A := by
  refine code20.call (by simp) fun hwf => ?_
  unfold c20
  simp
  refine LN.use (fun m E A' => ∃ k : Nat, m + k = l.length ∧ k ≤ l'.length ∧ A' = A ∧ E.get 0 = .slice a l.length c ∧ E.get 1 = .slice a' l'.length c' ∧ E.get 9 = .slice a l.length c ∧ E.get 10 = .int .i64 l.length ∧ E.get 11 = .int .i64 k ∧ cmpL l l' = cmpL (l.drop k) (l'.drop k)) l.length
    ⟨0, by simp, by simp, rfl, by simp, by simp, by simp, by simp, by simp, by simp⟩ ?_
  rintro m E _ - - ⟨k, hk, hk', rfl, e0, e1, e9, e10, e11, hI⟩
  simp [e10, e11]
  split
  · rename_i hlt
    have hobt := h.one (Go.AI.ints_at (l := l) (i := k) (by omega))
    obtain ⟨b, o, cs, ro, rfl, h1, h2⟩ := hobt
    by_cases hlt' : k < l'.length
    · obtain ⟨b', o', cs', ro', rfl, h3, h4⟩ := h'.one (Go.AI.ints_at (l := l') (i := k) (by omega))
      have hn : ¬ (l'.length : Int) ≤ k := by omega
      simp [e1, e9, e11, hlt, hlt', h1, h2, h3, h4, hn]
      refine CN.use (compare_ok _ _ _) ?_
      rintro _ A - - ⟨rfl, rfl⟩
      simp [e11]
      rw [cmpL_drop hlt hlt'] at hI
      split
      · rename_i hz
        rw [if_neg (by simp [hz])] at hI
        exact NX.of ⟨m - 1, by omega, k + 1, by omega, by omega, rfl, by simp [e0], by simp [e1], by simp [e9], by simp [e10], by simp [i64_in (x := (k : Int) + 1) (by omega) (by omega)], hI⟩
      · rename_i hz
        rw [if_pos hz] at hI
        exact DN.of ⟨by rw [hI], rfl⟩
    · have hn : (l'.length : Int) ≤ k := by omega
      simp [e1, e9, e11, hlt, h1, h2, hn]
      have hd : l'.drop k = [] := List.drop_eq_nil_of_le (by omega)
      rw [hd, List.drop_eq_getElem_cons hlt] at hI
      exact DN.of ⟨by rw [hI]; rfl, rfl⟩
  · rename_i hlt
    have hd : l.drop k = [] := List.drop_eq_nil_of_le (by omega)
    rw [hd] at hI
    simp [e0, e1]
    split
    · rename_i hlt2
      have hd2 : ∃ x xs, l'.drop k = x :: xs := ⟨_, _, List.drop_eq_getElem_cons (by omega)⟩
      obtain ⟨x, xs, hd2⟩ := hd2
      rw [hd2] at hI
      exact DN.of ⟨by rw [hI]; rfl, rfl⟩
    · rename_i hlt2
      have hd2 : l'.drop k = [] := List.drop_eq_nil_of_le (by omega)
      rw [hd2] at hI
      exact DN.of ⟨by rw [hI]; rfl, rfl⟩
def sameL (l l' : List Int) : Bool := decide (l = l')
theorem intsEq_ok {A : AH} {a a' : Option Addr} {c c' : Nat} {l l' : List Int} (h : Sl A 3 1 a (ints l)) (h' : Sl A 3 1 a' (ints l')) (hl : l.length ≤ 1000000000) :
    ACall Try.prog 11 [.slice a l.length c, .slice a' l'.length c'] A fun v A' => v = .bool (sameL l l') ∧ A' = A := by
  refine code11.call (by simp) fun hwf => ?_
  unfold c11
  simp
  by_cases hlenI : (l.length : Int) = l'.length
  · have hlen : l.length = l'.length := by omega
    simp [hlenI]
    refine LN.use (fun m E A' => ∃ k : Nat, m + k = l'.length ∧ A' = A ∧ E.get 0 = .slice a l.length c ∧ E.get 1 = .slice a' l'.length c' ∧ E.get 5 = .int .i64 k ∧ l.take k = l'.take k) l'.length
      ⟨0, by simp, rfl, by simp, by simp, by simp, by simp⟩ ?_
    rintro m E _ - - ⟨k, hk, rfl, e0, e1, e5, hI⟩
    simp [e0, e5, hlenI]
    split
    · rename_i hlt
      have hobt := h.one (Go.AI.ints_at (l := l) (i := k) (by omega))
      obtain ⟨b, o, cs, ro, ha, h1, h2⟩ := hobt
      have hobt := h'.one (Go.AI.ints_at (l := l') (i := k) hlt)
      obtain ⟨b', o', cs', ro', ha', h3, h4⟩ := hobt
      subst ha; subst ha'; have hlt2 : k < l.length := by omega
      simp [e0, e1, e5, h1, h2, h3, h4, hlt, hlt2]
      split
      · rename_i he
        refine NX.of ⟨m - 1, by omega, k + 1, by omega, rfl, by simp [e0], by simp [e1], by simp [i64_in (x := (k : Int) + 1) (by omega) (by omega)], ?_⟩
        rw [List.take_succ_eq_append_getElem hlt, List.take_succ_eq_append_getElem (by omega : k < l.length), hI, he]
      · rename_i he
        exact DN.of ⟨by congr 1; symm; simp only [sameL, decide_eq_false_iff_not]; intro e; subst e; exact he rfl, rfl⟩
    · rename_i hlt
      rw [List.take_of_length_le (by omega), List.take_of_length_le (by omega)] at hI
      exact DN.of ⟨by congr 1; symm; simp only [sameL, decide_eq_true_eq]; exact hI, rfl⟩
  · simp [hlenI]
    exact DN.of ⟨by congr 1; symm; simp only [sameL, decide_eq_false_iff_not]; intro e; exact hlenI (by rw [e]), rfl⟩
/-- Is a route of a cost better than another one? -/
def betB (c : Int) (l : List Int) (c' : Int) (l' : List Int) : Bool := if c ≠ c' then decide (c < c') else if l.length ≠ l'.length then decide (l.length < l'.length) else decide (cmpL l l' < 0)
theorem better_ok {A : AH} {a a' : Option Addr} {c c' : Nat} {l l' : List Int} (h : Sl A 3 1 a (ints l)) (h' : Sl A 3 1 a' (ints l')) (hl : l.length ≤ 1000000000) (hl' : l'.length ≤ 1000000000) (x y : Int) :
    ACall Try.prog 10 [.int .i64 x, .slice a l.length c, .int .i64 y, .slice a' l'.length c'] A fun v A' => v = .bool (betB x l y l') ∧ A' = A := by
  refine code10.call (by simp) fun hwf => ?_
  unfold c10
  simp
  by_cases hxy : x = y
  rotate_left
  · simp [hxy]
    exact DN.of ⟨by simp [betB, hxy], rfl⟩
  by_cases hlenI : (l.length : Int) = l'.length
  rotate_left
  · simp [hxy, hlenI]
    exact DN.of ⟨by have : l.length ≠ l'.length := fun e => hlenI (by rw [e])
                    simp [betB, hxy, this], rfl⟩
  simp [hxy, hlenI]
  have hc := compareL_ok (c := c) (c' := c') h h' hl hl'
  have hlen : l.length = l'.length := by omega
  refine CN.use hc ?_
  rintro _ A - - ⟨rfl, rfl⟩
  simp
  exact DN.of ⟨by simp [betB, hxy, hlen], rfl⟩
theorem rbetter_ok {A : AH} {a a' : Option Addr} {c c' : Nat} {l l' : List Int} (h : Sl A 3 1 a (ints l)) (h' : Sl A 3 1 a' (ints l')) (hl : l.length ≤ 1000000000) (x y : Int) :
    ACall Try.prog 12 [.int .i64 x, .slice a l.length c, .int .i64 y, .slice a' l'.length c'] A fun v A' => v = .bool (betB x l y l') ∧ A' = A := by
  refine code12.call (by simp) fun hwf => ?_
  unfold c12
  simp
  by_cases hxy : x = y
  rotate_left
  · simp [hxy]
    exact DN.of ⟨by simp [betB, hxy], rfl⟩
  by_cases hlenI : (l.length : Int) = l'.length
  rotate_left
  · simp [hxy, hlenI]
    exact DN.of ⟨by have : l.length ≠ l'.length := fun e => hlenI (by rw [e])
                    simp [betB, hxy, this], rfl⟩
  have hlen : l.length = l'.length := by omega
  simp [hxy, hlenI]
  refine LN.use (fun m E A' => ∃ k : Nat, m + k = l'.length ∧ A' = A ∧ E.get 1 = .slice a l.length c ∧ E.get 3 = .slice a' l'.length c' ∧ E.get 9 = .int .i64 k ∧ cmpL l l' = cmpL (l.drop k) (l'.drop k)) l'.length
    ⟨0, by simp, rfl, by simp, by simp, by simp, by simp⟩ ?_
  rintro m E _ - - ⟨k, hk, rfl, e1, e3, e9, hI⟩
  simp [e1, e9, hlenI]
  split
  · rename_i hlt
    have hobt := h.one (Go.AI.ints_at (l := l) (i := k) (by omega))
    obtain ⟨b, o, cs, ro, ha, h1, h2⟩ := hobt
    have hobt := h'.one (Go.AI.ints_at (l := l') (i := k) hlt)
    obtain ⟨b', o', cs', ro', ha', h3, h4⟩ := hobt
    subst ha; subst ha'; have hlt2 : k < l.length := by omega
    simp [e1, e3, e9, h1, h2, h3, h4, hlt, hlt2]
    rw [cmpL_drop (by omega) hlt] at hI
    split
    · rename_i he
      rw [if_neg (by simp [cmpI_zero.2 he])] at hI
      exact NX.of ⟨m - 1, by omega, k + 1, by omega, rfl, by simp [e1], by simp [e3], by simp [i64_in (x := (k : Int) + 1) (by omega) (by omega)], hI⟩
    · rename_i he
      rw [if_pos (fun e => he (cmpI_zero.1 e))] at hI
      refine DN.of ⟨?_, rfl⟩
      congr 1
      simp only [betB, hxy, hlen, hI, ne_eq, not_true, if_false]
      apply decide_eq_decide.2
      unfold cmpI; split <;> (try split) <;> omega
  · rename_i hlt
    have hd : l.drop k = [] := List.drop_eq_nil_of_le (by omega)
    have hd2 : l'.drop k = [] := List.drop_eq_nil_of_le (by omega)
    rw [hd, hd2] at hI
    exact DN.of ⟨by simp [betB, hxy, hlen, hI, cmpL], rfl⟩
end Go.Proofs.Ytolifpkbkjofaaa.AC
/- The law's alive. -/
namespace Go.Proofs.Ytolifpkbkjofaaa.AC
open Go Go.AI Go.Proofs Go.Proofs.Ytolifpkbkjofaaa.AQ
set_option linter.unusedVariables false
set_option maxRecDepth 100000 in
theorem alive_t : ((eF Try.prog tab (fun _ _ _ => none) 100 40 9 [] emptyH).map fun q => cEq q.1 (.bool true)) = some true := by kernel_rfl
theorem alive_ok (A : AH) : ACall Try.prog 9 [] A fun v A' => v = .bool true ∧ A' = A :=
  ACall.reckon tab_ok (fun _ _ _ _ _ h => by cases h) 100 40 alive_t rfl rfl A
end Go.Proofs.Ytolifpkbkjofaaa.AC
/- Arguments, read. -/
namespace Go.Proofs.Ytolifpkbkjofaaa.AC
open Go Go.AI Go.RowKit Go.Proofs Go.Proofs.Ytolifpkbkjofaaa.AQ
set_option linter.unusedVariables false
section
variable {A : AH} {n : Nat} {cs : List Value}
theorem int_rd (h : Rd Try.prog A n 3 cs) : ∃ i, cs = [.int .i64 i] ∧ (Lit.int .i64 i).wf = true := Rd_int Try.underlying3 h
theorem route_rd (h : Rd Try.prog A n 23 cs) : ∃ (a : Option Addr) (c : Nat) (l : List Int), cs = [.slice a l.length c] ∧ Sl A 3 1 a (ints l) ∧ CapOk A 3 a l.length c := by
  have hobt := Rd_slice (z := 1) (f := fun i : Int => [.int .i64 i]) (Q := fun _ => True) Try.underlying23 (by kernel_rfl) (by decide) (fun _ => ⟨rfl, rfl⟩) (fun n cs h => by obtain ⟨i, h, -⟩ := int_rd h; exact ⟨i, h, trivial⟩) h
  obtain ⟨a, c, L, h1, h2, h3, -, -⟩ := hobt
  exact ⟨a, c, L, h1, h2, h3⟩
theorem pair_rd (h : Rd Try.prog A n 22 cs) : ∃ i j, cs = [.int .i64 i, .int .i64 j] ∧ (Lit.int .i64 i).wf = true ∧ (Lit.int .i64 j).wf = true :=
  Rd_two Try.underlying22 Try.underlying3 (by kernel_rfl) (by kernel_rfl) h
/-- A link. -/
structure Lk where
  f : Int
  t : Int
  c : Int
  m : Int
  g : Int
deriving DecidableEq
def Lk.enc (x : Lk) : List Value := [.int .i64 x.f, .int .i64 x.t, .int .u64 x.c, .int .i64 x.m, .int .u32 x.g]
def Lk.wf (x : Lk) : Prop := (Lit.int .i64 x.f).wf = true ∧ (Lit.int .i64 x.t).wf = true ∧ (Lit.int .u64 x.c).wf = true ∧ (Lit.int .i64 x.m).wf = true ∧ (Lit.int .u32 x.g).wf = true
theorem link_rd (h : Rd Try.prog A n 53 cs) : ∃ x : Lk, cs = x.enc ∧ x.wf := by
  have hobt := Rd_struct Try.underlying53 (by kernel_rfl) h
  obtain ⟨n', h⟩ := hobt
  simp only [RdS] at h
  obtain ⟨p0, _, rfl, h0, p1, _, rfl, h1, p2, _, rfl, h2, p3, _, rfl, h3, p4, _, rfl, h4, rfl⟩ := h
  have hobt := int_rd h0
  obtain ⟨i0, rfl, w0⟩ := hobt
  have hobt := int_rd h1
  obtain ⟨i1, rfl, w1⟩ := hobt
  have hobt := Rd_int Try.underlying50 h2
  obtain ⟨i2, rfl, w2⟩ := hobt
  have hobt := int_rd h3
  obtain ⟨i3, rfl, w3⟩ := hobt
  have hobt := Rd_int Try.underlying51 h4
  obtain ⟨i4, rfl, w4⟩ := hobt
  exact ⟨⟨i0, i1, i2, i3, i4⟩, rfl, w0, w1, w2, w3, w4⟩
theorem links_rd (h : Rd Try.prog A n 28 cs) : ∃ (a : Option Addr) (c : Nat) (l : List Lk), cs = [.slice a l.length c] ∧ Sl A 53 5 a (l.map Lk.enc) ∧ ∀ x ∈ l, x.wf := by
  have hobt := Rd_slice (z := 5) (f := Lk.enc) (Q := Lk.wf) Try.underlying28 (by kernel_rfl) (by decide) (fun x => ⟨rfl, rfl⟩) (fun n cs h => link_rd h) h
  obtain ⟨a, c, L, h1, h2, -, -, h3⟩ := hobt
  exact ⟨a, c, L, h1, h2, h3⟩
end
end Go.Proofs.Ytolifpkbkjofaaa.AC
/- The law SpfBetter. -/
namespace Go.Proofs.Ytolifpkbkjofaaa.AC
open Go Go.AI Go.Proofs Go.Proofs.Ytolifpkbkjofaaa.AQ
set_option linter.unusedVariables false
theorem betB_not (c : Int) (l : List Int) (c' : Int) (l' : List Int) : ¬ (betB c l c' l' = true ∧ betB c' l' c l = true) := by
  rintro ⟨h1, h2⟩
  unfold betB at h1 h2
  rw [cmpL_neg l l'] at h2
  repeat' split at h1
  all_goals repeat' split at h2
  all_goals simp at h1 h2
  all_goals omega
theorem betB_same (c : Int) (l : List Int) : betB c l c l = false := by
  cases h : betB c l c l with
  | false => rfl
  | true => exact absurd ⟨h, h⟩ (betB_not c l c l)
theorem betB_unlike {c : Int} {l : List Int} {c' : Int} {l' : List Int} (h : ¬ (c = c' ∧ l = l')) : betB c l c' l' ≠ betB c' l' c l := by
  intro e
  have hn := betB_not c l c' l'
  have h1 : betB c l c' l' = false := by cases hh : betB c l c' l' with | false => rfl | true => rw [← e] at hn; exact absurd ⟨hh, hh⟩ hn
  have h2 : betB c' l' c l = false := by rw [← e, h1]
  apply h
  unfold betB at h1 h2
  rw [cmpL_neg l l'] at h2
  repeat' split at h1
  all_goals repeat' split at h2
  all_goals simp at h1 h2
  all_goals first | omega | (refine ⟨by omega, cmpL_zero.1 (by omega)⟩)
theorem better_walk {A : AH} {a a' : Option Addr} {c c' : Nat} {l l' : List Int} {x y : Int} (h : Sl A 3 1 a (ints l)) (h' : Sl A 3 1 a' (ints l')) :
    ACall Try.prog 3 [.agg #[.int .i64 x, .int .i64 y], .slice a l.length c, .slice a' l'.length c'] A fun v A' => v = .bool true := by
  refine code3.call (by simp) fun hwf => ?_
  unfold c3
  simp
  refine CN.use (alive_ok _) ?_
  rintro _ A1 - - ⟨rfl, rfl⟩
  simp
  by_cases hl : (100 : Int) < l.length
  · simp [hl]
    exact DN.of rfl
  by_cases hl' : (100 : Int) < l'.length
  · simp [hl, hl']
    exact DN.of rfl
  simp [hl, hl', AH.get_alloc]
  have x1 := Ext.alloc A (Blk.row [Value.int IntKind.i64 x, Value.int IntKind.i64 y] 22 false)
  have h1 := h.ext hwf x1
  have h2 := h'.ext hwf x1
  refine CN.use (better_ok (c := c) (c' := c') h1 h2 (by omega) (by omega) x y) ?_
  rintro _ A1 - - ⟨rfl, rfl⟩
  simp [AH.get_alloc]
  refine CN.use (better_ok (c := c') (c' := c) h2 h1 (by omega) (by omega) y x) ?_
  rintro _ A1 - - ⟨rfl, rfl⟩
  simp [AH.get_alloc]
  have hnot : ∀ p q : Bool, p ≠ q → q = !p := by decide
  by_cases hxy : x = y
  · subst hxy
    simp [AH.get_alloc]
    refine CN.use (intsEq_ok (c := c) (c' := c') h1 h2 (by omega)) ?_
    rintro _ A1 - - ⟨rfl, rfl⟩
    simp [AH.get_alloc]
    refine CN.use (rbetter_ok (c := c) (c' := c') h1 h2 (by omega) x x) ?_
    rintro _ A1 - - ⟨rfl, rfl⟩
    by_cases hll : l = l'
    · have hs : sameL l l' = true := decide_eq_true hll
      have hb : betB x l x l' = false := by rw [hll]; exact betB_same _ _
      have hb' : betB x l' x l = false := by rw [hll]; exact betB_same _ _
      simp [hs, hb, hb']
      exact DN.of rfl
    · have hs : sameL l l' = false := decide_eq_false hll
      have hn := hnot _ _ (betB_unlike (c := x) (c' := x) fun e => hll e.2)
      cases hb : betB x l x l' with
      | true => rw [hb] at hn; simp at hn; simp [hs, hb, hn]; exact DN.of rfl
      | false => rw [hb] at hn; simp at hn; simp [hs, hb, hn]; exact DN.of rfl
  · simp [hxy, AH.get_alloc]
    refine CN.use (rbetter_ok (c := c) (c' := c') h1 h2 (by omega) x y) ?_
    rintro _ A1 - - ⟨rfl, rfl⟩
    have hn := hnot _ _ (betB_unlike (c := x) (l := l) (c' := y) (l' := l') fun e => hxy e.1)
    cases hb : betB x l y l' with
    | true => rw [hb] at hn; simp at hn; simp [hb, hn, hxy]; exact DN.of rfl
    | false => rw [hb] at hn; simp at hn; simp [hb, hn, hxy]; exact DN.of rfl
end Go.Proofs.Ytolifpkbkjofaaa.AC
/- Heaps, without the program. -/
namespace Go.Proofs.Ytolifpkbkjofaaa.AC
open Go Go.AI
set_option linter.unusedVariables false
/-- What waits. -/
structure It where
  c : Int
  h : Int
  n : Int
def It.enc (x : It) : List Value := [.int .i64 x.c, .int .i64 x.h, .int .i64 x.n]
def lessI (a b : It) : Bool := if a.c ≠ b.c then decide (a.c < b.c) else if a.h ≠ b.h then decide (a.h < b.h) else decide (a.n < b.n)
theorem less_iff {a b : It} : lessI a b = true ↔ a.c < b.c ∨ (a.c = b.c ∧ (a.h < b.h ∨ (a.h = b.h ∧ a.n < b.n))) := by
  unfold lessI
  split
  · simp; omega
  · split
    · simp; omega
    · simp; omega
def leI (a b : It) : Prop := lessI b a = false
theorem le_iff {a b : It} : leI a b ↔ ¬ (b.c < a.c ∨ (b.c = a.c ∧ (b.h < a.h ∨ (b.h = a.h ∧ b.n < a.n)))) := by
  unfold leI; rw [← less_iff]; cases lessI b a <;> simp
theorem le_trans' {a b c : It} (h1 : leI a b) (h2 : leI b c) : leI a c := by rw [le_iff] at *; omega
theorem le_refl' (a : It) : leI a a := by rw [le_iff]; omega
theorem less_le {a b : It} (h : lessI a b = true) : leI a b := by rw [le_iff]; rw [less_iff] at h; omega
def nth (L : List It) (i : Nat) : It := L.getD i ⟨0, 0, 0⟩
theorem nth_eq {L : List It} {i : Nat} (h : i < L.length) : nth L i = L[i] := by simp [nth, List.getD, h]
def swp (L : List It) (i j : Nat) : List It := (L.set i (nth L j)).set j (nth L i)
theorem swp_len (L : List It) (i j : Nat) : (swp L i j).length = L.length := by simp [swp]
theorem nth_swp {L : List It} {i j : Nat} (hi : i < L.length) (hj : j < L.length) (k : Nat) : nth (swp L i j) k = if k = j then nth L i else if k = i then nth L j else nth L k := by
  unfold swp
  generalize nth L i = x
  generalize nth L j = y
  unfold nth
  simp only [List.getD]
  rw [List.getElem?_set, List.getElem?_set]
  by_cases h1 : k = j
  · subst h1; simp [hj]
  · have h1' : ¬ j = k := fun e => h1 e.symm
    by_cases h2 : k = i
    · subst h2; simp [hi, h1, h1']
    · have h2' : ¬ i = k := fun e => h2 e.symm
      simp [h1, h1', h2, h2']
theorem swp_perm {L : List It} {i j : Nat} (hi : i < L.length) (hj : j < L.length) : (swp L i j).Perm L := by
  unfold swp; rw [nth_eq hi, nth_eq hj]; exact List.set_set_perm hi hj
def par (i : Nat) : Nat := (i - 1) / 2
/-- A heap. -/
def HP (L : List It) (n : Nat) : Prop := ∀ i, 0 < i → i < n → leI (nth L (par i)) (nth L i)
def UP (L : List It) (n j : Nat) : Prop := (∀ i, 0 < i → i < n → i ≠ j → leI (nth L (par i)) (nth L i)) ∧ ∀ i, 0 < i → i < n → par i = j → 0 < j → leI (nth L (par j)) (nth L i)
def DW (L : List It) (n j : Nat) : Prop := (∀ i, 0 < i → i < n → par i ≠ j → leI (nth L (par i)) (nth L i)) ∧ ∀ i, 0 < i → i < n → par i = j → 0 < j → leI (nth L (par j)) (nth L i)
theorem UP.step {L : List It} {n j : Nat} (h : UP L n j) (hn : n ≤ L.length) (hj : 0 < j) (hjn : j < n) (hl : lessI (nth L j) (nth L (par j)) = true) : UP (swp L (par j) j) n (par j) := by
  have hp : par j < j := by unfold par; omega
  have hs := nth_swp (L := L) (i := par j) (j := j) (by omega) (by omega)
  refine ⟨fun i h0 h1 h2 => ?_, fun i h0 h1 h2 h3 => ?_⟩
  · rw [hs i, hs (par i)]
    have hpi : par i < i := by unfold par; omega
    by_cases e : i = j
    · subst e
      rw [if_pos rfl, if_neg (by omega), if_pos rfl]
      exact less_le hl
    · rw [if_neg e, if_neg h2]
      by_cases e1 : par i = j
      · rw [if_pos e1]; exact h.2 i h0 h1 e1 hj
      · rw [if_neg e1]
        by_cases e2 : par i = par j
        · rw [if_pos e2]
          have := h.1 i h0 h1 e
          rw [e2] at this
          exact le_trans' (less_le hl) this
        · rw [if_neg e2]; exact h.1 i h0 h1 e
  · have hpp : par (par j) < par j := by unfold par at h3 ⊢; omega
    rw [hs i, hs (par (par j)), if_neg (by omega), if_neg (by omega)]
    have hpar := h.1 (par j) h3 (by omega) (by omega)
    by_cases e : i = j
    · rw [if_pos e]; exact hpar
    · rw [if_neg e, if_neg (by have : par i < i := by { unfold par; omega }
                               omega)]
      have := h.1 i h0 h1 e
      rw [h2] at this
      exact le_trans' hpar this
theorem UP.fin {L : List It} {n j : Nat} (h : UP L n j) (hl : j = 0 ∨ lessI (nth L j) (nth L (par j)) = false) : HP L n := by
  intro i h0 h1
  by_cases e : i = j
  · subst e
    rcases hl with hl | hl
    · omega
    · exact hl
  · exact h.1 i h0 h1 e
theorem DW.step {L : List It} {n j k : Nat} (h : DW L n j) (hn : n ≤ L.length) (hk : par k = j) (hk0 : 0 < k) (hkn : k < n) (hmin : ∀ i, 0 < i → i < n → par i = j → leI (nth L k) (nth L i)) (hl : lessI (nth L k) (nth L j) = true) : DW (swp L j k) n k := by
  have hp : j < k := by rw [← hk]; unfold par; omega
  have hs := nth_swp (L := L) (i := j) (j := k) (by omega) (by omega)
  refine ⟨fun i h0 h1 h2 => ?_, fun i h0 h1 h2 h3 => ?_⟩
  · rw [hs i, hs (par i), if_neg h2]
    have hpi : par i < i := by unfold par; omega
    by_cases e : par i = j
    · rw [if_pos e]
      by_cases e1 : i = k
      · rw [if_pos e1]; exact less_le hl
      · rw [if_neg e1, if_neg (by omega)]; exact hmin i h0 h1 e
    · rw [if_neg e]
      by_cases e1 : i = k
      · subst e1; exact absurd hk e
      · rw [if_neg e1]
        by_cases e2 : i = j
        · subst e2
          rw [if_pos rfl]
          exact h.2 k hk0 hkn hk h0
        · rw [if_neg e2]; exact h.1 i h0 h1 e
  · have hpi : par i < i := by unfold par; omega
    have e1 : nth (swp L j k) i = nth L i := by rw [hs, if_neg (by omega), if_neg (by omega)]
    have e2 : nth (swp L j k) (par k) = nth L k := by rw [hs, hk, if_neg (by omega), if_pos rfl]
    rw [e1, e2]
    have := h.1 i h0 h1 (by omega)
    rw [h2] at this
    exact this
theorem DW.fin {L : List It} {n j : Nat} (h : DW L n j) (hl : ∀ i, 0 < i → i < n → par i = j → leI (nth L j) (nth L i)) : HP L n := by
  intro i h0 h1
  by_cases e : par i = j
  · rw [e]; exact hl i h0 h1 e
  · exact h.1 i h0 h1 e
theorem HP.min {L : List It} {n : Nat} (h : HP L n) : ∀ (i : Nat), i < n → leI (nth L 0) (nth L i)
  | 0, _ => le_refl' _
  | i + 1, hi => by
    have hp : par (i + 1) < i + 1 := by unfold par; omega
    exact le_trans' (HP.min h (par (i + 1)) (by omega)) (h (i + 1) (by omega) hi)
/-- What lies first goes behind, and the last one to the front. -/
theorem HP.cut {L : List It} {n : Nat} (h : HP L (n + 1)) (hL : L.length = n + 1) : DW (swp L 0 n) n 0 := by
  have hs := nth_swp (L := L) (i := 0) (j := n) (by omega) (by omega)
  refine ⟨fun i h0 h1 h2 => ?_, fun i _ _ _ h3 => by omega⟩
  have hpi : par i < i := by unfold par; omega
  rw [hs i, hs (par i), if_neg (by omega), if_neg (by omega), if_neg (by omega), if_neg (by omega)]
  exact h i h0 (by omega)
end Go.Proofs.Ytolifpkbkjofaaa.AC
/- Queues. -/
namespace Go.Proofs.Ytolifpkbkjofaaa.AC
open Go Go.AI Go.Proofs Go.Proofs.Ytolifpkbkjofaaa.AQ
set_option linter.unusedVariables false
theorem qless_ok (a b : It) (A : AH) : ACall Try.prog 68 [.agg a.enc.toArray, .agg b.enc.toArray] A fun v A' => v = .bool (lessI a b) ∧ Ext A A' := by
  refine code68.call (by simp) fun hwf => ?_
  unfold c68
  have hx : Ext A ((A.alloc (.row [.int .i64 a.c, .int .i64 a.h, .int .i64 a.n] 67 false)).alloc (.row [.int .i64 b.c, .int .i64 b.h, .int .i64 b.n] 67 false)) := (Ext.alloc A _).app (by simp) _
  simp [It.enc, AH.get_alloc]
  by_cases h1 : a.c = b.c
  · by_cases h2 : a.h = b.h
    · simp [h1, h2, AH.get_alloc]
      exact DN.of ⟨by simp [lessI, h1, h2], by rw [h1, h2] at hx; exact hx⟩
    · simp [h1, h2, AH.get_alloc]
      exact DN.of ⟨by simp [lessI, h1, h2], by rw [h1] at hx; exact hx⟩
  · simp [h1, AH.get_alloc]
    exact DN.of ⟨by simp [lessI, h1], hx⟩
@[simp] theorem m_less : methOf Try.prog 90 "Less" = some 65 := by kernel_rfl
@[simp] theorem m_swap : methOf Try.prog 90 "Swap" = some 67 := by kernel_rfl
@[simp] theorem m_len : methOf Try.prog 90 "Len" = some 39 := by kernel_rfl
@[simp] theorem m_pop : methOf Try.prog 90 "Pop" = some 66 := by kernel_rfl
@[simp] theorem if_q : isIface Try.prog 90 = some false := by kernel_rfl
@[simp] theorem if_i : isIface Try.prog 67 = some false := by kernel_rfl
/-- A queue in memory. -/
def QS (A : AH) (q : Nat) (ob : Option Nat) (L : List It) : Prop := ∃ v, A.get q = some (.row [.bool true, v] 84 false) ∧ Lq A 67 3 ob v (L.map It.enc) ∧ ob ≠ some q
theorem QS.kept {A A' : AH} {q : Nat} {ob : Option Nat} {L : List It} (h : QS A q ob L) (hq : A'.get q = A.get q) (hk : ∀ b, ob = some b → A'.get b = A.get b) : QS A' q ob L := by
  obtain ⟨v, h1, h2, h3⟩ := h
  exact ⟨v, hq.trans h1, h2.kept hk, h3⟩
theorem QS.ext {A A' : AH} {q : Nat} {ob : Option Nat} {L : List It} (h : QS A q ob L) (hw : A.wf) (hx : Ext A A') : QS A' q ob L := by
  have h' := h
  obtain ⟨v, h1, h2, h3⟩ := h'
  exact h.kept (hx q (hw _ _ h1)) fun b hb => hx b (h2.lt hw hb)
theorem good_ok {A : AH} {q : Nat} {ob : Option Nat} {L : List It} (h : QS A q ob L) : ACall Try.prog 33 [.pointer (some ⟨q, 0, none⟩)] A fun v A' => v = .bool true ∧ A' = A := by
  obtain ⟨v, h1, h2, h3⟩ := h
  refine code33.call (by simp) fun hwf => ?_
  unfold c33
  simp [h1]
  exact DN.of ⟨rfl, rfl⟩
theorem ilen_ok {A : AH} {q : Nat} {ob : Option Nat} {L : List It} (h : QS A q ob L) : ACall Try.prog 39 [.pointer (some ⟨q, 1, none⟩)] A fun v A' => v = .int .i64 L.length ∧ A' = A := by
  obtain ⟨v, h1, h2, h3⟩ := h
  have hobt := h2.sl
  obtain ⟨a, c, rfl, h4⟩ := hobt
  refine code39.call (by simp) fun hwf => ?_
  unfold c39
  simp [h1]
  exact DN.of ⟨rfl, rfl⟩
theorem qlen_ok {A : AH} {q : Nat} {ob : Option Nat} {L : List It} (h : QS A q ob L) : ACall Try.prog 34 [.pointer (some ⟨q, 0, none⟩)] A fun v A' => v = .int .i64 L.length ∧ A' = A := by
  refine code34.call (by simp) fun hwf => ?_
  unfold c34
  simp
  refine CN.use (good_ok h) ?_
  rintro _ _ - - ⟨rfl, rfl⟩
  simp
  refine CN.use (ilen_ok h) ?_
  rintro _ _ - - ⟨rfl, rfl⟩
  simp
  exact DN.of ⟨rfl, rfl⟩
theorem iless_ok {A : AH} {q : Nat} {ob : Option Nat} {L : List It} (h : QS A q ob L) {i j : Nat} (hi : i < L.length) (hj : j < L.length) : ACall Try.prog 65 [.pointer (some ⟨q, 1, none⟩), .int .i64 i, .int .i64 j] A fun v A' => v = .bool (lessI (nth L i) (nth L j)) ∧ Ext A A' := by
  obtain ⟨v, h1, h2, h3⟩ := h
  have hobt := h2.at (i := i) (by simpa using hi)
  obtain ⟨b, c, cs, rfl, rfl, h4, h5, h6⟩ := hobt
  have hobt := h2.at (i := j) (by simpa using hj)
  obtain ⟨b', c', cs', hb, hv, h4', h7, h8⟩ := hobt
  simp only [Option.some.injEq] at hb
  subst hb
  rw [h4] at h4'
  simp only [Option.some.injEq, Blk.row.injEq, and_true] at h4'
  subst h4'
  have e1 : List.take 3 (List.drop (i * 3) cs) = (nth L i).enc := by rw [h6, nth_eq hi]; simp
  have e2 : List.take 3 (List.drop (j * 3) cs) = (nth L j).enc := by rw [h8, nth_eq hj]; simp
  refine code65.call (by simp) fun hwf => ?_
  unfold c65
  simp [h1, h4, hi, hj, h5, h7, e1, e2]
  refine CN.use (qless_ok _ _ A) ?_
  rintro _ A1 - - ⟨rfl, hx⟩
  simp
  exact DN.of ⟨rfl, hx⟩
/-- All but a queue is as it was. -/
def Kq (A A' : AH) (q : Nat) (ob : Option Nat) : Prop := ∀ b, b < A.next → b ≠ q → ob ≠ some b → A'.get b = A.get b
theorem Kq.refl (A : AH) (q : Nat) (ob : Option Nat) : Kq A A q ob := fun _ _ _ _ => rfl
theorem Kq.ext {A B C : AH} {q : Nat} {ob : Option Nat} (h : Kq A B q ob) (hn : A.next ≤ B.next) (hx : Ext B C) : Kq A C q ob := fun b h1 h2 h3 => (hx b (by omega)).trans (h b h1 h2 h3)
theorem Kq.trans {A B C : AH} {q : Nat} {ob ob' : Option Nat} (h : Kq A B q ob) (hn : A.next ≤ B.next) (h' : Kq B C q ob') (ho : ob' = ob ∨ Fresh A.next ob') : Kq A C q ob := fun b h1 h2 h3 => (h' b (by omega) h2 (by
  rcases ho with rfl | ho
  · exact h3
  · intro e; have := ho b e; omega)).trans (h b h1 h2 h3)
theorem iswap_ok {A : AH} {q : Nat} {ob : Option Nat} {L : List It} (h : QS A q ob L) {i j : Nat} (hi : i < L.length) (hj : j < L.length) : ACall Try.prog 67 [.pointer (some ⟨q, 1, none⟩), .int .i64 i, .int .i64 j] A fun v A' => QS A' q ob (swp L i j) ∧ Kq A A' q ob := by
  obtain ⟨v, h1, h2, h3⟩ := h
  have hobt := h2.open2 (i := i) (j := j) (by simpa using hi) (by simpa using hj)
  obtain ⟨b, c, cs, rfl, rfl, h4, h5, h6, h7, h8, -, -, -, -, h9⟩ := hobt
  have hq : q ≠ b := fun e => h3 (by rw [e])
  have e1 : List.take 3 (List.drop (i * 3) cs) = (nth L i).enc := by rw [h7, nth_eq hi]; simp
  have e2 : List.take 3 (List.drop (j * 3) cs) = (nth L j).enc := by rw [h8, nth_eq hj]; simp
  have hl : ∀ x : It, x.enc.length = 3 := fun _ => rfl
  have hs : (spl cs (i * 3) (nth L j).enc).length = cs.length := spl_length _ _ _ (by rw [hl]; omega)
  have ho : ∀ x : It, (x.enc.all oneB) = true := fun _ => rfl
  refine code67.call (by simp) fun hwf => ?_
  unfold c67
  simp [h1, h4, hi, hj, h5, h6, e1, e2, AH.get_set, hq, hl, hs, ho]
  refine DN.of ⟨⟨_, by simp only [AH.get_set, if_neg hq, h1]; rfl, ?_, h3⟩, fun b' h1 h2 h3 => ?_⟩
  · have : (swp L i j).map It.enc = ((L.map It.enc).set i (nth L j).enc).set j (nth L i).enc := by unfold swp; rw [List.map_set, List.map_set]
    rw [this]
    simpa [nth_eq hi, nth_eq hj] using h9
  · simp only [AH.get_set]
    rw [if_neg (fun e => h3 (by rw [e]))]
theorem QS.app_last {A : AH} {q : Nat} {ob : Option Nat} {L : List It} (h : QS A q ob L) (hL : L ≠ []) : ∃ M x, L = M ++ [x] := ⟨L.dropLast, L.getLast hL, (List.dropLast_concat_getLast hL).symm⟩
theorem ipop_ok {A : AH} {q : Nat} {ob : Option Nat} {L : List It} {x : It} (h : QS A q ob (L ++ [x])) (hL : L.length ≤ 1000000) : ACall Try.prog 66 [.pointer (some ⟨q, 1, none⟩)] A fun v A' => v = .iface 67 (.agg x.enc.toArray) ∧ QS A' q ob L ∧ Kq A A' q ob := by
  obtain ⟨v, h1, h2, h3⟩ := h
  have hobt := h2.at (i := L.length) (by simp)
  obtain ⟨b, c, cs, rfl, rfl, h4, h5, h6⟩ := hobt
  have e1 : List.take 3 (List.drop (L.length * 3) cs) = x.enc := by rw [h6]; simp
  have h2' := h2
  rw [List.map_append] at h2'
  have hobt := h2'.pop (P := Try.prog) (by kernel_rfl) (k := .i64)
  obtain ⟨a, c', g1, g2, g3⟩ := hobt
  simp only [List.length_map, List.length_append, List.length_singleton] at g1 g2
  injection g1 with ga gl gc
  subst ga gc
  have g4 : ∀ C : AH, C.get b = A.get b → slW Try.prog 3 (some ⟨b, 0, none⟩) (L.length + 1) c none (some (.int .i64 (L.length : Nat))) none C = some (.slice (some ⟨b, 0, none⟩) L.length c) := fun C hC => by
    rw [← g2]; unfold slW; simp only [hC]
  refine code66.call (by simp) fun hwf => ?_
  unfold c66
  have hb : b < A.next := hwf _ _ h4
  have hq : q < A.next := hwf _ _ h1
  have hqb : q ≠ b := fun e => h3 (by rw [e])
  have hn1 : A.next ≠ q := by omega
  have hn2 : A.next ≠ b := by omega
  have hn3 : q ≠ A.next := by omega
  have hn4 : b ≠ A.next := by omega
  have hw : IntKind.i64.wrap (L.length : Int) = L.length := i64_in (by omega) (by omega)
  have hl : x.enc.length = 3 := rfl
  have ho : x.enc.all oneB = true := rfl
  have hmin : 3 = min 3 (cs.length - L.length * 3) := by omega
  have hmin2 : min 3 (cs.length - L.length * 3) = 3 := by omega
  have hmem : ∀ y ∈ x.enc, oneB y = true := List.all_eq_true.1 ho
  simp [h1, h4, h5, e1, hw, hmin2, hmem, AH.get_alloc, AH.get_set, hn1, hn2, hn3, hn4, hl]
  refine ⟨by omega, hmem, ?_⟩
  simp [g4 (A.alloc (.row x.enc 67 false)) (by rw [AH.get_alloc, if_neg hn4]), AH.get_alloc, AH.get_set, h1, hn1, hn2, hn3, hn4, hl]
  refine DN.of ⟨by rw [← hl, List.take_length], ⟨_, by rw [AH.get_set, if_pos rfl], ?_, h3⟩, fun b' k1 k2 k3 => ?_⟩
  · simp only [List.length_map] at g3
    refine g3.kept fun b' hb' => ?_
    injection hb' with hb'
    subst hb'
    rw [AH.get_set, if_neg (fun e => hqb e.symm), AH.get_alloc, if_neg hn4]
  · rw [AH.get_set, if_neg k2, AH.get_alloc, if_neg (by omega)]
end Go.Proofs.Ytolifpkbkjofaaa.AC
/- Queues: what is brought to its place. -/
namespace Go.Proofs.Ytolifpkbkjofaaa.AC
open Go Go.AI Go.Proofs Go.Proofs.Ytolifpkbkjofaaa.AQ
set_option linter.unusedVariables false
theorem QS.swap {A : AH} {q : Nat} {ob : Option Nat} {L : List It} (h : QS A q ob L) : True := trivial
theorem up_ok {A : AH} {q : Nat} {ob : Option Nat} {L : List It} {j : Nat} (h : QS A q ob L) (hL : L.length ≤ 1000000) (hj : j < L.length) (hu : UP L L.length j) : ACall Try.prog 43 [.iface 90 (.pointer (some ⟨q, 1, none⟩)), .int .i64 j] A fun v A' => ∃ L', QS A' q ob L' ∧ L'.Perm L ∧ HP L' L'.length ∧ Kq A A' q ob := by
  refine code43.call (by simp) fun hwf => ?_
  unfold c43
  simp
  refine LN.use (fun m E A' => ∃ (k : Nat) (L' : List It), m = k ∧ k < L.length ∧ QS A' q ob L' ∧ L'.Perm L ∧ UP L' L.length k ∧ Kq A A' q ob ∧ E.get 0 = .iface 90 (.pointer (some ⟨q, 1, none⟩)) ∧ E.get 1 = .int .i64 k) j
    ⟨j, L, rfl, hj, h, List.Perm.refl L, hu, Kq.refl _ _ _, by simp, by simp⟩ ?_
  rintro m E A1 hw1 hn1 ⟨k, L', rfl, hk, s1, p1, u1, k1, e0, e1⟩
  have hlen := p1.length_eq
  rcases Nat.eq_zero_or_pos m with rfl | hpos
  · have hw : IntKind.i64.wrap ((IntKind.i64.wrap (-1)).tdiv 2) = 0 := by decide
    simp [e0, e1, hw]
    refine DN.of ⟨L', s1, p1, ?_, k1⟩
    rw [hlen]; exact u1.fin (Or.inl rfl)
  · have hw : IntKind.i64.wrap ((IntKind.i64.wrap ((m : Int) - 1)).tdiv 2) = ((par m : Nat) : Int) := by
      rw [i64_in (x := (m : Int) - 1) (by omega) (by omega)]
      have : ((m : Int) - 1).tdiv 2 = ((par m : Nat) : Int) := by
        unfold par
        have : ((m : Int) - 1) = ((m - 1 : Nat) : Int) := by omega
        rw [this, Int.tdiv_eq_ediv_of_nonneg (by omega)]
        omega
      rw [this, i64_in (by unfold par; omega) (by unfold par; omega)]
    have hp : par m < m := by unfold par; omega
    have hne : ¬ ((par m : Nat) : Int) = m := by omega
    simp [e0, e1, hw, hne]
    refine CN.use (iless_ok s1 (i := m) (j := par m) (by omega) (by omega)) ?_
    rintro _ A2 hw2 hn2 ⟨rfl, x2⟩
    have s2 := s1.ext hw1 x2
    have k2 := k1.ext hn1 x2
    cases hl : lessI (nth L' m) (nth L' (par m)) with
    | false =>
      simp
      refine DN.of ⟨L', s2, p1, ?_, k2⟩
      rw [hlen]; exact u1.fin (Or.inr hl)
    | true =>
      simp [e0, e1]
      refine CN.use (iswap_ok s2 (i := par m) (j := m) (by omega) (by omega)) ?_
      rintro _ A3 hw3 hn3 ⟨s3, k3⟩
      simp
      exact NX.of ⟨par m, hp, par m, swp L' (par m) m, rfl, by omega, s3, (swp_perm (by omega) (by omega)).trans p1, u1.step (by omega) hpos hk hl, k2.trans (by omega) k3 (Or.inl rfl), by simp [e0], by simp⟩
set_option maxHeartbeats 2000000
theorem iless_at {A : AH} {q : Nat} {ob : Option Nat} {L : List It} {x y : Int} (h : QS A q ob L) {i j : Nat} (hx : x = i) (hy : y = j) (hi : i < L.length) (hj : j < L.length) : ACall Try.prog 65 [.pointer (some ⟨q, 1, none⟩), .int .i64 x, .int .i64 y] A fun v A' => v = .bool (lessI (nth L i) (nth L j)) ∧ Ext A A' := by
  subst hx hy; exact iless_ok h hi hj
theorem iswap_at {A : AH} {q : Nat} {ob : Option Nat} {L : List It} {x y : Int} (h : QS A q ob L) {i j : Nat} (hx : x = i) (hy : y = j) (hi : i < L.length) (hj : j < L.length) : ACall Try.prog 67 [.pointer (some ⟨q, 1, none⟩), .int .i64 x, .int .i64 y] A fun v A' => QS A' q ob (swp L i j) ∧ Kq A A' q ob := by
  subst hx hy; exact iswap_ok h hi hj
theorem down_leaf {A : AH} {q : Nat} {i n : Nat} (hi : i ≤ 1000000) (hn : n ≤ 1000000) (h : n ≤ 2 * i + 1) : ACall Try.prog 40 [.iface 90 (.pointer (some ⟨q, 1, none⟩)), .int .i64 i, .int .i64 n] A fun v A' => v = .bool false ∧ A' = A := by
  have hw1 : IntKind.i64.wrap (2 * (i : Int)) = 2 * i := i64_in (by omega) (by omega)
  have hw2 : IntKind.i64.wrap (2 * (i : Int) + 1) = 2 * i + 1 := i64_in (by omega) (by omega)
  have hle : (n : Int) ≤ 2 * i + 1 := by omega
  refine code40.call (by simp) fun hwf => ?_
  unfold c40
  simp
  refine LN.use (fun m E A' => A' = A ∧ E.get 0 = .iface 90 (.pointer (some ⟨q, 1, none⟩)) ∧ E.get 1 = .int .i64 i ∧ E.get 2 = .int .i64 n ∧ E.get 7 = .int .i64 i) 0
    ⟨rfl, by simp, by simp, by simp, by simp⟩ ?_
  rintro m E A1 hwA hnA ⟨rfl, e0, e1, e2, e7⟩
  simp [e0, e1, e2, e7, hw1, hw2, hle]
  exact DN.of ⟨rfl, rfl⟩
theorem down_ok {A : AH} {q : Nat} {ob : Option Nat} {L : List It} {i n : Nat} (h : QS A q ob L) (hL : L.length ≤ 1000000) (hi : i ≤ n) (hn : n ≤ L.length) (hd : DW L n i) : ACall Try.prog 40 [.iface 90 (.pointer (some ⟨q, 1, none⟩)), .int .i64 i, .int .i64 n] A fun v A' => ∃ L', QS A' q ob L' ∧ L'.Perm L ∧ HP L' n ∧ (∀ k, n ≤ k → nth L' k = nth L k) ∧ Kq A A' q ob := by
  refine code40.call (by simp) fun hwf => ?_
  unfold c40
  simp
  refine LN.use (fun m E A' => ∃ (k : Nat) (L' : List It), m + k = n ∧ QS A' q ob L' ∧ L'.Perm L ∧ DW L' n k ∧ (∀ i, n ≤ i → nth L' i = nth L i) ∧ Kq A A' q ob ∧ E.get 0 = .iface 90 (.pointer (some ⟨q, 1, none⟩)) ∧ E.get 1 = .int .i64 i ∧ E.get 2 = .int .i64 n ∧ E.get 7 = .int .i64 k) (n - i)
    ⟨i, L, by omega, h, List.Perm.refl L, hd, fun _ _ => rfl, Kq.refl _ _ _, by simp, by simp, by simp, by simp⟩ ?_
  rintro m E A1 hw1 hn1 ⟨k, L', hmk, s1, p1, d1, z1, k1, e0, e1, e2, e7⟩
  have hlen := p1.length_eq
  have cw1 : IntKind.i64.wrap (2 * (k : Int)) = 2 * k := i64_in (by omega) (by omega)
  have cw2 : IntKind.i64.wrap (2 * (k : Int) + 1) = 2 * k + 1 := i64_in (by omega) (by omega)
  have cw3 : IntKind.i64.wrap (2 * (k : Int) + 1 + 1) = 2 * k + 1 + 1 := i64_in (by omega) (by omega)
  have cast1 : (2 * (k : Int) + 1) = ((2 * k + 1 : Nat) : Int) := by omega
  have cast2 : (2 * (k : Int) + 1 + 1) = ((2 * k + 1 + 1 : Nat) : Int) := by omega
  by_cases hend : (n : Int) ≤ 2 * k + 1
  · simp [e0, e1, e2, e7, cw1, cw2, hend]
    refine DN.of ⟨L', s1, p1, ?_, z1, k1⟩
    refine d1.fin fun i h0 h1 h2 => ?_
    unfold par at h2; omega
  have hneg : ¬ (2 * (k : Int) + 1 < 0) := by omega
  have hkids : ∀ i, 0 < i → par i = k → i = 2 * k + 1 ∨ i = 2 * k + 1 + 1 := fun i h0 h2 => by unfold par at h2; omega
  by_cases h2 : 2 * (k : Int) + 1 + 1 < n
  · simp [e0, e1, e2, e7, cw1, cw2, cw3, hend, hneg, h2]
    refine CN.use (iless_at s1 (i := 2 * k + 1 + 1) (j := 2 * k + 1) cast2 cast1 (by omega) (by omega)) ?_
    rintro _ A2 hw2 hn2 ⟨rfl, x2⟩
    have s2 := s1.ext hw1 x2
    have k2 := k1.ext hn1 x2
    cases hc : lessI (nth L' (2 * k + 1 + 1)) (nth L' (2 * k + 1)) with
    | true =>
      have hmin : ∀ i, 0 < i → i < n → par i = k → leI (nth L' (2 * k + 1 + 1)) (nth L' i) := fun i h0 h1 h2 => by
        rcases hkids i h0 h2 with rfl | rfl
        · exact less_le hc
        · exact le_refl' _
      simp [e0, e7]
      refine CN.use (iless_at s2 (i := 2 * k + 1 + 1) (j := k) cast2 rfl (by omega) (by omega)) ?_
      rintro _ A3 hw3 hn3 ⟨rfl, x3⟩
      have s3 := s2.ext hw2 x3
      have k3 := k2.ext (by omega) x3
      cases hl : lessI (nth L' (2 * k + 1 + 1)) (nth L' k) with
      | false =>
        simp [e1, e7]
        refine DN.of ⟨L', s3, p1, ?_, z1, k3⟩
        refine d1.fin fun i h0 h1 h2 => ?_
        exact le_trans' hl (hmin i h0 h1 h2)
      | true =>
        simp [e0, e7]
        refine CN.use (iswap_at s3 (i := k) (j := 2 * k + 1 + 1) rfl cast2 (by omega) (by omega)) ?_
        rintro _ A4 hw4 hn4 ⟨s4, k4⟩
        simp [e1, e2]
        exact NX.of ⟨n - (2 * k + 1 + 1), by omega, 2 * k + 1 + 1, swp L' k (2 * k + 1 + 1), by omega, s4, (swp_perm (by omega) (by omega)).trans p1, d1.step (by omega) (by unfold par; omega) (by omega) (by omega) hmin hl, fun i hi => by { rw [nth_swp (by omega) (by omega), if_neg (by omega), if_neg (by omega)]; exact z1 i hi }, k3.trans (by omega) k4 (Or.inl rfl), by simp [e0], by simp [e1], by simp [e2], by simp⟩
    | false =>
      have hmin : ∀ i, 0 < i → i < n → par i = k → leI (nth L' (2 * k + 1)) (nth L' i) := fun i h0 h1 h2 => by
        rcases hkids i h0 h2 with rfl | rfl
        · exact le_refl' _
        · exact hc
      simp [e0, e7]
      refine CN.use (iless_at s2 (i := 2 * k + 1) (j := k) cast1 rfl (by omega) (by omega)) ?_
      rintro _ A3 hw3 hn3 ⟨rfl, x3⟩
      have s3 := s2.ext hw2 x3
      have k3 := k2.ext (by omega) x3
      cases hl : lessI (nth L' (2 * k + 1)) (nth L' k) with
      | false =>
        simp [e1, e7]
        refine DN.of ⟨L', s3, p1, ?_, z1, k3⟩
        refine d1.fin fun i h0 h1 h2 => ?_
        exact le_trans' hl (hmin i h0 h1 h2)
      | true =>
        simp [e0, e7]
        refine CN.use (iswap_at s3 (i := k) (j := 2 * k + 1) rfl cast1 (by omega) (by omega)) ?_
        rintro _ A4 hw4 hn4 ⟨s4, k4⟩
        simp [e1, e2]
        exact NX.of ⟨n - (2 * k + 1), by omega, 2 * k + 1, swp L' k (2 * k + 1), by omega, s4, (swp_perm (by omega) (by omega)).trans p1, d1.step (by omega) (by unfold par; omega) (by omega) (by omega) hmin hl, fun i hi => by { rw [nth_swp (by omega) (by omega), if_neg (by omega), if_neg (by omega)]; exact z1 i hi }, k3.trans (by omega) k4 (Or.inl rfl), by simp [e0], by simp [e1], by simp [e2], by simp⟩
  · have hmin : ∀ i, 0 < i → i < n → par i = k → leI (nth L' (2 * k + 1)) (nth L' i) := fun i h0 h1 h2 => by
      rcases hkids i h0 h2 with rfl | rfl
      · exact le_refl' _
      · omega
    simp [e0, e1, e2, e7, cw1, cw2, cw3, hend, hneg, h2]
    have s2 := s1
    have k2 := k1
    have hw2 := hw1
    refine CN.use (iless_at s2 (i := 2 * k + 1) (j := k) cast1 rfl (by omega) (by omega)) ?_
    rintro _ A3 hw3 hn3 ⟨rfl, x3⟩
    have s3 := s2.ext hw2 x3
    have k3 := k2.ext (by omega) x3
    cases hl : lessI (nth L' (2 * k + 1)) (nth L' k) with
    | false =>
      simp [e1, e7]
      refine DN.of ⟨L', s3, p1, ?_, z1, k3⟩
      refine d1.fin fun i h0 h1 h2 => ?_
      exact le_trans' hl (hmin i h0 h1 h2)
    | true =>
      simp [e0, e7]
      refine CN.use (iswap_at s3 (i := k) (j := 2 * k + 1) rfl cast1 (by omega) (by omega)) ?_
      rintro _ A4 hw4 hn4 ⟨s4, k4⟩
      simp [e1, e2]
      exact NX.of ⟨n - (2 * k + 1), by omega, 2 * k + 1, swp L' k (2 * k + 1), by omega, s4, (swp_perm (by omega) (by omega)).trans p1, d1.step (by omega) (by unfold par; omega) (by omega) (by omega) hmin hl, fun i hi => by { rw [nth_swp (by omega) (by omega), if_neg (by omega), if_neg (by omega)]; exact z1 i hi }, k3.trans (by omega) k4 (Or.inl rfl), by simp [e0], by simp [e1], by simp [e2], by simp⟩
end Go.Proofs.Ytolifpkbkjofaaa.AC
/- Queues: what is laid in and taken out. -/
namespace Go.Proofs.Ytolifpkbkjofaaa.AC
open Go Go.AI Go.Proofs Go.Proofs.Ytolifpkbkjofaaa.AQ
set_option linter.unusedVariables false
theorem nth_left {M : List It} {x : It} {i : Nat} (h : i < M.length) : nth (M ++ [x]) i = nth M i := by
  rw [nth_eq (by simp; omega), nth_eq h, List.getElem_append_left h]
theorem nth_last (M : List It) (x : It) : nth (M ++ [x]) M.length = x := by
  rw [nth_eq (by simp)]; simp
theorem UP.last {M : List It} (x : It) (h : HP M M.length) : UP (M ++ [x]) (M ++ [x]).length M.length := by
  have hp : ∀ i, 0 < i → par i < i := fun i h => by unfold par; omega
  refine ⟨fun i h0 h1 h2 => ?_, fun i h0 h1 h2 h3 => ?_⟩
  · simp at h1
    have := hp i h0
    rw [nth_left (by omega), nth_left (by omega)]
    exact h i h0 (by omega)
  · simp at h1
    have := hp i h0
    omega
theorem fix_ok {A : AH} {q : Nat} {ob : Option Nat} {M : List It} {x : It} (h : QS A q ob (M ++ [x])) (hL : M.length ≤ 100000) (hh : HP M M.length) : ACall Try.prog 38 [.iface 90 (.pointer (some ⟨q, 1, none⟩)), .int .i64 (M.length : Nat)] A fun v A' => ∃ L', QS A' q ob L' ∧ L'.Perm (M ++ [x]) ∧ HP L' L'.length ∧ Kq A A' q ob := by
  refine code38.call (by simp) fun hwf => ?_
  unfold c38
  simp
  refine CN.use (ilen_ok h) ?_
  rintro _ _ - - ⟨rfl, rfl⟩
  simp
  refine CN.use (down_leaf (i := M.length) (n := M.length + 1) (by omega) (by omega) (by omega)) ?_
  rintro _ _ - - ⟨rfl, rfl⟩
  simp
  refine CN.use (up_ok h (by simp; omega) (by simp) (UP.last x hh)) ?_
  rintro _ A1 - - ⟨L', h1, h2, h3, h4⟩
  simp
  exact DN.of ⟨L', h1, h2, h3, h4⟩
/-- A queue that is a heap. -/
def QH (A : AH) (q : Nat) (ob : Option Nat) (L : List It) : Prop := QS A q ob L ∧ HP L L.length
theorem QH.ext {A A' : AH} {q : Nat} {ob : Option Nat} {L : List It} (h : QH A q ob L) (hw : A.wf) (hx : Ext A A') : QH A' q ob L := ⟨h.1.ext hw hx, h.2⟩
theorem hpop_ok {A : AH} {q : Nat} {ob : Option Nat} {L : List It} (h : QH A q ob L) (h0 : 0 < L.length) (hL : L.length ≤ 100000) : ACall Try.prog 35 [.iface 90 (.pointer (some ⟨q, 1, none⟩))] A fun v A' => ∃ L' x, v = .iface 67 (.agg x.enc.toArray) ∧ QH A' q ob L' ∧ L.Perm (x :: L') ∧ (∀ y ∈ L, leI x y) ∧ Kq A A' q ob := by
  obtain ⟨n, hn⟩ : ∃ n, L.length = n + 1 := ⟨L.length - 1, by omega⟩
  have hw : IntKind.i64.wrap ((L.length : Int) - 1) = (n : Nat) := by rw [i64_in (by omega) (by omega)]; omega
  refine code35.call (by simp) fun hwf => ?_
  unfold c35
  simp
  refine CN.use (ilen_ok h.1) ?_
  rintro _ _ - - ⟨rfl, rfl⟩
  simp [hw]
  refine CN.use (iswap_at h.1 (i := 0) (j := n) rfl rfl (by omega) (by omega)) ?_
  rintro _ A1 hw1 hn1 ⟨s1, k1⟩
  have hl1 := swp_len L 0 n
  simp
  have hcut := HP.cut (n := n) (by rw [← hn]; exact h.2) hn
  refine CN.use (down_ok (i := 0) (n := n) s1 (by omega) (by omega) (by omega) hcut) ?_
  rintro _ A2 hw2 hn2 ⟨L2, s2, p2, h2, z2, k2⟩
  have hl2 := p2.length_eq
  simp
  have hmin : nth L2 n = nth L 0 := by rw [z2 n (Nat.le_refl _), nth_swp (by omega) (by omega), if_pos rfl]
  have hsplit : ∃ M, L2 = M ++ [nth L 0] ∧ M.length = n := by
    have hne : L2 ≠ [] := fun e => by rw [e] at hl2; simp at hl2; omega
    refine ⟨L2.dropLast, ?_, by simp; omega⟩
    rw [← hmin, nth_eq (by omega)]
    have := List.dropLast_concat_getLast hne
    rw [List.getLast_eq_getElem] at this
    simp only [show L2.length - 1 = n from by omega] at this
    exact this.symm
  obtain ⟨M, rfl, hM⟩ := hsplit
  refine CN.use (ipop_ok s2 (by omega)) ?_
  rintro _ A3 hw3 hn3 ⟨rfl, s3, k3⟩
  simp
  refine DN.of ⟨M, nth L 0, rfl, ⟨s3, fun i h0 h1 => ?_⟩, ?_, fun y hy => ?_, (k1.trans hn1 k2 (Or.inl rfl)).trans (by omega) k3 (Or.inl rfl)⟩
  · have hp : par i < i := by unfold par; omega
    have := h2 i h0 (by omega)
    rw [nth_left (by omega), nth_left (by omega)] at this
    exact this
  · have hp := (p2.trans (swp_perm (by omega) (by omega))).symm
    exact hp.trans List.perm_append_comm
  · obtain ⟨i, hi, rfl⟩ := List.getElem_of_mem hy
    rw [← nth_eq hi]
    exact h.2.min i hi
def Kn' (A A' : AH) (q : Nat) (ob ob' : Option Nat) : Prop := Kq A A' q ob ∧ (ob' = ob ∨ Fresh A.next ob')
theorem push_ok {A : AH} {q : Nat} {ob : Option Nat} {L : List It} (h : QH A q ob L) (x : It) (hL : L.length < 1024) : ACall Try.prog 32 [.pointer (some ⟨q, 0, none⟩), .agg x.enc.toArray] A fun v A' => ∃ L' ob', QH A' q ob' L' ∧ L'.Perm (x :: L) ∧ Kn' A A' q ob ob' := by
  refine code32.call (by simp) fun hwf => ?_
  unfold c32
  have hx0 := Ext.alloc A (.row x.enc 67 false)
  have hw0 := AH.wf_alloc hwf (.row x.enc 67 false)
  have h0 := h.1.ext hwf hx0
  have hnl : ¬ (1024 : Int) ≤ L.length := by omega
  simp
  refine CN.use (good_ok h0) ?_
  rintro _ _ - - ⟨rfl, rfl⟩
  simp
  refine CN.use (qlen_ok h0) ?_
  rintro _ _ - - ⟨rfl, rfl⟩
  obtain ⟨v, h1, h2, h3⟩ := h0
  have hxe : x.enc.length = 3 ∧ x.enc.all oneB = true := ⟨rfl, rfl⟩
  have hxl : x.enc.length = 3 := rfl
  have hobt := h2.push (y := 24) hw0 hxe (by omega) (by omega) (by simp; omega) (by simp; omega)
  obtain ⟨v', A2, ob', g1, g2, g3, g4, g5⟩ := hobt
  have hobt := h2.sl
  obtain ⟨a, c, rfl, -⟩ := hobt
  have hobt := g2.sl
  obtain ⟨a', c', rfl, -⟩ := hobt
  have hqn := hw0 _ _ h1
  have hq2 := (g3 q hqn h3).trans h1
  simp only [List.length_map] at h1 g1
  simp only [AH.next_alloc] at g1
  have hobt := h.1
  obtain ⟨v0, hA1, -, -⟩ := hobt
  have hqa : q ≠ A.next := by have := hwf _ _ hA1; omega
  have hAq := h1
  rw [AH.get_alloc, if_neg hqa] at hAq
  simp only [List.length_map] at hq2
  have ht : List.take 3 x.enc = x.enc := rfl
  have hw : IntKind.i64.wrap (L.length : Int) = L.length := i64_in (by omega) (by omega)
  have hobq : ob' ≠ some q := by
    rcases g4 with rfl | rfl
    · exact h3
    · intro e; injection e with e; simp only [AH.next_alloc] at e hqn; omega
  have s3 : QS (A2.set q (.row [.bool true, .slice a' (L.length + 1) c'] 84 false)) q ob' (L ++ [x]) := by
    refine ⟨_, by rw [AH.get_set, if_pos rfl], ?_, hobq⟩
    have := g2.kept (A' := A2.set q (.row [.bool true, .slice a' (L.length + 1) c'] 84 false)) fun b hb => by rw [AH.get_set, if_neg (fun e => hobq (by rw [hb, e]))]
    simpa using this
  simp [hnl, hAq, hqa, AH.get_alloc, g1, hq2, hxl, AH.get_set, ht, hw]
  refine CN.use (fix_ok s3 (by omega) h.2) ?_
  rintro _ A3 hw3 hn3 ⟨L', s4, p4, hp4, k4⟩
  simp
  simp only [AH.next_set, AH.next_alloc] at *
  refine DN.of ⟨L', ob', ⟨s4, hp4⟩, p4.trans List.perm_append_comm, fun b b1 b2 b3 => ?_, ?_⟩
  · rw [k4 b (by simp only [AH.next_set]; omega) b2 (by
      rcases g4 with rfl | rfl
      · exact b3
      · intro e; injection e with e; omega), AH.get_set, if_neg b2, g3 b (by omega) b3, AH.get_alloc, if_neg (by omega)]
  · rcases g4 with rfl | rfl
    · exact Or.inl rfl
    · exact Or.inr (Fresh.yes (by omega))
theorem pop_none {A : AH} {q : Nat} {ob : Option Nat} (h : QH A q ob []) : ACall Try.prog 24 [.pointer (some ⟨q, 0, none⟩)] A fun v A' => v = .tuple #[.agg (⟨0, 0, 0⟩ : It).enc.toArray, .int .i64 8] ∧ Ext A A' := by
  refine code24.call (by simp) fun hwf => ?_
  unfold c24
  simp
  have hx0 := Ext.alloc A (.row [.int .i64 0, .int .i64 0, .int .i64 0] 67 false)
  have h0 := h.1.ext hwf hx0
  refine CN.use (good_ok h0) ?_
  rintro _ _ - - ⟨rfl, rfl⟩
  simp
  refine CN.use (qlen_ok h0) ?_
  rintro _ _ - - ⟨rfl, rfl⟩
  simp
  exact DN.of ⟨rfl, hx0⟩
theorem pop_ok {A : AH} {q : Nat} {ob : Option Nat} {L : List It} (h : QH A q ob L) (h0 : 0 < L.length) (hL : L.length ≤ 100000) : ACall Try.prog 24 [.pointer (some ⟨q, 0, none⟩)] A fun v A' => ∃ L' x, v = .tuple #[.agg x.enc.toArray, .int .i64 0] ∧ QH A' q ob L' ∧ L.Perm (x :: L') ∧ (∀ y ∈ L, leI x y) ∧ Kq A A' q ob := by
  refine code24.call (by simp) fun hwf => ?_
  unfold c24
  simp
  have hx0 := Ext.alloc A (.row [.int .i64 0, .int .i64 0, .int .i64 0] 67 false)
  have g0 := h.ext hwf hx0
  refine CN.use (good_ok g0.1) ?_
  rintro _ _ - - ⟨rfl, rfl⟩
  simp
  refine CN.use (qlen_ok g0.1) ?_
  rintro _ _ - - ⟨rfl, rfl⟩
  have hne : ¬ L = [] := fun e => by rw [e] at h0; simp at h0
  simp [hne]
  refine CN.use (hpop_ok g0 h0 hL) ?_
  rintro _ A1 hw1 hn1 ⟨L', x, rfl, s1, p1, m1, k1⟩
  have hxl : x.enc.length = 3 := rfl
  have hoc : ∀ y ∈ x.enc, oneB y = true := List.all_eq_true.1 (rfl : x.enc.all oneB = true)
  have hob : ∀ b, ob = some b → b < A.next := fun b hb => by
    have hobt := h.1
    obtain ⟨v, h1, h2, h3⟩ := hobt
    exact h2.lt hwf hb
  have hqn : q < A.next := by
    have hobt := h.1
    obtain ⟨v, h1, h2, h3⟩ := hobt
    exact hwf _ _ h1
  have hA : A1.get A.next = some (.row [.int .i64 0, .int .i64 0, .int .i64 0] 67 false) := by
    rw [k1 A.next (by simp) (by omega) (fun e => by have := hob _ e; omega), AH.get_new]
  simp only [AH.next_alloc] at hn1
  have hn2 : ¬ A1.next = A.next := by omega
  have hn3 : ¬ A.next = A1.next := by omega
  have ht : List.take 3 x.enc = x.enc := rfl
  simp [hA, AH.get_alloc, AH.get_set, hxl, hn2, hn3, ht]
  have keep : ∀ b, b < A.next → ((A1.alloc (.row x.enc 67 false)).set A.next (.row x.enc 67 false)).get b = A1.get b := fun b hb => by
    rw [AH.get_set, if_neg (by omega), AH.get_alloc, if_neg (by omega)]
  refine ⟨hoc, DN.of ⟨L', x, rfl, ⟨s1.1.kept (keep q hqn) fun b hb => keep b (hob b hb), s1.2⟩, p1, m1, fun b b1 b2 b3 => ?_⟩⟩
  rw [keep b b1, k1 b (by simp only [AH.next_alloc]; omega) b2 b3, AH.get_alloc, if_neg (by omega)]
theorem qnew_ok (A : AH) : ACall Try.prog 22 [] A fun v A' => v = .pointer (some ⟨A.next, 0, none⟩) ∧ QH A' A.next none [] ∧ Ext A A' := by
  refine code22.call (by simp) fun hwf => ?_
  unfold c22
  simp
  exact DN.of ⟨rfl, ⟨⟨_, AH.get_new _ _, Lq.nil _ _ _, by simp⟩, fun i h0 h1 => by simp at h1⟩, Ext.alloc A _⟩
end Go.Proofs.Ytolifpkbkjofaaa.AC
/- Sorting, as far as that all that lay there lies there behind. -/
namespace Go.Proofs.Ytolifpkbkjofaaa.AC
open Go Go.AI Go.Proofs Go.Proofs.Ytolifpkbkjofaaa.AQ
set_option linter.unusedVariables false
/-- All but a block is as it was. -/
def Ko (A A' : AH) (ob : Option Nat) : Prop := ∀ b, b < A.next → ob ≠ some b → A'.get b = A.get b
theorem Ko.refl (A : AH) (ob : Option Nat) : Ko A A ob := fun _ _ _ => rfl
theorem sw_perm {l : List Int} {i j : Nat} (hi : i < l.length) (hj : j < l.length) : ((l.set i l[j]).set j l[i]).Perm l := List.set_set_perm hi hj
theorem isort_ok {A : AH} {ob : Option Nat} {v cv : Value} {L : List Int} (h : Lq A 3 1 ob v (ints L)) (hL : L.length ≤ 100000) (f : FuncId)
    (hf : ∀ (A1 : AH) (x y : Int), Ko A A1 ob → x ∈ L → y ∈ L → ACall Try.prog f [.int .i64 x, .int .i64 y, cv] A1 fun v A' => (∃ n, v = .int .i64 n) ∧ A' = A1) :
    ACall Try.prog 45 [v, .int .i64 0, .int .i64 L.length, .func (.func f) #[] #[cv]] A fun _ A' => ∃ L', L'.Perm L ∧ Lq A' 3 1 ob v (ints L') ∧ Ko A A' ob ∧ A'.next = A.next := by
  refine code45.call (by simp) fun hwf => ?_
  unfold c45
  have hw1 : IntKind.i64.wrap 1 = 1 := by decide
  simp [hw1]
  refine LN.use (fun m E A' => ∃ (k : Nat) (L' : List Int), m = L.length - k ∧ 1 ≤ k ∧ L'.Perm L ∧ Lq A' 3 1 ob v (ints L') ∧ Ko A A' ob ∧ A'.next = A.next ∧ E.get 0 = v ∧ E.get 1 = .int .i64 0 ∧ E.get 2 = .int .i64 L.length ∧ E.get 3 = .func (.func f) #[] #[cv] ∧ E.get 8 = .int .i64 k) (L.length - 1)
    ⟨1, L, rfl, Nat.le_refl _, List.Perm.refl L, h, Ko.refl _ _, rfl, by simp, by simp, by simp, by simp, by simp⟩ ?_
  rintro m E A1 hwA hnA ⟨k, L1, rfl, hk1, p1, h1, k1, n1, e0, e1, e2, e3, e8⟩
  have hlen := p1.length_eq
  by_cases hlt : (k : Int) < L.length
  · simp [e0, e1, e2, e3, e8, hlt]
    refine LN.use (fun m E A' => ∃ (j : Nat) (L' : List Int), m = j ∧ j < L.length ∧ L'.Perm L ∧ Lq A' 3 1 ob v (ints L') ∧ Ko A A' ob ∧ A'.next = A.next ∧ E.get 0 = v ∧ E.get 1 = .int .i64 0 ∧ E.get 2 = .int .i64 L.length ∧ E.get 3 = .func (.func f) #[] #[cv] ∧ E.get 8 = .int .i64 k ∧ E.get 9 = .int .i64 j) k
      ⟨k, L1, rfl, by omega, p1, h1, k1, n1, by simp [e0], by simp [e1], by simp [e2], by simp [e3], by simp [e8], by simp⟩ ?_
    rintro m E A2 hwB hnB ⟨j, L2, rfl, hj, p2, h2, k2, n2, e0, e1, e2, e3, e8, e9⟩
    have hlen2 := p2.length_eq
    rcases Nat.eq_zero_or_pos m with rfl | hpos
    · simp [e0, e1, e2, e3, e8, e9]
      exact NX.of ⟨L.length - (k + 1), by omega, k + 1, L2, rfl, by omega, p2, h2, k2, n2, by simp [e0], by simp [e1], by simp [e2], by simp [e3], by simp [i64_in (x := (k : Int) + 1) (by omega) (by omega)]⟩
    · have hgt : (0 : Int) < m := by omega
      have hw2 : IntKind.i64.wrap ((m : Int) - 1) = ((m - 1 : Nat) : Int) := by rw [i64_in (by omega) (by omega)]; omega
      have hobt := h2.open2 (i := m) (j := m - 1) (by simp; omega) (by simp; omega)
      obtain ⟨b, c, cs, hob, hv, h3, h4, h5, h6, h7, -, -, -, -, h8⟩ := hobt
      subst hv
      have hg1 : cs[m]? = some (.int .i64 (L2[m]'(by omega))) := by
        have := at_cell (i := 0) h6 (by omega)
        simpa [ints] using this
      have hg2 : cs[m - 1]? = some (.int .i64 (L2[m - 1]'(by omega))) := by
        have := at_cell (i := 0) h7 (by omega)
        simpa [ints] using this
      have hm1 : m - 1 < L2.length := by omega
      have hm2 : m < L2.length := by omega
      have hm3 : m ≤ L2.length := by omega
      simp [e0, e1, e2, e3, e8, e9, hgt, hw2, h3, hg1, hg2, hm1, hm2, hm3, hpos]
      refine CN.use (hf A2 _ _ k2 (p2.mem_iff.1 (List.getElem_mem hm2)) (p2.mem_iff.1 (List.getElem_mem hm1))) ?_
      rintro _ _ - - ⟨⟨r, rfl⟩, rfl⟩
      by_cases hr : r < 0
      · have hl1 : (spl cs m [Value.int .i64 (L2[m - 1]'hm1)]).length = cs.length := spl_length _ _ _ (by simp; omega)
        have hfit : m + 1 ≤ cs.length := by omega
        have hfit2 : m - 1 + 1 ≤ cs.length := by omega
        simp [e0, e1, e2, e3, e8, e9, hr, hw2, h3, hg1, hg2, hm1, hm2, hm3, hpos, hl1, hfit, hfit2, AH.get_set]
        have e : ints ((L2.set m (L2[m - 1]'hm1)).set (m - 1) (L2[m]'hm2)) = ((ints L2).set m [Value.int .i64 (L2[m - 1]'hm1)]).set (m - 1) [Value.int .i64 (L2[m]'hm2)] := by unfold ints; rw [List.map_set, List.map_set]
        rw [show (ints L2)[m - 1]'(by simp; omega) = [Value.int .i64 (L2[m - 1]'hm1)] from by simp [ints], show (ints L2)[m]'(by simp; omega) = [Value.int .i64 (L2[m]'hm2)] from by simp [ints], ← e] at h8
        simp only [Nat.mul_one] at h8
        refine NX.of ⟨m - 1, by omega, m - 1, _, rfl, by omega, (sw_perm hm2 hm1).trans p2, h8, fun b' g1 g2 => ?_, n2, by simp [e0], by simp [e1], by simp [e2], by simp [e3], by simp [e8], by simp [hw2]⟩
        rw [AH.get_set, if_neg (fun e => g2 (by rw [hob, e]))]; exact k2 b' g1 g2
      · simp [hr, e8]
        exact NX.of ⟨L.length - (k + 1), by omega, k + 1, L2, rfl, by omega, p2, h2, k2, n2, by simp [e0], by simp [e1], by simp [e2], by simp [e3], by simp [i64_in (x := (k : Int) + 1) (by omega) (by omega)]⟩
  · simp [e2, e8, hlt]
    exact DN.of ⟨L1, p1, h1, k1, n1⟩
theorem stab_ok {A : AH} {ob : Option Nat} {v cv : Value} {L : List Int} (h : Lq A 3 1 ob v (ints L)) (hL : L.length < 20) (f : FuncId)
    (hf : ∀ (A1 : AH) (x y : Int), Ko A A1 ob → x ∈ L → y ∈ L → ACall Try.prog f [.int .i64 x, .int .i64 y, cv] A1 fun v A' => (∃ n, v = .int .i64 n) ∧ A' = A1) :
    ACall Try.prog 44 [v, .int .i64 L.length, .func (.func f) #[] #[cv]] A fun _ A' => ∃ L', L'.Perm L ∧ Lq A' 3 1 ob v (ints L') ∧ Ko A A' ob ∧ A'.next = A.next := by
  refine code44.call (by simp) fun hwf => ?_
  unfold c44
  have h20 : ¬ (20 : Int) ≤ L.length := by omega
  have h21 : ¬ (20 : Int) < L.length := by omega
  simp
  refine LN.use (fun m E A' => A' = A ∧ E.get 0 = v ∧ E.get 1 = .int .i64 L.length ∧ E.get 2 = .func (.func f) #[] #[cv] ∧ E.get 6 = .int .i64 20 ∧ E.get 7 = .int .i64 0 ∧ E.get 8 = .int .i64 20) 0
    ⟨rfl, by simp, by simp, by simp, by simp, by simp, by simp⟩ ?_
  rintro m E A1 hwA hnA ⟨rfl, e0, e1, e2, e6, e7, e8⟩
  simp [e0, e1, e2, e6, e7, e8, h20]
  refine CN.use (isort_ok h (by omega) f hf) ?_
  rintro _ A2 hw2 hn2 ⟨L', p, h1, k1, n1⟩
  simp
  refine LN.use (fun m E A' => A' = A2 ∧ E.get 1 = .int .i64 L.length ∧ E.get 6 = .int .i64 20) 0
    ⟨rfl, by simp [e1], by simp [e6]⟩ ?_
  rintro m E A3 hwB hnB ⟨rfl, e1, e6⟩
  simp [e1, e6, h21]
  exact DN.of ⟨L', p, h1, k1, n1⟩
theorem sort_ok {A : AH} {ob : Option Nat} {v cv : Value} {L : List Int} (h : Lq A 3 1 ob v (ints L)) (hL : L.length < 20) (f : FuncId)
    (hf : ∀ (A1 : AH) (x y : Int), Ko A A1 ob → x ∈ L → y ∈ L → ACall Try.prog f [.int .i64 x, .int .i64 y, cv] A1 fun v A' => (∃ n, v = .int .i64 n) ∧ A' = A1) :
    ACall Try.prog 41 [v, .func (.func f) #[] #[cv]] A fun _ A' => ∃ L', L'.Perm L ∧ Lq A' 3 1 ob v (ints L') ∧ Ko A A' ob ∧ A'.next = A.next := by
  have hobt := h.sl
  obtain ⟨a, c, rfl, -⟩ := hobt
  rw [ints_len] at h
  refine code41.call (by simp) fun hwf => ?_
  unfold c41
  simp
  refine CN.use (stab_ok h hL f hf) ?_
  rintro _ A2 hw2 hn2 ⟨L', p, h1, k1, n1⟩
  simp
  exact DN.of ⟨L', p, by simpa using h1, k1, n1⟩
end Go.Proofs.Ytolifpkbkjofaaa.AC
/- The links that go out of a node. -/
namespace Go.Proofs.Ytolifpkbkjofaaa.AC
open Go Go.AI Go.Proofs Go.Proofs.Ytolifpkbkjofaaa.AQ
set_option linter.unusedVariables false
def Lk0 : Lk := ⟨0, 0, 0, 0, 0⟩
def lk (ks : List Lk) (i : Nat) : Lk := ks.getD i Lk0
theorem lk_eq {ks : List Lk} {i : Nat} (h : i < ks.length) : lk ks i = ks[i] := by simp [lk, List.getD, h]
/-- The links of a node among the first k, by their numbers. -/
def outsN (ks : List Lk) (x : Int) (k : Nat) : List Int := ((List.range k).filter fun i => decide ((lk ks i).f = x)).map Int.ofNat
theorem outsN_succ (ks : List Lk) (x : Int) (k : Nat) : outsN ks x (k + 1) = outsN ks x k ++ if (lk ks k).f = x then [(k : Int)] else [] := by
  unfold outsN
  rw [List.range_succ, List.filter_append, List.map_append]
  by_cases h : (lk ks k).f = x <;> simp [h]
theorem outsN_mem {ks : List Lk} {x i : Int} {k : Nat} : i ∈ outsN ks x k ↔ ∃ j : Nat, j < k ∧ i = j ∧ (lk ks j).f = x := by
  unfold outsN
  simp only [List.mem_map, List.mem_filter, List.mem_range, decide_eq_true_eq]
  constructor
  · rintro ⟨j, ⟨h1, h2⟩, rfl⟩; exact ⟨j, h1, rfl, h2⟩
  · rintro ⟨j, h1, rfl, h2⟩; exact ⟨j, ⟨h1, h2⟩, rfl⟩
theorem lks_at {A : AH} {a : Option Addr} {ks : List Lk} (h : Sl A 53 5 a (ks.map Lk.enc)) {i : Nat} (hi : i < ks.length) :
    ∃ b o cs, ∃ q : TypeId × Bool, a = some ⟨b, o, none⟩ ∧ A.get b = some (.row cs q.1 q.2) ∧ o + i * 5 + 5 ≤ cs.length ∧ (cs.drop (o + i * 5)).take 5 = (lk ks i).enc ∧ cs[o + i * 5]? = some (.int .i64 (lk ks i).f) ∧ cs[o + i * 5 + 1]? = some (.int .i64 (lk ks i).t) ∧ cs[o + i * 5 + 3]? = some (.int .i64 (lk ks i).m) := by
  have hobt := h.at (i := i) (by simpa using hi)
  obtain ⟨b, o, cs, q, h1, h2, h3, h4⟩ := hobt
  rw [List.getElem_map, ← lk_eq hi] at h4
  refine ⟨b, o, cs, q, h1, h2, h3, h4, ?_, ?_, ?_⟩
  · have := at_cell (i := 0) h4 (by omega); simpa [Lk.enc] using this
  · have := at_cell (i := 1) h4 (by omega); simpa [Lk.enc] using this
  · have := at_cell (i := 3) h4 (by omega); simpa [Lk.enc] using this
theorem outs1_ok {A : AH} {a : Option Addr} {c p : Nat} {ks : List Lk} (h : Sl A 53 5 a (ks.map Lk.enc)) (hb : A.get p = some (.row [.slice a ks.length c] 28 false)) {x y : Nat} (hx : x < ks.length) (hy : y < ks.length) :
    ACall Try.prog 42 [.int .i64 x, .int .i64 y, .pointer (some ⟨p, 0, none⟩)] A fun v A' => (∃ n, v = .int .i64 n) ∧ A' = A := by
  have hobt := lks_at h hx
  obtain ⟨b, o, cs, q, rfl, h2, h3, -, -, h4, -⟩ := hobt
  have hobt := lks_at h hy
  obtain ⟨b', o', cs', q', hab, h2', h3', -, -, h4', -⟩ := hobt
  injection hab with hab
  injection hab with hb1 hb2 _
  subst hb1 hb2
  rw [h2] at h2'
  injection h2' with h2'
  injection h2' with h2' _ _
  subst h2'
  refine code42.call (by simp) fun hwf => ?_
  unfold c42
  simp [hb, hx, hy, h2, h4, h4']
  refine CN.use (compare_ok _ _ A) ?_
  rintro _ _ - - ⟨rfl, rfl⟩
  simp
  exact DN.of ⟨⟨_, rfl⟩, rfl⟩
theorem outs_ok {A : AH} {a : Option Addr} {c : Nat} {ks : List Lk} (h : Sl A 53 5 a (ks.map Lk.enc)) (x : Int) (hn : ks.length ≤ 1000) (hs : (outsN ks x ks.length).length < 20) :
    ACall Try.prog 36 [.slice a ks.length c, .int .i64 x] A fun v A' => ∃ ob L', L'.Perm (outsN ks x ks.length) ∧ Lq A' 3 1 ob v (ints L') ∧ Fresh A.next ob ∧ Ext A A' := by
  refine code36.call (by simp) fun hwf => ?_
  unfold c36
  simp
  have hx0 := Ext.alloc A (.row [.slice a ks.length c] 28 false)
  refine LN.use (fun m E A' => ∃ (k : Nat) (ob : Option Nat) (v : Value), m + k = ks.length ∧ Ext A A' ∧ A.next + 1 ≤ A'.next ∧ A'.get A.next = some (.row [.slice a ks.length c] 28 false) ∧ Lq A' 3 1 ob v (ints (outsN ks x k)) ∧ Fresh (A.next + 1) ob ∧ E.get 1 = .int .i64 x ∧ E.get 2 = .pointer (some ⟨A.next, 0, none⟩) ∧ E.get 5 = v ∧ E.get 8 = .slice a ks.length c ∧ E.get 9 = .int .i64 ks.length ∧ E.get 10 = .int .i64 k) ks.length
    ⟨0, none, _, by omega, hx0, by simp, AH.get_new _ _, Lq.nil _ _ _, Fresh.no _, by simp, by simp, by simp, by simp, by simp, by simp⟩ ?_
  rintro m E A1 hw1 hn1 ⟨k, ob, v, hk, x1, n1, b1, q1, f1, e1, e2, e5, e8, e9, e10⟩
  have hsl := h.ext hwf x1
  by_cases hlt : (k : Int) < ks.length
  · obtain ⟨b, o, cs, q, ha, g2, g3, g4, -, -, -⟩ := lks_at hsl (i := k) (by omega)
    have hks : k < ks.length := by omega
    have hl : (lk ks k).enc.length = 5 := rfl
    have hoc : ∀ y ∈ (lk ks k).enc, oneB y = true := List.all_eq_true.1 (rfl : (lk ks k).enc.all oneB = true)
    have hne : A.next ≠ A1.next := by omega
    have h00 : (lk ks k).enc[0] = .int .i64 (lk ks k).f := rfl
    have hb1 : A.next < A1.next := by omega
    have x2 := x1.app (by omega) (.row (lk ks k).enc 53 false)
    have q2 : Lq (A1.alloc (.row (lk ks k).enc 53 false)) 3 1 ob v (ints (outsN ks x k)) := q1.kept fun b hb => by have := q1.lt hw1 hb; rw [AH.get_alloc, if_neg (by omega)]
    have b2 : (A1.alloc (.row (lk ks k).enc 53 false)).get A.next = some (.row [.slice a ks.length c] 28 false) := by rw [AH.get_alloc, if_neg hne]; exact b1
    have hw2 := AH.wf_alloc hw1 (.row (lk ks k).enc 53 false)
    have hst := outsN_succ ks x k
    by_cases hf : (lk ks k).f = x
    · rw [if_pos hf] at hst
      have hle : (outsN ks x k).length ≤ k := by
        unfold outsN; rw [List.length_map]; exact Nat.le_trans (List.length_filter_le _ _) (by simp)
      have hobt := q2.push (y := 8) hw2 (r := [.int .i64 k]) ⟨rfl, rfl⟩ (by omega) (by omega) (by simp; omega) (by simp; omega)
      obtain ⟨v', A2, ob', p1, p2, p3, p4, p5⟩ := hobt
      simp only [AH.next_alloc] at p1 p3 p4 p5
      subst ha
      have hobt := q1.sl
      obtain ⟨a', c', rfl, -⟩ := hobt
      simp only [ints_len] at p1
      simp [e1, e2, e5, e8, e9, e10, hlt, hks, g2, g3, g4, hl, h00, hf, AH.get_alloc, AH.get_set, p1]
      refine ⟨hoc, ?_⟩
      refine NX.of ⟨m - 1, by omega, k + 1, ob', v', by omega, fun b' hb' => ?_, by omega, ?_, by rw [hst]; unfold ints at p2 ⊢; rw [List.map_append]; exact p2, ?_, by simp [e1], by simp [e2], by simp, by simp [e8], by simp [e9], by simp [i64_in (x := (k : Int) + 1) (by omega) (by omega)]⟩
      · rw [p3 b' (by omega) (fun e => by have := f1 b' e; omega)]; exact x2 b' hb'
      · rw [p3 A.next (by omega) (fun e => by have := f1 _ e; omega)]; exact b2
      · rcases p4 with rfl | rfl
        · exact f1
        · exact Fresh.yes (by omega)
    · rw [if_neg hf, List.append_nil] at hst
      subst ha
      simp [e1, e2, e5, e8, e9, e10, hlt, hks, g2, g3, g4, hl, h00, hf, AH.get_alloc, AH.get_set]
      refine ⟨hoc, ?_⟩
      exact NX.of ⟨m - 1, by omega, k + 1, ob, v, by omega, x2, by simp; omega, b2, by rw [hst]; exact q2, f1, by simp [e1], by simp [e2], by simp [e5], by simp [e8], by simp [e9], by simp [i64_in (x := (k : Int) + 1) (by omega) (by omega)]⟩
  · obtain rfl : k = ks.length := by omega
    simp [e2, e5, e9, e10]
    refine CN.use (sort_ok q1 hs 42 (fun A2 i j hk hi hj => ?_)) ?_
    · obtain ⟨i, hi1, rfl, -⟩ := outsN_mem.1 hi
      have hobt := outsN_mem.1 hj
      obtain ⟨j, hj1, rfl, -⟩ := hobt
      refine outs1_ok (c := c) (h.kept fun b o y ha hy => ?_) ?_ hi1 hj1
      · have hbl := hwf _ _ hy
        rw [hk b (by omega) (fun e => by have := f1 b e; omega)]
        exact x1 b hbl
      · rw [hk A.next (by omega) (fun e => by have := f1 _ e; omega)]; exact b1
    · rintro _ A2 hw2 hn2 ⟨L', p2, q2, k2, n2⟩
      simp [e5]
      refine DN.of ⟨ob, L', p2, q2, fun b hb => by have := f1 b hb; omega, fun b hb => ?_⟩
      rw [k2 b (by omega) (fun e => by have := f1 b e; omega)]; exact x1 b hb
end Go.Proofs.Ytolifpkbkjofaaa.AC
/- Networks that may be. -/
namespace Go.Proofs.Ytolifpkbkjofaaa.AC
open Go Go.AI Go.Proofs Go.Proofs.Ytolifpkbkjofaaa.AQ
set_option linter.unusedVariables false
def same (ks : List Lk) (j : Nat) (f t : Int) : Prop := (lk ks j).f = f ∧ (lk ks j).t = t
theorem find_ok {A : AH} {a : Option Addr} {c : Nat} {ks : List Lk} (h : Sl A 53 5 a (ks.map Lk.enc)) (hn : ks.length ≤ 1000000) (f t : Int) :
    ACall Try.prog 29 [.slice a ks.length c, .int .i64 f, .int .i64 t] A fun v A' => A' = A ∧ ∃ r : Int, v = .int .i64 r ∧ ((r = -1 ∧ ∀ j, j < ks.length → ¬ same ks j f t) ∨ ∃ j : Nat, r = j ∧ j < ks.length ∧ same ks j f t ∧ ∀ i, i < j → ¬ same ks i f t) := by
  refine code29.call (by simp) fun hwf => ?_
  unfold c29
  simp
  refine LN.use (fun m E A' => ∃ k : Nat, m + k = ks.length ∧ A' = A ∧ E.get 0 = .slice a ks.length c ∧ E.get 1 = .int .i64 f ∧ E.get 2 = .int .i64 t ∧ E.get 7 = .int .i64 k ∧ ∀ i, i < k → ¬ same ks i f t) ks.length
    ⟨0, by omega, rfl, by simp, by simp, by simp, by simp, fun i h => by omega⟩ ?_
  rintro m E A1 hw1 hn1 ⟨k, hk, rfl, e0, e1, e2, e7, hno⟩
  by_cases hlt : k < ks.length
  · obtain ⟨b, o, cs, q, ha, g2, g3, g4, g5, g6, -⟩ := lks_at h hlt
    subst ha
    have hi : IntKind.i64.wrap ((k : Int) + 1) = (k : Int) + 1 := i64_in (by omega) (by omega)
    have hnx : ∀ (hs : ¬ same ks k f t), ∀ i, i < k + 1 → ¬ same ks i f t := fun hs i hi => by
      by_cases e : i = k
      · rw [e]; exact hs
      · exact hno i (by omega)
    by_cases hf : (lk ks k).f = f
    · by_cases ht : (lk ks k).t = t
      · simp [e0, e1, e2, e7, hlt, g2, g5, g6, hf, ht]
        exact DN.of ⟨rfl, _, rfl, Or.inr ⟨k, rfl, hlt, ⟨hf, ht⟩, hno⟩⟩
      · simp [e0, e1, e2, e7, hlt, g2, g5, g6, hf, ht]
        exact NX.of ⟨m - 1, by omega, k + 1, by omega, rfl, by simp [e0], by simp [e1], by simp [e2], by simp [hi], hnx fun hs => ht hs.2⟩
    · simp [e0, e1, e2, e7, hlt, g2, g5, g6, hf]
      exact NX.of ⟨m - 1, by omega, k + 1, by omega, rfl, by simp [e0], by simp [e1], by simp [e2], by simp [hi], hnx fun hs => hf hs.1⟩
  · simp [e0, e7, hlt]
    exact DN.of ⟨rfl, _, rfl, Or.inl ⟨rfl, fun j hj => hno j (by omega)⟩⟩
def hasL (l : List Int) (x : Int) : Bool := decide (x ∈ l)
theorem has_ok {A : AH} {a : Option Addr} {c : Nat} {l : List Int} (h : Sl A 3 1 a (ints l)) (hl : l.length ≤ 1000000) (x : Int) :
    ACall Try.prog 27 [.slice a l.length c, .int .i64 x] A fun v A' => v = .bool (hasL l x) ∧ A' = A := by
  refine code27.call (by simp) fun hwf => ?_
  unfold c27
  simp
  refine LN.use (fun m E A' => ∃ k : Nat, m + k = l.length ∧ A' = A ∧ E.get 0 = .slice a l.length c ∧ E.get 1 = .int .i64 x ∧ E.get 5 = .int .i64 k ∧ x ∉ l.take k) l.length
    ⟨0, by omega, rfl, by simp, by simp, by simp, by simp⟩ ?_
  rintro m E A1 hw1 hn1 ⟨k, hk, rfl, e0, e1, e5, hno⟩
  by_cases hlt : k < l.length
  · obtain ⟨b, o, cs, ro, ha, g1, g2⟩ := h.one (Go.AI.ints_at (l := l) (i := k) hlt)
    subst ha
    have hi : IntKind.i64.wrap ((k : Int) + 1) = (k : Int) + 1 := i64_in (by omega) (by omega)
    by_cases hx : l[k] = x
    · simp [e0, e1, e5, hlt, g1, g2, hx]
      exact DN.of ⟨by congr 1; symm; simp only [hasL, decide_eq_true_eq]; rw [← hx]; exact List.getElem_mem hlt, rfl⟩
    · simp [e0, e1, e5, hlt, g1, g2, hx]
      refine NX.of ⟨m - 1, by omega, k + 1, by omega, rfl, by simp [e0], by simp [e1], by simp [hi], ?_⟩
      rw [List.take_succ_eq_append_getElem hlt]
      simp only [List.mem_append, List.mem_singleton, not_or]
      exact ⟨hno, fun e => hx e.symm⟩
  · simp [e0, e5, hlt]
    rw [List.take_of_length_le (by omega)] at hno
    exact DN.of ⟨by simp [hasL, hno], rfl⟩
/-- What may not be of a link. -/
def badL (n : Int) (ks : List Lk) (k : Nat) : Prop := (∃ j, j < k ∧ same ks j (lk ks k).f (lk ks k).t) ∨ (lk ks k).f < 0 ∨ n ≤ (lk ks k).f ∨ (lk ks k).t < 0 ∨ n ≤ (lk ks k).t ∨ (lk ks k).f = (lk ks k).t ∨ (lk ks k).m < 1 ∨ 65535 < (lk ks k).m
def goodN (n : Int) (ks : List Lk) : Prop := 1 ≤ n ∧ n ≤ 16 ∧ ks.length ≤ 64 ∧ ∀ k, k < ks.length → ¬ badL n ks k
/-- What a check tells. -/
def ChkP (n : Int) (ks : List Lk) (r : Int) : Prop := (r = 0 ∧ goodN n ks) ∨ (r = 3 ∧ 1 ≤ n ∧ n ≤ 16 ∧ 64 < ks.length) ∨ (r = 2 ∧ (¬ (1 ≤ n ∧ n ≤ 16) ∨ (ks.length ≤ 64 ∧ ∃ k, k < ks.length ∧ badL n ks k)))
theorem ChkP.zero {n r : Int} {ks : List Lk} (h : ChkP n ks r) : r = 0 ↔ goodN n ks := by
  rcases h with ⟨h1, h2⟩ | ⟨h1, h2, h3, h4⟩ | ⟨h1, h2⟩
  · exact ⟨fun _ => h2, fun _ => h1⟩
  · exact ⟨fun e => by omega, fun g => by have := g.2.2.1; omega⟩
  · refine ⟨fun e => by omega, fun g => ?_⟩
    rcases h2 with h2 | ⟨_, k, hk, hb⟩
    · exact absurd ⟨g.1, g.2.1⟩ h2
    · exact absurd hb (g.2.2.2 k hk)
theorem rcheck_ok {A : AH} {a : Option Addr} {c : Nat} {ks : List Lk} (h : Sl A 53 5 a (ks.map Lk.enc)) (n : Int) :
    ACall Try.prog 18 [.int .i64 n, .slice a ks.length c] A fun v A' => Ext A A' ∧ ∃ r, v = .int .i64 r ∧ ChkP n ks r := by
  refine code18.call (by simp) fun hwf => ?_
  unfold c18
  simp
  by_cases h1 : n < 1
  · simp [h1]
    exact DN.of ⟨Ext.refl A, _, rfl, Or.inr (Or.inr ⟨rfl, Or.inl (by omega)⟩)⟩
  by_cases h2 : 16 < n
  · simp [h1, h2]
    exact DN.of ⟨Ext.refl A, _, rfl, Or.inr (Or.inr ⟨rfl, Or.inl (by omega)⟩)⟩
  by_cases h3 : 64 < ks.length
  · have h3' : (64 : Int) < ks.length := by omega
    simp [h1, h2, h3']
    exact DN.of ⟨Ext.refl A, _, rfl, Or.inr (Or.inl ⟨rfl, by omega, by omega, h3⟩)⟩
  have h3' : ¬ (64 : Int) < ks.length := by omega
  simp [h1, h2, h3']
  refine LN.use (fun m E A' => ∃ k : Nat, m + k = ks.length ∧ Ext A A' ∧ A.next ≤ A'.next ∧ E.get 0 = .int .i64 n ∧ E.get 1 = .slice a ks.length c ∧ E.get 5 = .int .i64 k ∧ ∀ i, i < k → ¬ badL n ks i) ks.length
    ⟨0, by omega, Ext.refl A, Nat.le_refl _, by simp, by simp, by simp, fun i h => by omega⟩ ?_
  rintro m E A1 hw1 hn1 ⟨k, hk, x1, n1, e0, e1, e5, hno⟩
  have hsl := h.ext hwf x1
  by_cases hlt : k < ks.length
  · obtain ⟨b, o, cs, q, ha, g2, g3, g4, g5, g6, -⟩ := lks_at hsl hlt
    subst ha
    have hl : (lk ks k).enc.length = 5 := rfl
    have hoc : ∀ y ∈ (lk ks k).enc, oneB y = true := List.all_eq_true.1 (rfl : (lk ks k).enc.all oneB = true)
    have h00 : (lk ks k).enc[0] = .int .i64 (lk ks k).f := rfl
    have h01 : (lk ks k).enc[1] = .int .i64 (lk ks k).t := rfl
    have h03 : (lk ks k).enc[3] = .int .i64 (lk ks k).m := rfl
    have x2 := x1.app n1 (.row (lk ks k).enc 53 false)
    have hs2 := h.ext hwf x2
    have hi : IntKind.i64.wrap ((k : Int) + 1) = (k : Int) + 1 := i64_in (by omega) (by omega)
    have hbad : ∀ hb : badL n ks k, ChkP n ks 2 := fun hb => Or.inr (Or.inr ⟨rfl, Or.inr ⟨by omega, k, hlt, hb⟩⟩)
    by_cases b1 : (lk ks k).f < 0
    · simp [e0, e1, e5, hlt, g2, g3, g4, hl, h00, h01, h03, AH.get_alloc, AH.get_set, b1]
      exact ⟨hoc, DN.of ⟨x2, _, rfl, hbad (by unfold badL; omega)⟩⟩
    by_cases b2 : n ≤ (lk ks k).f
    · simp [e0, e1, e5, hlt, g2, g3, g4, hl, h00, h01, h03, AH.get_alloc, AH.get_set, b1, b2]
      exact ⟨hoc, DN.of ⟨x2, _, rfl, hbad (by unfold badL; omega)⟩⟩
    by_cases b3 : (lk ks k).t < 0
    · simp [e0, e1, e5, hlt, g2, g3, g4, hl, h00, h01, h03, AH.get_alloc, AH.get_set, b1, b2, b3]
      exact ⟨hoc, DN.of ⟨x2, _, rfl, hbad (by unfold badL; omega)⟩⟩
    by_cases b4 : n ≤ (lk ks k).t
    · simp [e0, e1, e5, hlt, g2, g3, g4, hl, h00, h01, h03, AH.get_alloc, AH.get_set, b1, b2, b3, b4]
      exact ⟨hoc, DN.of ⟨x2, _, rfl, hbad (by unfold badL; omega)⟩⟩
    by_cases b5 : (lk ks k).f = (lk ks k).t
    · simp [e0, e1, e5, hlt, g2, g3, g4, hl, h00, h01, h03, AH.get_alloc, AH.get_set, b1, b2, b3, b4, b5]
      exact ⟨hoc, DN.of ⟨x2, _, rfl, hbad (by unfold badL; omega)⟩⟩
    by_cases b6 : (lk ks k).m < 1
    · simp [e0, e1, e5, hlt, g2, g3, g4, hl, h00, h01, h03, AH.get_alloc, AH.get_set, b1, b2, b3, b4, b5, b6]
      exact ⟨hoc, DN.of ⟨x2, _, rfl, hbad (by unfold badL; omega)⟩⟩
    by_cases b7 : 65535 < (lk ks k).m
    · simp [e0, e1, e5, hlt, g2, g3, g4, hl, h00, h01, h03, AH.get_alloc, AH.get_set, b1, b2, b3, b4, b5, b6, b7]
      exact ⟨hoc, DN.of ⟨x2, _, rfl, hbad (by unfold badL; omega)⟩⟩
    simp [e0, e1, e5, hlt, g2, g3, g4, hl, h00, h01, h03, AH.get_alloc, AH.get_set, b1, b2, b3, b4, b5, b6, b7]
    refine ⟨hoc, CN.use (find_ok (c := c) hs2 (by omega) _ _) ?_⟩
    rintro _ A3 hw3 hn3 ⟨rfl, r, rfl, hr⟩
    by_cases hrk : r = k
    · simp [hrk, e5]
      refine NX.of ⟨m - 1, by omega, k + 1, by omega, x2, by simp; omega, by simp [e0], by simp [e1], by simp [hi], fun i hi' hb => ?_⟩
      by_cases e : i = k
      · subst e
        rcases hr with ⟨hr, _⟩ | ⟨j, hj, _, _, hm⟩
        · omega
        · obtain rfl : j = i := by omega
          rcases hb with ⟨j', hj', hs⟩ | hb
          · exact hm j' hj' hs
          · omega
      · exact hno i (by omega) hb
    · simp [hrk, e5]
      refine DN.of ⟨x2, _, rfl, hbad (Or.inl ?_)⟩
      rcases hr with ⟨hr, hm⟩ | ⟨j, hj, hjl, hs, hm⟩
      · exact absurd ⟨rfl, rfl⟩ (hm k hlt)
      · refine ⟨j, ?_, hs⟩
        by_cases hjk : j < k
        · exact hjk
        · by_cases hjk2 : j = k
          · exact absurd (by rw [hj, hjk2]) hrk
          · exact absurd ⟨rfl, rfl⟩ (hm k (by omega))
  · simp [e1, e5, hlt]
    exact DN.of ⟨x1, _, rfl, Or.inl ⟨rfl, by omega, by omega, by omega, fun i hi => hno i (by omega)⟩⟩
end Go.Proofs.Ytolifpkbkjofaaa.AC
/- graph.Check, with its map. -/
namespace Go.Proofs.Ytolifpkbkjofaaa.AC
open Go Go.AI Go.Proofs Go.Proofs.Ytolifpkbkjofaaa.AQ
set_option linter.unusedVariables false
@[simp] theorem mkm1 (A : AH) : (aMakeMap A).1 = .map (some A.next) := (rfl)
@[simp] theorem mkm2 (A : AH) : (aMakeMap A).2 = A.alloc (.mp []) := (rfl)
def endK (f t : Int) : Value := .agg #[.int .i64 f, .int .i64 t]
def endsE (ks : List Lk) (k : Nat) : List (Value × Value) := (List.range k).map fun i => (endK (lk ks i).f (lk ks i).t, .int .i64 i)
theorem endsE_succ (ks : List Lk) (k : Nat) : endsE ks (k + 1) = endsE ks k ++ [(endK (lk ks k).f (lk ks k).t, .int .i64 k)] := by
  unfold endsE; rw [List.range_succ, List.map_append]; rfl
theorem end_eq (A : AH) (f t f' t' : Int) : aEq Try.prog A 20 78 (endK f t) (endK f' t') = some (decide (f = f' ∧ t = t')) := by
  unfold endK
  simp
theorem find_none (A : AH) (f t : Int) : ∀ (l : List (Value × Value)) (i : Nat), (∀ e ∈ l, ∃ f' t', e.1 = endK f' t' ∧ ¬ (f = f' ∧ t = t')) → aFind Try.prog A 78 (endK f t) l i = some none
  | [], i, h => rfl
  | e :: l, i, h => by
    have hobt := h e List.mem_cons_self
    obtain ⟨f', t', he, hn⟩ := hobt
    simp only [aFind, he, end_eq, hn, decide_false]
    exact find_none A f t l (i + 1) fun e he => h e (List.mem_cons_of_mem _ he)
theorem find_some (A : AH) (f t : Int) : ∀ (l : List (Value × Value)) (i : Nat), (∀ e ∈ l, ∃ f' t', e.1 = endK f' t') → (∃ e ∈ l, e.1 = endK f t) → ∃ q, aFind Try.prog A 78 (endK f t) l i = some (some q)
  | [], i, _, h => by obtain ⟨x, hx, _⟩ := h; cases hx
  | e :: l, i, ha, h => by
    have hobt := ha e List.mem_cons_self
    obtain ⟨f', t', he⟩ := hobt
    simp only [aFind, he, end_eq]
    by_cases hs : f = f' ∧ t = t'
    · simp [hs]
    · simp only [hs, decide_false]
      refine find_some A f t l (i + 1) (fun e he => ha e (List.mem_cons_of_mem _ he)) ?_
      obtain ⟨y, hy, h1⟩ := h
      rcases List.mem_cons.1 hy with rfl | hy
      · rw [he] at h1
        simp [endK] at h1
        exact absurd ⟨h1.1.symm, h1.2.symm⟩ hs
      · exact ⟨y, hy, h1⟩
theorem key_ok (f t : Int) : aKey Try.prog 20 78 (endK f t) = true ∧ (Try.prog.underlying 78).isSome = true := by
  refine ⟨?_, by rw [Try.underlying78]; rfl⟩
  unfold aKey endK
  rw [Try.underlying78]
  simp [aKeyAll, aKey, Try.underlying3]
theorem look_no {A : AH} {b : Nat} {es : List (Value × Value)} {f t : Int} (hb : A.get b = some (.mp es)) (h : ∀ e ∈ es, ∃ f' t', e.1 = endK f' t' ∧ ¬ (f = f' ∧ t = t')) :
    aLookup Try.prog 76 (.map (some b)) (endK f t) true A = some (.tuple #[.int .i64 0, .bool false]) ∧ ∀ v, aMapSet Try.prog 76 (.map (some b)) (endK f t) v A = some (A.set b (.mp (es ++ [(endK f t, v)]))) := by
  have hf := find_none A f t es 0 h
  constructor
  · unfold aLookup
    simp only [mo76, hb, ze3]
    rw [if_pos (key_ok f t), hf]
    rfl
  · intro v
    unfold aMapSet
    simp only [mo76, hb]
    rw [if_pos (key_ok f t), hf]
theorem look_yes {A : AH} {b : Nat} {es : List (Value × Value)} {f t : Int} (hb : A.get b = some (.mp es)) (ha : ∀ e ∈ es, ∃ f' t', e.1 = endK f' t') (h : ∃ e ∈ es, e.1 = endK f t) :
    ∃ w, aLookup Try.prog 76 (.map (some b)) (endK f t) true A = some (.tuple #[w, .bool true]) := by
  have hobt := find_some A f t es 0 ha h
  obtain ⟨q, hq⟩ := hobt
  refine ⟨q.2, ?_⟩
  unfold aLookup
  simp only [mo76, hb, ze3]
  rw [if_pos (key_ok f t), hq]
  rfl
theorem node_ok {A : AH} {p : Nat} {n : Int} (hb : A.get p = some (.row [.int .i64 n] 3 false)) (x : Int) : ACall Try.prog 31 [.int .i64 x, .pointer (some ⟨p, 0, none⟩)] A fun v A' => v = .bool (decide (0 ≤ x ∧ x < n)) ∧ A' = A := by
  refine code31.call (by simp) fun hwf => ?_
  unfold c31
  by_cases h1 : 0 ≤ x
  · simp [h1, hb]
    exact DN.of ⟨by simp [h1], rfl⟩
  · simp [h1]
    exact DN.of ⟨by simp [h1], rfl⟩
theorem check_ok {A : AH} {a : Option Addr} {c : Nat} {ks : List Lk} (h : Sl A 53 5 a (ks.map Lk.enc)) (n : Int) :
    ACall Try.prog 21 [.int .i64 n, .slice a ks.length c] A fun v A' => Ext A A' ∧ ∃ r, v = .int .i64 r ∧ ChkP n ks r := by
  refine code21.call (by simp) fun hwf => ?_
  unfold c21
  have x0 := Ext.alloc A (.row [.int .i64 n] 3 false)
  by_cases h1 : n < 1
  · simp [h1, AH.get_alloc]
    exact DN.of ⟨x0, _, rfl, Or.inr (Or.inr ⟨rfl, Or.inl (by omega)⟩)⟩
  by_cases h2 : 16 < n
  · simp [h1, h2, AH.get_alloc]
    exact DN.of ⟨x0, _, rfl, Or.inr (Or.inr ⟨rfl, Or.inl (by omega)⟩)⟩
  by_cases h3 : 64 < ks.length
  · have h3' : (64 : Int) < ks.length := by omega
    simp [h1, h2, h3', AH.get_alloc]
    exact DN.of ⟨x0, _, rfl, Or.inr (Or.inl ⟨rfl, by omega, by omega, h3⟩)⟩
  have h3' : ¬ (64 : Int) < ks.length := by omega
  simp [h1, h2, h3', AH.get_alloc]
  refine LN.use (fun m E A' => ∃ k : Nat, m + k = ks.length ∧ Ext A A' ∧ A.next + 2 ≤ A'.next ∧ A'.get A.next = some (.row [.int .i64 n] 3 false) ∧ A'.get (A.next + 1) = some (.mp (endsE ks k)) ∧ E.get 5 = .func (.func 31) #[] #[.pointer (some ⟨A.next, 0, none⟩)] ∧ E.get 6 = .map (some (A.next + 1)) ∧ E.get 25 = .slice a ks.length c ∧ E.get 26 = .int .i64 ks.length ∧ E.get 27 = .int .i64 k ∧ ∀ i, i < k → ¬ badL n ks i) ks.length
    ⟨0, by omega, x0.app (by simp) _, by simp, by simp [AH.get_alloc], by simp [AH.get_alloc]; rfl, by simp, by simp, by simp, by simp, by simp, fun i h => by omega⟩ ?_
  rintro m E A1 hw1 hn1 ⟨k, hk, x1, n1, b1, b2, e5, e6, e25, e26, e27, hno⟩
  have hsl := h.ext hwf x1
  by_cases hlt : k < ks.length
  · obtain ⟨b, o, cs, q, ha, g2, g3, g4, g5, g6, -⟩ := lks_at hsl hlt
    subst ha
    have hl : (lk ks k).enc.length = 5 := rfl
    have hoc : ∀ y ∈ (lk ks k).enc, oneB y = true := List.all_eq_true.1 (rfl : (lk ks k).enc.all oneB = true)
    have h00 : (lk ks k).enc[0] = .int .i64 (lk ks k).f := rfl
    have h01 : (lk ks k).enc[1] = .int .i64 (lk ks k).t := rfl
    have h03 : (lk ks k).enc[3] = .int .i64 (lk ks k).m := rfl
    have hi : IntKind.i64.wrap ((k : Int) + 1) = (k : Int) + 1 := i64_in (by omega) (by omega)
    have hbad : ∀ hb : badL n ks k, ChkP n ks 2 := fun hb => Or.inr (Or.inr ⟨rfl, Or.inr ⟨by omega, k, hlt, hb⟩⟩)
    have hn2 : A.next ≠ A1.next := by omega
    have hn3 : A.next ≠ A1.next + 1 := by omega
    have hn4 : A.next + 1 ≠ A1.next := by omega
    have hn5 : A.next ≠ A1.next := by omega
    have hM : (((A1.alloc (.row (lk ks k).enc 53 false)).alloc (.row [.int .i64 0, .int .i64 0] 78 false)).set (A1.next + 1) (.row [.int .i64 (lk ks k).f, .int .i64 (lk ks k).t] 78 false)).get (A.next + 1) = some (.mp (endsE ks k)) := by
      rw [AH.get_set, if_neg (by omega), AH.get_alloc, if_neg (by simp; omega), AH.get_alloc, if_neg (by omega)]; exact b2
    have hM2 : (((A1.alloc (.row (lk ks k).enc 53 false)).alloc (.row [.int .i64 0, .int .i64 0] 78 false)).set (A1.next + 1) (.row [.int .i64 (lk ks k).f, .int .i64 (lk ks k).t] 78 false)).get A.next = some (.row [.int .i64 n] 3 false) := by
      rw [AH.get_set, if_neg (by omega), AH.get_alloc, if_neg (by simp; omega), AH.get_alloc, if_neg (by omega)]; exact b1
    have x2 := ((x1.app (by omega) (.row (lk ks k).enc 53 false)).app (by simp; omega) (.row [.int .i64 0, .int .i64 0] 78 false)).setnew (c := A1.next + 1) (by omega) (.row [.int .i64 (lk ks k).f, .int .i64 (lk ks k).t] 78 false)
    have hends : ∀ e ∈ endsE ks k, ∃ f' t', e.1 = endK f' t' := fun e he => by
      unfold endsE at he
      have hobt := List.mem_map.1 he
      obtain ⟨i, _, rfl⟩ := hobt
      exact ⟨_, _, rfl⟩
    by_cases htw : ∃ j, j < k ∧ same ks j (lk ks k).f (lk ks k).t
    · have hlk := look_yes hM hends (f := (lk ks k).f) (t := (lk ks k).t) (by
        obtain ⟨j, hj, h1, h2⟩ := htw
        refine ⟨(endK (lk ks j).f (lk ks j).t, .int .i64 j), ?_, by rw [h1, h2]⟩
        unfold endsE
        exact List.mem_map.2 ⟨j, List.mem_range.2 hj, rfl⟩)
      obtain ⟨w, hw⟩ := hlk
      unfold endK at hw
      simp [e5, e6, e25, e26, e27, hlt, g2, g3, g4, hl, h00, h01, h03, AH.get_alloc, AH.get_set, hw]
      refine ⟨hoc, ?_⟩
      exact DN.of ⟨x2, _, rfl, hbad (Or.inl htw)⟩
    · have hlk := look_no hM (f := (lk ks k).f) (t := (lk ks k).t) (by
        intro e he
        unfold endsE at he
        have hobt := List.mem_map.1 he
        obtain ⟨i, hi, rfl⟩ := hobt
        refine ⟨_, _, rfl, fun hs => htw ⟨i, List.mem_range.1 hi, hs.1.symm, hs.2.symm⟩⟩)
      obtain ⟨hw, hw2⟩ := hlk
      unfold endK at hw hw2
      simp [e5, e6, e25, e26, e27, hlt, g2, g3, g4, hl, h00, h01, h03, AH.get_alloc, AH.get_set, hw]
      refine ⟨hoc, CN.use (node_ok hM2 _) ?_⟩
      rintro _ _ - - ⟨rfl, rfl⟩
      by_cases b1 : (lk ks k).f < 0 ∨ n ≤ (lk ks k).f
      · have b1' : ¬ (0 ≤ (lk ks k).f ∧ (lk ks k).f < n) := by omega
        simp [b1', AH.get_alloc, AH.get_set, hl, h00, h01, h03]
        exact DN.of ⟨x2, _, rfl, hbad (by unfold badL; omega)⟩
      have b1' : (0 ≤ (lk ks k).f ∧ (lk ks k).f < n) := by omega
      simp [b1', AH.get_alloc, AH.get_set, hl, h00, h01, h03, e5]
      refine CN.use (node_ok hM2 _) ?_
      rintro _ _ - - ⟨rfl, rfl⟩
      by_cases b3 : (lk ks k).t < 0 ∨ n ≤ (lk ks k).t
      · have b3' : ¬ (0 ≤ (lk ks k).t ∧ (lk ks k).t < n) := by omega
        simp [b3', AH.get_alloc, AH.get_set, hl, h00, h01, h03]
        exact DN.of ⟨x2, _, rfl, hbad (by unfold badL; omega)⟩
      have b3' : (0 ≤ (lk ks k).t ∧ (lk ks k).t < n) := by omega
      by_cases b5 : (lk ks k).f = (lk ks k).t
      · simp [b3', AH.get_alloc, AH.get_set, hl, h00, h01, h03, b5]
        rw [b5] at x2
        exact DN.of ⟨x2, _, rfl, hbad (by unfold badL; omega)⟩
      by_cases b6 : (lk ks k).m < 1
      · simp [b3', AH.get_alloc, AH.get_set, hl, h00, h01, h03, b5, b6]
        exact DN.of ⟨x2, _, rfl, hbad (by unfold badL; omega)⟩
      by_cases b7 : 65535 < (lk ks k).m
      · simp [b3', AH.get_alloc, AH.get_set, hl, h00, h01, h03, b5, b6, b7]
        exact DN.of ⟨x2, _, rfl, hbad (by unfold badL; omega)⟩
      simp [b3', AH.get_alloc, AH.get_set, hl, h00, h01, h03, b5, b6, b7, hw2, e6, e26, e27]
      refine NX.of ⟨m - 1, by omega, k + 1, by omega, x2.setnew (by omega) _, by simp; omega, ?_, ?_, by simp [e5], by simp [e6], by simp [e25], by simp [e26], by simp [hi], fun i hi' hb => ?_⟩
      · rw [AH.get_set, if_neg (by omega)]; exact hM2
      · rw [AH.get_set, if_pos rfl, endsE_succ]; rfl
      · by_cases e : i = k
        · subst e
          rcases hb with hb | hb
          · exact htw hb
          · omega
        · exact hno i (by omega) hb
  · simp [e26, e27, hlt]
    exact DN.of ⟨x1, _, rfl, Or.inl ⟨rfl, by omega, by omega, by omega, fun i hi => hno i (by omega)⟩⟩
end Go.Proofs.Ytolifpkbkjofaaa.AC
/- Ways through a network, without the program. -/
namespace Go.Proofs.Ytolifpkbkjofaaa.AC
open Go Go.AI Go.Proofs
set_option linter.unusedVariables false
theorem cmpL_le_trans : ∀ {a b c : List Int}, cmpL a b ≤ 0 → cmpL b c ≤ 0 → cmpL a c ≤ 0
  | [], _, [], _, _ => by simp [cmpL]
  | [], _, _ :: _, _, _ => by simp [cmpL]
  | _ :: _, [], _, h, _ => by simp [cmpL] at h
  | _ :: _, _ :: _, [], _, h => by simp [cmpL] at h
  | x :: xs, y :: ys, z :: zs, h1, h2 => by
    have ih := @cmpL_le_trans xs ys zs
    unfold cmpL cmpI at h1 h2 ⊢
    repeat' split at h1
    all_goals repeat' split at h2
    all_goals repeat' split
    all_goals first | omega | (refine ih (by omega) (by omega))
theorem cmpL_snoc (x : Int) : ∀ {a b : List Int}, a.length = b.length → cmpL (a ++ [x]) (b ++ [x]) = cmpL a b
  | [], [], _ => by simp [cmpL, cmpI]
  | [], _ :: _, h => by simp at h
  | _ :: _, [], h => by simp at h
  | y :: ys, z :: zs, h => by
    simp only [List.cons_append, cmpL, cmpL_snoc x (a := ys) (b := zs) (by simpa using h)]
theorem betB_iff {c c' : Int} {l l' : List Int} : betB c l c' l' = true ↔ c < c' ∨ (c = c' ∧ (l.length < l'.length ∨ (l.length = l'.length ∧ cmpL l l' < 0))) := by
  unfold betB
  split
  · simp; omega
  · split
    · simp; omega
    · simp; omega
/-- Not worse. -/
def leB (c : Int) (l : List Int) (c' : Int) (l' : List Int) : Prop := betB c' l' c l = false
theorem leB_iff {c c' : Int} {l l' : List Int} : leB c l c' l' ↔ c < c' ∨ (c = c' ∧ (l.length < l'.length ∨ (l.length = l'.length ∧ cmpL l l' ≤ 0))) := by
  unfold leB
  rw [← Bool.not_eq_true, betB_iff, cmpL_neg l l']
  omega
theorem leB.cost {c c' : Int} {l l' : List Int} (h : leB c l c' l') : c ≤ c' := by rw [leB_iff] at h; omega
theorem leB.of_cost {c c' : Int} {l l' : List Int} (h : c < c') : leB c l c' l' := by rw [leB_iff]; exact Or.inl h
theorem leB.of_bet {c c' : Int} {l l' : List Int} (h : betB c l c' l' = true) : leB c l c' l' := by rw [betB_iff] at h; rw [leB_iff]; omega
theorem leB.refl (c : Int) (l : List Int) : leB c l c l := by rw [leB_iff]; have := cmpL_zero.2 (rfl : l = l); omega
theorem leB.trans {c c' c'' : Int} {l l' l'' : List Int} (h1 : leB c l c' l') (h2 : leB c' l' c'' l'') : leB c l c'' l'' := by
  rw [leB_iff] at *
  have := @cmpL_le_trans l l' l''
  omega
theorem leB.anti {c c' : Int} {l l' : List Int} (h1 : leB c l c' l') (h2 : leB c' l' c l) : c = c' ∧ l = l' := by
  rw [leB_iff] at *
  rw [cmpL_neg l l'] at h2
  exact ⟨by omega, cmpL_zero.1 (by omega)⟩
theorem leB.snoc {c c' m x : Int} {l l' : List Int} : leB (c + m) (l ++ [x]) (c' + m) (l' ++ [x]) ↔ leB c l c' l' := by
  rw [leB_iff, leB_iff]
  by_cases h : l.length = l'.length
  · rw [cmpL_snoc x h]; simp
  · simp; try omega
/-- A walk from s, where it ends, and what it costs. -/
inductive Wk (ks : List Lk) (s : Int) : Int → List Int → Int → Prop where
  | one : Wk ks s s [s] 0
  | snoc (u : Int) (l : List Int) (c : Int) (i : Nat) (h : Wk ks s u l c) (hi : i < ks.length) (hf : (lk ks i).f = u) : Wk ks s (lk ks i).t (l ++ [(lk ks i).t]) (c + (lk ks i).m)
theorem goodN.link {n : Int} {ks : List Lk} (h : goodN n ks) {i : Nat} (hi : i < ks.length) : 0 ≤ (lk ks i).f ∧ (lk ks i).f < n ∧ 0 ≤ (lk ks i).t ∧ (lk ks i).t < n ∧ (lk ks i).f ≠ (lk ks i).t ∧ 1 ≤ (lk ks i).m ∧ (lk ks i).m ≤ 65535 := by
  have := h.2.2.2 i hi
  unfold badL at this
  omega
section
variable {n s : Int} {ks : List Lk}
theorem Wk.ne {v c : Int} {l : List Int} (h : Wk ks s v l c) : l ≠ [] := by cases h <;> simp
theorem Wk.last {v c : Int} {l : List Int} (h : Wk ks s v l c) : l.getLast? = some v := by cases h <;> simp
theorem Wk.last' {v c : Int} {l : List Int} (h : Wk ks s v l c) : v ∈ l := List.mem_of_getLast? h.last
theorem Wk.head {v c : Int} {l : List Int} (h : Wk ks s v l c) : l.head? = some s := by
  induction h with
  | one => rfl
  | snoc u l c i h hi hf ih =>
    cases l with
    | nil => simp at ih
    | cons x xs => simpa using ih
theorem Wk.cost {v c : Int} {l : List Int} (hg : goodN n ks) (h : Wk ks s v l c) : 0 ≤ c ∧ (l.length : Int) ≤ c + 1 := by
  induction h with
  | one => simp
  | snoc u l c i h hi hf ih => have := hg.link hi; simp; omega
theorem Wk.up {v c : Int} {l : List Int} (hg : goodN n ks) (h : Wk ks s v l c) : c + 65535 ≤ l.length * 65535 := by
  induction h with
  | one => simp
  | snoc u l c i h hi hf ih => have := hg.link hi; simp; omega
theorem Wk.rng {v c : Int} {l : List Int} (hg : goodN n ks) (hs : 0 ≤ s ∧ s < n) (h : Wk ks s v l c) : ∀ x ∈ l, 0 ≤ x ∧ x < n := by
  induction h with
  | one => intro x hx; simp at hx; omega
  | snoc u l c i h hi hf ih =>
    intro x hx
    have := hg.link hi
    rcases List.mem_append.1 hx with hx | hx
    · exact ih x hx
    · simp at hx; omega
/-- Numbers below n that are all unlike are at most n. -/
theorem nodup_len : ∀ (n : Nat) (l : List Int), l.Nodup → (∀ x ∈ l, 0 ≤ x ∧ x < n) → l.length ≤ n
  | 0, l, _, h => by
    cases l with
    | nil => simp
    | cons x xs => have := h x (by simp); omega
  | n + 1, l, hd, h => by
    have h1 := nodup_len n (l.erase n) (hd.erase _) (fun x hx => by
      have hm := (hd.mem_erase_iff).1 hx
      have := h x hm.2
      have := hm.1
      omega)
    by_cases hm : (n : Int) ∈ l
    · rw [List.length_erase_of_mem hm] at h1; omega
    · rw [List.erase_of_not_mem hm] at h1; omega
/-- A way: its nodes, what it costs (-1: there is none), and whether it is settled. -/
structure Wy where
  l : List Int
  c : Int
  d : Bool
/-- The best ways. -/
structure Best (n : Int) (ks : List Lk) (s : Int) (w : Int → Wy) : Prop where
  path : ∀ v, 0 ≤ v → v < n → 0 ≤ (w v).c → Wk ks s v (w v).l (w v).c ∧ (w v).l.Nodup
  none : ∀ v, 0 ≤ v → v < n → (w v).c < 0 → (w v).c = -1 ∧ (w v).l = []
  least : ∀ v l c, Wk ks s v l c → 0 ≤ (w v).c ∧ leB (w v).c (w v).l c l
theorem Best.same {w w' : Int → Wy} (h : Best n ks s w) (h' : Best n ks s w') {v : Int} (h0 : 0 ≤ v) (h1 : v < n) : (w v).c = (w' v).c ∧ (w v).l = (w' v).l := by
  by_cases hc : 0 ≤ (w v).c
  · obtain ⟨hw, -⟩ := h.path v h0 h1 hc
    have hobt := h'.least v _ _ hw
    obtain ⟨hc', hl'⟩ := hobt
    have hobt := h'.path v h0 h1 hc'
    obtain ⟨hw', -⟩ := hobt
    have hobt := h.least v _ _ hw'
    obtain ⟨-, hl⟩ := hobt
    exact hl.anti hl'
  · by_cases hc' : 0 ≤ (w' v).c
    · obtain ⟨hw', -⟩ := h'.path v h0 h1 hc'
      exact absurd (h.least v _ _ hw').1 hc
    · have a := h.none v h0 h1 (by omega)
      have b := h'.none v h0 h1 (by omega)
      exact ⟨by omega, by rw [a.2, b.2]⟩
/-- What leads on is no better. -/
theorem Best.closed {w : Int → Wy} (hg : goodN n ks) (h : Best n ks s w) {i : Nat} (hi : i < ks.length) (hc : 0 ≤ (w (lk ks i).f).c) : 0 ≤ (w (lk ks i).t).c ∧ leB (w (lk ks i).t).c (w (lk ks i).t).l ((w (lk ks i).f).c + (lk ks i).m) ((w (lk ks i).f).l ++ [(lk ks i).t]) := by
  have hl := hg.link hi
  exact h.least _ _ _ (.snoc _ _ _ i (h.path _ hl.1 hl.2.1 hc).1 hi rfl)
/-- From the links alone: the best. -/
theorem least_of {w : Int → Wy} (h0 : 0 ≤ (w s).c ∧ leB (w s).c (w s).l 0 [s]) (hcl : ∀ i, i < ks.length → 0 ≤ (w (lk ks i).f).c → 0 ≤ (w (lk ks i).t).c ∧ leB (w (lk ks i).t).c (w (lk ks i).t).l ((w (lk ks i).f).c + (lk ks i).m) ((w (lk ks i).f).l ++ [(lk ks i).t])) :
    ∀ v l c, Wk ks s v l c → 0 ≤ (w v).c ∧ leB (w v).c (w v).l c l := by
  intro v l c h
  induction h with
  | one => exact h0
  | snoc u l c i h hi hf ih =>
    subst hf
    have hobt := hcl i hi ih.1
    obtain ⟨h1, h2⟩ := hobt
    exact ⟨h1, h2.trans (leB.snoc.2 ih.2)⟩
/-- The beginning of a best way is best. -/
theorem Best.begin {w : Int → Wy} (hg : goodN n ks) (hs : 0 ≤ s ∧ s < n) (h : Best n ks s w) {v : Int} (h0 : 0 ≤ v) (h1 : v < n) (hc : 0 ≤ (w v).c) : (v = s ∧ (w v).l = [s] ∧ (w v).c = 0) ∨ ∃ i, i < ks.length ∧ (lk ks i).t = v ∧ 0 ≤ (w (lk ks i).f).c ∧ (w v).l = (w (lk ks i).f).l ++ [v] ∧ (w v).c = (w (lk ks i).f).c + (lk ks i).m := by
  have hobt := h.path v h0 h1 hc
  obtain ⟨hw, hd⟩ := hobt
  revert hw
  generalize hl : (w v).l = l
  generalize hcc : (w v).c = c
  intro hw
  cases hw with
  | one => exact Or.inl ⟨rfl, rfl, rfl⟩
  | snoc u l c i hw' hi hf =>
    subst hf
    refine Or.inr ⟨i, hi, rfl, ?_⟩
    have h2 := h.least _ _ _ hw'
    have h3 := (h.closed hg hi h2.1).2
    rw [hl, hcc, leB.snoc] at h3
    have := h2.2.anti h3
    exact ⟨h2.1, by rw [this.2], by rw [this.1]⟩
theorem Best.source {w : Int → Wy} (hg : goodN n ks) (hs : 0 ≤ s ∧ s < n) (h : Best n ks s w) : (w s).c = 0 ∧ (w s).l = [s] := by
  have h1 := h.least s _ _ .one
  have h2 := (h.path s hs.1 hs.2 h1.1)
  have h3 := h2.1.cost hg
  have h4 := h1.2
  rw [leB_iff] at h4
  have h5 := h2.1.ne
  have h6 := h2.1.head
  have hc : (w s).c = 0 := by omega
  refine ⟨hc, ?_⟩
  have hlen : (w s).l.length = 1 := by
    have : (w s).l.length ≠ 0 := fun e => h5 (List.eq_nil_of_length_eq_zero e)
    omega
  match hl : (w s).l, hlen with
  | [x], _ => rw [hl] at h6; simpa using h6
end
end Go.Proofs.Ytolifpkbkjofaaa.AC
/- The nearest first, without the program. -/
namespace Go.Proofs.Ytolifpkbkjofaaa.AC
open Go Go.AI Go.Proofs
set_option linter.unusedVariables false
def upd (w : Int → Wy) (v : Int) (x : Wy) : Int → Wy := fun u => if u = v then x else w u
theorem upd_at (w : Int → Wy) (v : Int) (x : Wy) : upd w v x v = x := by simp [upd]
theorem upd_ne {w : Int → Wy} {v u : Int} {x : Wy} (h : u ≠ v) : upd w v x u = w u := by simp [upd, h]
/-- What holds at each moment; of the links of P it is not known. -/
structure DI (n s : Int) (ks : List Lk) (w : Int → Wy) (q : List It) (P : Nat → Prop) : Prop where
  one : 0 ≤ (w s).c ∧ leB (w s).c (w s).l 0 [s]
  path : ∀ v, 0 ≤ v → v < n → 0 ≤ (w v).c → Wk ks s v (w v).l (w v).c ∧ (w v).l.Nodup ∧ ∀ x ∈ (w v).l, x ≠ v → (w x).d = true
  none : ∀ v, 0 ≤ v → v < n → (w v).c < 0 → (w v).c = -1 ∧ (w v).l = [] ∧ (w v).d = false
  ord : ∀ u v, 0 ≤ u → u < n → 0 ≤ v → v < n → (w u).d = true → (w v).d = false → 0 ≤ (w v).c → (w u).c ≤ (w v).c
  clo : ∀ i, i < ks.length → ¬ P i → (w (lk ks i).f).d = true → 0 ≤ (w (lk ks i).t).c ∧ leB (w (lk ks i).t).c (w (lk ks i).t).l ((w (lk ks i).f).c + (lk ks i).m) ((w (lk ks i).f).l ++ [(lk ks i).t])
  que : ∀ v, 0 ≤ v → v < n → (w v).d = false → 0 ≤ (w v).c → ∃ x ∈ q, x.n = v ∧ x.c = (w v).c
  qin : ∀ x ∈ q, 0 ≤ x.n ∧ x.n < n ∧ 0 ≤ (w x.n).c ∧ ((w x.n).d = false → (w x.n).c ≤ x.c)
section
variable {n s : Int} {ks : List Lk} {w : Int → Wy} {q q' : List It} {P : Nat → Prop}
theorem DI.perm (h : DI n s ks w q P) (hp : q'.Perm q) : DI n s ks w q' P :=
  ⟨h.one, h.path, h.none, h.ord, h.clo, fun v h0 h1 h2 h3 => by obtain ⟨x, hx, hv⟩ := h.que v h0 h1 h2 h3; exact ⟨x, hp.mem_iff.2 hx, hv⟩, fun x hx => h.qin x (hp.mem_iff.1 hx)⟩
/-- What is offered is better than what there is. -/
def takes (w : Int → Wy) (to : Int) (l : List Int) (c : Int) : Bool := !((w to).d || (decide (0 ≤ (w to).c) && !betB c l (w to).c (w to).l))
theorem takes_no {to : Int} {l : List Int} {c : Int} : takes w to l c = false ↔ (w to).d = true ∨ ((w to).d = false ∧ 0 ≤ (w to).c ∧ leB (w to).c (w to).l c l) := by
  unfold takes leB
  cases (w to).d <;> simp
theorem takes_yes {to : Int} {l : List Int} {c : Int} : takes w to l c = true ↔ (w to).d = false ∧ ((w to).c < 0 ∨ betB c l (w to).c (w to).l = true) := by
  unfold takes
  cases (w to).d <;> simp
theorem DI.keep (hg : goodN n ks) (h : DI n s ks w q P) {i : Nat} (hi : i < ks.length) (hu : (w (lk ks i).f).d = true) (hmax : ∀ v, 0 ≤ v → v < n → (w v).d = true → (w v).c ≤ (w (lk ks i).f).c)
    (ht : takes w (lk ks i).t ((w (lk ks i).f).l ++ [(lk ks i).t]) ((w (lk ks i).f).c + (lk ks i).m) = false) : DI n s ks w q (fun j => P j ∧ j ≠ i) := by
  refine ⟨h.one, h.path, h.none, h.ord, fun j hj hP hd => ?_, h.que, h.qin⟩
  by_cases e : j = i
  · subst e
    have hl := hg.link hi
    rcases takes_no.1 ht with h1 | ⟨h1, h2, h3⟩
    · have hc : 0 ≤ (w (lk ks j).t).c := by
        by_cases hh : 0 ≤ (w (lk ks j).t).c
        · exact hh
        · have := (h.none _ hl.2.2.1 hl.2.2.2.1 (by omega)).2.2
          rw [h1] at this; cases this
      refine ⟨hc, leB.of_cost ?_⟩
      have := hmax _ hl.2.2.1 hl.2.2.2.1 h1
      omega
    · exact ⟨h2, h3⟩
  · exact h.clo j hj (fun hp => hP ⟨hp, e⟩) hd
theorem DI.take (hg : goodN n ks) (h : DI n s ks w q P) {i : Nat} (hi : i < ks.length) (hu : (w (lk ks i).f).d = true) (hmax : ∀ v, 0 ≤ v → v < n → (w v).d = true → (w v).c ≤ (w (lk ks i).f).c)
    (ht : takes w (lk ks i).t ((w (lk ks i).f).l ++ [(lk ks i).t]) ((w (lk ks i).f).c + (lk ks i).m) = true) {x : It} (hxn : x.n = (lk ks i).t) (hxc : x.c = (w (lk ks i).f).c + (lk ks i).m) :
    DI n s ks (upd w (lk ks i).t ⟨(w (lk ks i).f).l ++ [(lk ks i).t], (w (lk ks i).f).c + (lk ks i).m, false⟩) (x :: q) (fun j => P j ∧ j ≠ i) := by
  have hl := hg.link hi
  have hu0 : 0 ≤ (w (lk ks i).f).c := by
    by_cases hh : 0 ≤ (w (lk ks i).f).c
    · exact hh
    · have := (h.none _ hl.1 hl.2.1 (by omega)).2.2
      rw [hu] at this; cases this
  have hobt := takes_yes.1 ht
  obtain ⟨hd, hb⟩ := hobt
  have hobt := h.path _ hl.1 hl.2.1 hu0
  obtain ⟨p1, p2, p3⟩ := hobt
  have hnew : ∀ y ∈ (w (lk ks i).f).l, (w y).d = true := fun y hy => by
    by_cases e : y = (lk ks i).f
    · rw [e]; exact hu
    · exact p3 y hy e
  have hnot : (lk ks i).t ∉ (w (lk ks i).f).l := fun hm => by have := hnew _ hm; rw [hd] at this; cases this
  have hle : 0 ≤ (w (lk ks i).t).c → leB ((w (lk ks i).f).c + (lk ks i).m) ((w (lk ks i).f).l ++ [(lk ks i).t]) (w (lk ks i).t).c (w (lk ks i).t).l := fun h0 => by
    rcases hb with hb | hb
    · omega
    · exact leB.of_bet hb
  have hwk := Wk.snoc _ _ _ i p1 hi rfl
  have hdd : ∀ y, (w y).d = true → (upd w (lk ks i).t ⟨(w (lk ks i).f).l ++ [(lk ks i).t], (w (lk ks i).f).c + (lk ks i).m, false⟩ y).d = true := fun y hy => by
    by_cases e : y = (lk ks i).t
    · rw [e, hd] at hy; cases hy
    · rw [upd_ne e]; exact hy
  have hsame : ∀ y, (w y).d = true → upd w (lk ks i).t ⟨(w (lk ks i).f).l ++ [(lk ks i).t], (w (lk ks i).f).c + (lk ks i).m, false⟩ y = w y := fun y hy => by
    by_cases e : y = (lk ks i).t
    · rw [e, hd] at hy; cases hy
    · rw [upd_ne e]
  have hback : ∀ y, (upd w (lk ks i).t ⟨(w (lk ks i).f).l ++ [(lk ks i).t], (w (lk ks i).f).c + (lk ks i).m, false⟩ y).d = true → (w y).d = true := fun y hy => by
    by_cases e : y = (lk ks i).t
    · rw [e, upd_at] at hy; cases hy
    · rw [upd_ne e] at hy; exact hy
  refine ⟨?_, fun v h0 h1 h2 => ?_, fun v h0 h1 h2 => ?_, fun u v u0 u1 v0 v1 d1 d2 h2 => ?_, fun j hj hP hdj => ?_, fun v h0 h1 h2 h3 => ?_, fun y hy => ?_⟩
  · by_cases e : s = (lk ks i).t
    · rw [e, upd_at]
      have h1 := h.one
      rw [e] at h1
      exact ⟨by simp only []; omega, (hle h1.1).trans h1.2⟩
    · rw [upd_ne e]; exact h.one
  · by_cases e : v = (lk ks i).t
    · subst e
      rw [upd_at]
      refine ⟨hwk, ?_, fun y hy hne => ?_⟩
      · simp only []
        rw [List.nodup_append]
        refine ⟨p2, by simp, fun a ha b hb => ?_⟩
        simp at hb
        rw [hb]; intro e2; rw [e2] at ha; exact hnot ha
      · rcases List.mem_append.1 hy with hy | hy
        · exact hdd y (hnew y hy)
        · simp at hy; exact absurd hy hne
    · rw [upd_ne e] at h2 ⊢
      have hobt := h.path v h0 h1 h2
      obtain ⟨g1, g2, g3⟩ := hobt
      exact ⟨g1, g2, fun y hy hne => hdd y (g3 y hy hne)⟩
  · by_cases e : v = (lk ks i).t
    · rw [e, upd_at] at h2; simp only [] at h2; omega
    · rw [upd_ne e] at h2 ⊢; exact h.none v h0 h1 h2
  · have hdu := hback u d1
    rw [hsame u hdu]
    by_cases e : v = (lk ks i).t
    · rw [e, upd_at]
      have := hmax u u0 u1 hdu
      simp only []; omega
    · rw [upd_ne e] at d2 h2 ⊢
      exact h.ord u v u0 u1 v0 v1 hdu d2 h2
  · have hdf := hback _ hdj
    rw [hsame _ hdf]
    by_cases e : j = i
    · subst e
      rw [upd_at]
      exact ⟨by simp only []; omega, leB.refl _ _⟩
    · have h5 := h.clo j hj (fun hp => hP ⟨hp, e⟩) hdf
      by_cases e2 : (lk ks j).t = (lk ks i).t
      · rw [e2] at h5 ⊢
        rw [upd_at]
        exact ⟨by simp only []; omega, (hle h5.1).trans h5.2⟩
      · rw [upd_ne e2]; exact h5
  · by_cases e : v = (lk ks i).t
    · subst e
      rw [upd_at]
      exact ⟨x, List.mem_cons_self, hxn, hxc⟩
    · rw [upd_ne e] at h2 h3 ⊢
      have hobt := h.que v h0 h1 h2 h3
      obtain ⟨y, hy, hv⟩ := hobt
      exact ⟨y, List.mem_cons_of_mem _ hy, hv⟩
  · rcases List.mem_cons.1 hy with rfl | hy
    · rw [hxn, upd_at]
      exact ⟨hl.2.2.1, hl.2.2.2.1, by simp only []; omega, fun _ => by simp only []; omega⟩
    · obtain ⟨g1, g2, g3, g4⟩ := h.qin y hy
      by_cases e : y.n = (lk ks i).t
      · rw [e] at g3 g4 ⊢
        rw [upd_at]
        have := (hle g3).cost
        have := g4 hd
        exact ⟨hl.2.2.1, hl.2.2.2.1, by simp only []; omega, fun _ => by simp only []; omega⟩
      · rw [upd_ne e]; exact ⟨g1, g2, g3, g4⟩
/-- What was taken out is settled already. -/
theorem DI.skip {x : It} (h : DI n s ks w (x :: q) P) (hd : (w x.n).d = true) : DI n s ks w q P :=
  ⟨h.one, h.path, h.none, h.ord, h.clo, fun v h0 h1 h2 h3 => by
    have hobt := h.que v h0 h1 h2 h3
    obtain ⟨y, hy, hv⟩ := hobt
    rcases List.mem_cons.1 hy with rfl | hy
    · rw [hv.1, h2] at hd; cases hd
    · exact ⟨y, hy, hv⟩, fun y hy => h.qin y (List.mem_cons_of_mem _ hy)⟩
def sett (w : Int → Wy) (u : Int) : Int → Wy := upd w u ⟨(w u).l, (w u).c, true⟩
/-- The least is settled. -/
theorem DI.settle {x : It} (h : DI n s ks w (x :: q) (fun _ => False)) (hd : (w x.n).d = false) (hm : ∀ y ∈ x :: q, leI x y) :
    DI n s ks (sett w x.n) q (fun i => (lk ks i).f = x.n) ∧ ∀ v, 0 ≤ v → v < n → (sett w x.n v).d = true → (sett w x.n v).c ≤ (sett w x.n x.n).c := by
  have hobt := h.qin x List.mem_cons_self
  obtain ⟨x0, x1, x2, x3⟩ := hobt
  have hxc := x3 hd
  have hl : ∀ v, (sett w x.n v).l = (w v).l := fun v => by
    unfold sett; by_cases e : v = x.n
    · rw [e, upd_at]
    · rw [upd_ne e]
  have hc : ∀ v, (sett w x.n v).c = (w v).c := fun v => by
    unfold sett; by_cases e : v = x.n
    · rw [e, upd_at]
    · rw [upd_ne e]
  have hdd : ∀ v, v ≠ x.n → (sett w x.n v).d = (w v).d := fun v e => by unfold sett; rw [upd_ne e]
  have hdx : (sett w x.n x.n).d = true := by unfold sett; rw [upd_at]
  have hup : ∀ v, (w v).d = true → (sett w x.n v).d = true := fun v hv => by
    by_cases e : v = x.n
    · rw [e]; exact hdx
    · rw [hdd v e]; exact hv
  have hleast : ∀ v, 0 ≤ v → v < n → (w v).d = false → 0 ≤ (w v).c → (w x.n).c ≤ (w v).c := fun v h0 h1 h2 h3 => by
    have hobt := h.que v h0 h1 h2 h3
    obtain ⟨y, hy, hv⟩ := hobt
    have := hm y hy
    rw [le_iff] at this
    omega
  refine ⟨⟨by rw [hc, hl]; exact h.one, fun v h0 h1 h2 => ?_, fun v h0 h1 h2 => ?_, fun u v u0 u1 v0 v1 d1 d2 h2 => ?_, fun i hi hP hdi => ?_, fun v h0 h1 h2 h3 => ?_, fun y hy => ?_⟩, fun v h0 h1 h2 => ?_⟩
  · rw [hc] at h2; rw [hc, hl]
    have hobt := h.path v h0 h1 h2
    obtain ⟨g1, g2, g3⟩ := hobt
    exact ⟨g1, g2, fun y hy hne => hup y (g3 y hy hne)⟩
  · rw [hc] at h2; rw [hc, hl]
    have e : v ≠ x.n := fun e => by rw [e] at h2; omega
    rw [hdd v e]; exact h.none v h0 h1 h2
  · rw [hc] at h2; rw [hc, hc]
    have ev : v ≠ x.n := fun e => by rw [e, hdx] at d2; cases d2
    rw [hdd v ev] at d2
    by_cases eu : u = x.n
    · rw [eu]; exact hleast v v0 v1 d2 h2
    · rw [hdd u eu] at d1; exact h.ord u v u0 u1 v0 v1 d1 d2 h2
  · have e : (lk ks i).f ≠ x.n := hP
    rw [hdd _ e] at hdi
    rw [hc, hc, hl, hl]
    exact h.clo i hi (fun h => h) hdi
  · rw [hc] at h3 ⊢
    have ev : v ≠ x.n := fun e => by rw [e, hdx] at h2; cases h2
    rw [hdd v ev] at h2
    have hobt := h.que v h0 h1 h2 h3
    obtain ⟨y, hy, hv⟩ := hobt
    rcases List.mem_cons.1 hy with rfl | hy
    · exact absurd hv.1.symm ev
    · exact ⟨y, hy, hv⟩
  · obtain ⟨g1, g2, g3, g4⟩ := h.qin y (List.mem_cons_of_mem _ hy)
    rw [hc]
    refine ⟨g1, g2, g3, fun hf => ?_⟩
    have ev : y.n ≠ x.n := fun e => by rw [e, hdx] at hf; cases hf
    rw [hdd _ ev] at hf
    exact g4 hf
  · rw [hc, hc]
    by_cases e : v = x.n
    · rw [e]; exact Int.le_refl _
    · rw [hdd v e] at h2; exact h.ord v x.n h0 h1 x0 x1 h2 hd x2
/-- Nothing waits: all is best. -/
theorem DI.done (hg : goodN n ks) (h : DI n s ks w [] (fun _ => False)) : Best n ks s w := by
  have hd : ∀ v, 0 ≤ v → v < n → 0 ≤ (w v).c → (w v).d = true := fun v h0 h1 h2 => by
    cases hv : (w v).d with
    | true => rfl
    | false => obtain ⟨x, hx, _⟩ := h.que v h0 h1 hv h2; cases hx
  exact ⟨fun v h0 h1 h2 => ⟨(h.path v h0 h1 h2).1, (h.path v h0 h1 h2).2.1⟩, fun v h0 h1 h2 => ⟨(h.none v h0 h1 h2).1, (h.none v h0 h1 h2).2.1⟩,
    least_of h.one fun i hi hc => h.clo i hi (fun h => h) (hd _ (hg.link hi).1 (hg.link hi).2.1 hc)⟩
/-- The start. -/
def w0 : Int → Wy := fun _ => ⟨[], -1, false⟩
theorem DI.start (hs : 0 ≤ s ∧ s < n) {x : It} (hx : x.n = s ∧ x.c = 0) : DI n s ks (upd w0 s ⟨[s], 0, false⟩) [x] (fun _ => False) := by
  have hdn : ∀ v, (upd w0 s ⟨[s], 0, false⟩ v).d = false := fun v => by
    by_cases e : v = s
    · rw [e, upd_at]
    · rw [upd_ne e]; rfl
  refine ⟨by rw [upd_at]; exact ⟨Int.le_refl 0, leB.refl _ _⟩, fun v h0 h1 h2 => ?_, fun v h0 h1 h2 => ?_, fun u v _ _ _ _ d1 => (by rw [hdn] at d1; exact absurd d1 (by simp)), fun i _ _ hd => (by rw [hdn] at hd; exact absurd hd (by simp)), fun v h0 h1 h2 h3 => ?_, fun y hy => ?_⟩
  · by_cases e : v = s
    · subst e; rw [upd_at]; exact ⟨.one, by simp, fun y hy hne => by simp at hy; exact absurd hy hne⟩
    · rw [upd_ne e] at h2; simp [w0] at h2
  · by_cases e : v = s
    · rw [e, upd_at] at h2; simp at h2
    · rw [upd_ne e]; exact ⟨rfl, rfl, rfl⟩
  · by_cases e : v = s
    · subst e; rw [upd_at]; exact ⟨x, by simp, hx.1, hx.2⟩
    · rw [upd_ne e] at h3; simp [w0] at h3
  · simp at hy; subst hy
    rw [hx.1, upd_at]
    exact ⟨hs.1, hs.2, Int.le_refl 0, fun _ => by simp only []; omega⟩
/-- How many links lead from what is not settled. -/
def un (ks : List Lk) (w : Int → Wy) : Nat := ((List.range ks.length).filter fun i => !(w (lk ks i).f).d).length
theorem filter_two {α : Type} (p r : α → Bool) (hr : ∀ a, r a = true → p a = true) : ∀ l : List α, (l.filter fun a => p a && !r a).length + (l.filter r).length = (l.filter p).length
  | [] => rfl
  | a :: l => by
    have ih := filter_two p r hr l
    have := hr a
    simp only [List.filter_cons]
    cases hp : p a <;> cases hq : r a <;> simp [hp, hq] at this ⊢ <;> omega
theorem un_sett {u : Int} (hd : (w u).d = false) : un ks (sett w u) + (outsN ks u ks.length).length = un ks w := by
  have h := filter_two (fun i => !(w (lk ks i).f).d) (fun i => decide ((lk ks i).f = u)) (fun i hi => by simp at hi; simp [hi, hd]) (List.range ks.length)
  unfold un outsN
  rw [List.length_map, ← h]
  congr 2
  apply List.filter_congr
  intro i _
  unfold sett upd
  by_cases e : (lk ks i).f = u <;> simp [e]
theorem un_le : un ks w ≤ ks.length := by unfold un; exact Nat.le_trans (List.length_filter_le _ _) (by simp)
theorem un_upd {v : Int} {x : Wy} (hx : x.d = (w v).d) : un ks (upd w v x) = un ks w := by
  unfold un
  congr 1
  apply List.filter_congr
  intro i _
  unfold upd
  by_cases e : (lk ks i).f = v
  · simp [e, hx]
  · simp [e]
end
end Go.Proofs.Ytolifpkbkjofaaa.AC
/- The search, in memory. -/
namespace Go.Proofs.Ytolifpkbkjofaaa.AC
open Go Go.AI Go.Proofs Go.Proofs.Ytolifpkbkjofaaa.AQ
set_option linter.unusedVariables false
theorem spl_in (X r Y : List Value) (j : Nat) (vs : List Value) (h : j + vs.length ≤ r.length) : spl (X ++ (r ++ Y)) (X.length + j) vs = X ++ (spl r j vs ++ Y) := by
  unfold spl
  have e1 : (X ++ (r ++ Y)).take (X.length + j) = X ++ r.take j := by
    rw [List.take_append, List.take_of_length_le (by omega), show X.length + j - X.length = j from by omega, List.take_append_of_le_length (by omega)]
  have e2 : (X ++ (r ++ Y)).drop (X.length + j + vs.length) = r.drop (j + vs.length) ++ Y := by
    rw [List.drop_append, List.drop_eq_nil_of_le (by omega), List.nil_append, show X.length + j + vs.length - X.length = j + vs.length from by omega, List.drop_append_of_le_length (by omega)]
  rw [e1, e2]; simp
/-- A part of a row is written over. -/
theorem spl_flat {z i j : Nat} {L : List (List Value)} {vs : List Value} (h : ∀ r ∈ L, r.length = z) (hi : i < L.length) (hj : j + vs.length ≤ z) : spl L.flatten (i * z + j) vs = (L.set i (spl L[i] j vs)).flatten := by
  have hr := h L[i] (List.getElem_mem hi)
  have hX : (L.take i).flatten.length = i * z := by
    rw [flat_len fun r hr => h r (List.mem_of_mem_take hr), List.length_take, Nat.min_eq_left (by omega)]
  have e : L.flatten = (L.take i).flatten ++ (L[i] ++ (L.drop (i + 1)).flatten) := by
    rw [← List.flatten_cons, ← List.flatten_append, ← List.drop_eq_getElem_cons hi, List.take_append_drop]
  rw [List.set_eq_take_append_cons_drop, if_pos hi]
  conv => lhs; rw [e, ← hX, spl_in _ _ _ _ _ (by omega)]
  simp
theorem range_set {α : Type} (n : Nat) (R : Nat → α) {v : Nat} (r : α) : ((List.range n).map R).set v r = (List.range n).map fun u => if u = v then r else R u := by
  apply List.ext_getElem?
  intro i
  rw [List.getElem?_set]
  simp only [List.length_map, List.length_range, List.getElem?_map]
  by_cases e : v = i
  · subst e
    by_cases hv : v < n
    · simp [hv]
    · simp [hv]
  · have e' : ¬ i = v := fun h => e h.symm
    by_cases hi : i < n <;> simp [e, e', hi]
/-- Kept apart. -/
def Ap (n0 sp wb qb : Nat) (ob : Option Nat) (b : Nat) : Prop := n0 ≤ b ∧ b ≠ sp ∧ b ≠ wb ∧ b ≠ qb ∧ ob ≠ some b
def lcap (l c : Nat) : Prop := c = UNK ∨ (l ≤ c ∧ c < UNK)
/-- A way in memory. -/
def WyM (A : AH) (ap : Nat → Prop) (r : List Value) (x : Wy) : Prop :=
  ∃ v, r = [v, .int .i64 x.c, .bool x.d] ∧ x.l.length ≤ 1000 ∧ ((x.l = [] ∧ v = .slice none 0 0) ∨ ∃ b c, v = .slice (some ⟨b, 0, none⟩) x.l.length c ∧ A.get b = some (.row (ints x.l).flatten 3 false) ∧ ap b ∧ lcap x.l.length c)
theorem WyM.sl {A : AH} {ap : Nat → Prop} {r : List Value} {x : Wy} (h : WyM A ap r x) : ∃ a c, r = [.slice a x.l.length c, .int .i64 x.c, .bool x.d] ∧ Sl A 3 1 a (ints x.l) ∧ x.l.length ≤ 1000 := by
  obtain ⟨v, rfl, hl, ⟨h1, rfl⟩ | ⟨b, c, rfl, h2, -, -⟩⟩ := h
  · exact ⟨none, 0, by rw [h1]; rfl, by rw [h1]; exact Sl.nil Pla.no _ _ _, hl⟩
  · exact ⟨_, c, rfl, Sl.row (ints_rw _) h2 rfl, hl⟩
/-- All but the ways and the queue is as it was. -/
def Ks (A A' : AH) (wb qb : Nat) (ob : Option Nat) : Prop := ∀ b, b < A.next → b ≠ wb → b ≠ qb → ob ≠ some b → A'.get b = A.get b
theorem Ks.refl (A : AH) (wb qb : Nat) (ob : Option Nat) : Ks A A wb qb ob := fun _ _ _ _ _ => rfl
theorem Ks.ext {A A' : AH} (h : Ext A A') (wb qb : Nat) (ob : Option Nat) : Ks A A' wb qb ob := fun b h1 _ _ _ => h b h1
theorem Ks.trans {A B C : AH} {wb qb : Nat} {ob ob' : Option Nat} (h : Ks A B wb qb ob) (hn : A.next ≤ B.next) (h' : Ks B C wb qb ob') (ho : ob' = ob ∨ Fresh A.next ob') : Ks A C wb qb ob := fun b h1 h2 h3 h4 => (h' b (by omega) h2 h3 (by
  rcases ho with rfl | ho
  · exact h4
  · intro e; have := ho b e; omega)).trans (h b h1 h2 h3 h4)
theorem WyM.kept {n0 sp wb qb : Nat} {ob ob' : Option Nat} {A A' : AH} {r : List Value} {x : Wy} (h : WyM A (Ap n0 sp wb qb ob) r x) (hw : A.wf) (hk : Ks A A' wb qb ob) (ho : ob' = ob ∨ Fresh A.next ob') : WyM A' (Ap n0 sp wb qb ob') r x := by
  obtain ⟨v, h1, hl, h2 | ⟨b, c, h2, h3, ⟨p1, p2, p3, p4, p5⟩, h5⟩⟩ := h
  · exact ⟨v, h1, hl, Or.inl h2⟩
  · have hb := hw _ _ h3
    refine ⟨v, h1, hl, Or.inr ⟨b, c, h2, (hk b hb p3 p4 p5).trans h3, ⟨p1, p2, p3, p4, ?_⟩, h5⟩⟩
    rcases ho with rfl | ho
    · exact p5
    · intro e; have := ho b e; omega
structure SS (n0 : Nat) (A : AH) (sp wb qb : Nat) (ob : Option Nat) (n : Nat) (a : Option Addr) (c : Nat) (ks : List Lk) (R : Nat → List Value) (w : Int → Wy) (q : List It) : Prop where
  s : A.get sp = some (.row [.slice a ks.length c, .slice (some ⟨wb, 0, none⟩) n n, .pointer (some ⟨qb, 0, none⟩)] 61 false)
  ws : A.get wb = some (.row ((List.range n).map R).flatten 63 false)
  wy : ∀ v, v < n → WyM A (Ap n0 sp wb qb ob) (R v) (w v)
  qh : QH A qb ob q
  lo : n0 ≤ sp ∧ n0 ≤ wb ∧ n0 ≤ qb ∧ Fresh n0 ob
  ne : sp ≠ wb ∧ sp ≠ qb ∧ wb ≠ qb ∧ ob ≠ some sp ∧ ob ≠ some wb
section
variable {n0 : Nat} {A A' : AH} {sp wb qb : Nat} {ob ob' : Option Nat} {n : Nat} {a : Option Addr} {c : Nat} {ks : List Lk} {R : Nat → List Value} {w : Int → Wy} {q : List It}
theorem SS.rw (h : SS n0 A sp wb qb ob n a c ks R w q) : Rw 3 ((List.range n).map R) := by
  intro r hr
  have hobt := List.mem_map.1 hr
  obtain ⟨v, hv, rfl⟩ := hobt
  have hobt := (h.wy v (List.mem_range.1 hv)).sl
  obtain ⟨a, c, e, -⟩ := hobt
  rw [e]; exact ⟨rfl, rfl⟩
theorem SS.at (h : SS n0 A sp wb qb ob n a c ks R w q) {v : Nat} (hv : v < n) : ∃ cs a' c', A.get wb = some (.row cs 63 false) ∧ cs = ((List.range n).map R).flatten ∧ R v = [.slice a' (w v).l.length c', .int .i64 (w v).c, .bool (w v).d] ∧ Sl A 3 1 a' (ints (w v).l) ∧ (w v).l.length ≤ 1000 ∧ v * 3 + 3 ≤ cs.length ∧ cs[v * 3]? = some (.slice a' (w v).l.length c') ∧ cs[v * 3 + 1]? = some (.int .i64 (w v).c) ∧ cs[v * 3 + 2]? = some (.bool (w v).d) := by
  have hobt := (h.wy v hv).sl
  obtain ⟨a', c', e, hs, hl⟩ := hobt
  have hr := h.rw
  have hat := flat_at hr.len (i := v) (by simpa using hv)
  simp only [List.getElem_map, List.getElem_range] at hat
  have hlen := flat_len hr.len
  simp only [List.length_map, List.length_range] at hlen
  have hm : (v + 1) * 3 ≤ n * 3 := Nat.mul_le_mul_right _ hv
  refine ⟨_, a', c', h.ws, rfl, e, hs, hl, by omega, ?_, ?_, ?_⟩
  · have := at_cell (i := 0) hat (by omega); simpa [e] using this
  · have := at_cell (i := 1) hat (by omega); simpa [e] using this
  · have := at_cell (i := 2) hat (by omega); simpa [e] using this
/-- All but the rows is as it was. -/
theorem SS.move (h : SS n0 A sp wb qb ob n a c ks R w q) (hw : A.wf) (hk : Ks A A' wb qb ob) (ho : ob' = ob ∨ Fresh A.next ob') {R' : Nat → List Value} {w' : Int → Wy} {q' : List It} (hws : A'.get wb = some (.row ((List.range n).map R').flatten 63 false)) (hwy : ∀ v, v < n → (R' v = R v ∧ w' v = w v) ∨ WyM A' (Ap n0 sp wb qb ob') (R' v) (w' v)) (hq : QH A' qb ob' q') : SS n0 A' sp wb qb ob' n a c ks R' w' q' := by
  have hsp := hw _ _ h.s
  have hwb := hw _ _ h.ws
  have hobt := h.lo
  obtain ⟨l1, l2, l3, l4⟩ := hobt
  have hobt := h.ne
  obtain ⟨e1, e2, e3, e4, e5⟩ := hobt
  refine ⟨(hk sp hsp e1 e2 e4).trans h.s, hws, fun v hv => ?_, hq, ⟨l1, l2, l3, ?_⟩, ⟨e1, e2, e3, ?_, ?_⟩⟩
  · rcases hwy v hv with ⟨h1, h2⟩ | h1
    · rw [h1, h2]; exact (h.wy v hv).kept hw hk ho
    · exact h1
  · rcases ho with rfl | ho
    · exact l4
    · exact fun b hb => by have := ho b hb; omega
  · rcases ho with rfl | ho
    · exact e4
    · exact fun e => by have := ho _ e; omega
  · rcases ho with rfl | ho
    · exact e5
    · exact fun e => by have := ho _ e; omega
theorem QH.kept' {L : List It} (h : QH A qb ob L) (hw : A.wf) (hk : ∀ b, b < A.next → b = qb ∨ ob = some b → A'.get b = A.get b) : QH A' qb ob L := by
  have hobt := h.1
  obtain ⟨v, h1, h2, h3⟩ := hobt
  exact ⟨h.1.kept (hk qb (hw _ _ h1) (Or.inl rfl)) fun b hb => hk b (h2.lt hw hb) (Or.inr hb), h.2⟩
theorem SS.ext (h : SS n0 A sp wb qb ob n a c ks R w q) (hw : A.wf) (hx : Ext A A') : SS n0 A' sp wb qb ob n a c ks R w q :=
  h.move hw (Ks.ext hx _ _ _) (Or.inl rfl) ((hx wb (hw _ _ h.ws)).trans h.ws) (fun v _ => Or.inl ⟨rfl, rfl⟩) (h.qh.ext hw hx)
/-- What an offer leaves. -/
def Offd (w w' : Int → Wy) (q q' : List It) (v : Int) (l : List Int) (x : Int) : Prop := (takes w v l x = true ∧ w' = upd w v ⟨l, x, false⟩ ∧ q'.Perm (⟨x, l.length, v⟩ :: q)) ∨ (takes w v l x = false ∧ w' = w ∧ q' = q)
theorem offer_ok (h : SS n0 A sp wb qb ob n a c ks R w q) {v : Nat} (hv : v < n) {lb lc : Nat} {l : List Int} (x : Int) (hlb : A.get lb = some (.row (ints l).flatten 3 false)) (hap : Ap n0 sp wb qb ob lb) (hlc : lcap l.length lc) (hl : l.length ≤ 1000) (hq : q.length < 1024) :
    ACall Try.prog 23 [.pointer (some ⟨sp, 0, none⟩), .int .i64 v, .slice (some ⟨lb, 0, none⟩) l.length lc, .int .i64 x] A fun _ A' => ∃ R' w' q' ob', SS n0 A' sp wb qb ob' n a c ks R' w' q' ∧ Offd w w' q q' v l x ∧ Ks A A' wb qb ob ∧ (ob' = ob ∨ Fresh A.next ob') := by
  have hobt := h.at hv
  obtain ⟨cs, a', c', g1, g2, g3, g4, g5, g6, g7, g8, g9⟩ := hobt
  have hs := h.s
  have hobt := h.ne
  obtain ⟨e1, e2, e3, e4, e5⟩ := hobt
  have hsl : Sl A 3 1 (some ⟨lb, 0, none⟩) (ints l) := Sl.row (ints_rw l) hlb rfl
  refine code23.call (by simp) fun hwf => ?_
  unfold c23
  have hno : ∀ (ht : takes w v l x = false), ∃ R' w' q' ob', SS n0 A sp wb qb ob' n a c ks R' w' q' ∧ Offd w w' q q' v l x ∧ Ks A A wb qb ob ∧ (ob' = ob ∨ Fresh A.next ob') := fun ht => ⟨R, w, q, ob, h, Or.inr ⟨ht, rfl, rfl⟩, Ks.refl _ _ _ _, Or.inl rfl⟩
  have hlen1 : (spl cs (v * 3) [.slice (some ⟨lb, 0, none⟩) l.length lc]).length = cs.length := spl_length _ _ _ (by simp; omega)
  have hrows : (w v).d = false → spl (spl cs (v * 3) [.slice (some ⟨lb, 0, none⟩) l.length lc]) (v * 3 + 1) [.int .i64 x] = ((List.range n).map fun u => if u = v then [.slice (some ⟨lb, 0, none⟩) l.length lc, .int .i64 x, .bool false] else R u).flatten := fun hd => by
    rw [g2]
    have hr := h.rw
    have e1 := spl_flat (j := 0) (vs := [.slice (some ⟨lb, 0, none⟩) l.length lc]) hr.len (i := v) (by simpa using hv) (by simp)
    rw [Nat.add_zero] at e1
    rw [e1]
    simp only [List.getElem_map, List.getElem_range, g3, range_set, spl_cons_zero, spl_nil']
    rw [spl_flat (z := 3) (by
      intro r hr'
      have hobt := List.mem_map.1 hr'
      obtain ⟨u, hu, rfl⟩ := hobt
      split
      · rfl
      · exact (hr _ (List.mem_map.2 ⟨u, hu, rfl⟩)).1) (by simpa using hv) (by simp)]
    simp only [List.getElem_map, List.getElem_range, if_true, range_set, spl_cons_succ, spl_cons_zero, spl_nil', hd]
    congr 1
    apply List.map_congr_left
    intro u _
    by_cases e : u = v <;> simp [e]
  have hwb := hwf _ _ g1
  have htake : (w v).d = false → takes w v l x = true → ∀ A1, A1 = A.set wb (.row (spl (spl cs (v * 3) [.slice (some ⟨lb, 0, none⟩) l.length lc]) (v * 3 + 1) [.int .i64 x]) 63 false) → QH A1 qb ob q ∧ ∀ A2 L' ob', A1.wf → QH A2 qb ob' L' → L'.Perm (⟨x, l.length, v⟩ :: q) → Kn' A1 A2 qb ob ob' → ∃ R' w' q' ob', SS n0 A2 sp wb qb ob' n a c ks R' w' q' ∧ Offd w w' q q' v l x ∧ Ks A A2 wb qb ob ∧ (ob' = ob ∨ Fresh A.next ob') := by
    intro hd ht A1 hA1
    have hqa : QH A1 qb ob q := by
      rw [hA1]
      refine h.qh.kept' hwf fun b hb hq => ?_
      rw [AH.get_set, if_neg]
      rintro rfl
      rcases hq with hq | hq
      · exact e3 hq
      · exact e5 hq
    refine ⟨hqa, fun A2 L' ob' hw1 hq2 hp2 hk2 => ?_⟩
    have hk : Ks A A2 wb qb ob := fun b b1 b2 b3 b4 => by
      rw [hk2.1 b (by rw [hA1]; exact b1) b3 b4, hA1, AH.get_set, if_neg b2]
    have ho : ob' = ob ∨ Fresh A.next ob' := by
      have := hk2.2; rw [hA1] at this; exact this
    have hlbn := hwf _ _ hlb
    refine ⟨_, _, L', ob', h.move hwf hk ho (R' := fun u => if u = v then [.slice (some ⟨lb, 0, none⟩) l.length lc, .int .i64 x, .bool false] else R u) (w' := upd w v ⟨l, x, false⟩) ?_ (fun u hu => ?_) hq2, Or.inl ⟨ht, rfl, hp2⟩, hk, ho⟩
    · rw [hk2.1 wb (by rw [hA1]; exact hwb) e3 e5, hA1, AH.get_set, if_pos rfl, hrows hd]
    · by_cases e : u = v
      · subst e
        refine Or.inr ⟨_, by rw [if_pos rfl, upd_at], ?_⟩
        rw [upd_at]
        refine ⟨hl, Or.inr ⟨lb, lc, rfl, (hk lb hlbn hap.2.2.1 hap.2.2.2.1 hap.2.2.2.2).trans hlb, ⟨hap.1, hap.2.1, hap.2.2.1, hap.2.2.2.1, ?_⟩, hlc⟩⟩
        rcases ho with rfl | ho
        · exact hap.2.2.2.2
        · intro e; have := ho _ e; omega
      · exact Or.inl ⟨by rw [if_neg e], by rw [upd_ne (by omega)]⟩
  have hfit1 : v * 3 + 1 ≤ cs.length := by omega
  have hfit2 : v * 3 + 1 + 1 ≤ cs.length := by omega
  simp [hs, g1, hv, g9]
  cases hd : (w v).d with
  | true =>
    simp
    exact DN.of (hno (takes_no.2 (Or.inl hd)))
  | false =>
    simp [g1, g7, g8]
    by_cases hc : 0 ≤ (w v).c
    · simp [hc, g1, g7, g8]
      refine CN.use (better_ok (c := lc) (c' := c') hsl g4 (by omega) (by omega) x (w v).c) ?_
      rintro _ _ - - ⟨rfl, rfl⟩
      cases hb : betB x l (w v).c (w v).l with
      | false =>
        simp [hc]
        exact DN.of (hno (takes_no.2 (Or.inr ⟨hd, hc, hb⟩)))
      | true =>
        have ht := takes_yes.2 ⟨hd, Or.inr hb⟩
        have hobt := htake hd ht _ rfl
        obtain ⟨t1, t2⟩ := hobt
        simp [hc, g1, hfit1, hfit2, AH.get_set, hlen1, hs, e1]
        refine CN.use (push_ok t1 ⟨x, l.length, v⟩ hq) ?_
        rintro _ A2 hw2 hn2 ⟨L', ob', q1, q2, q3⟩
        simp
        exact DN.of (t2 A2 L' ob' (AH.wf_set hwf hwb _) q1 q2 q3)
    · simp [hc]
      have ht : takes w v l x = true := takes_yes.2 ⟨hd, Or.inl (by omega)⟩
      have hobt := htake hd ht _ rfl
      obtain ⟨t1, t2⟩ := hobt
      simp [g1, hfit1, hfit2, AH.get_set, hlen1, hs, e1]
      refine CN.use (push_ok t1 ⟨x, l.length, v⟩ hq) ?_
      rintro _ A2 hw2 hn2 ⟨L', ob', q1, q2, q3⟩
      simp
      exact DN.of (t2 A2 L' ob' (AH.wf_set hwf hwb _) q1 q2 q3)
end
end Go.Proofs.Ytolifpkbkjofaaa.AC
/- A node is settled. -/
namespace Go.Proofs.Ytolifpkbkjofaaa.AC
open Go Go.AI Go.Proofs Go.Proofs.Ytolifpkbkjofaaa.AQ
set_option linter.unusedVariables false
theorem DI.weak {n s : Int} {ks : List Lk} {w : Int → Wy} {q : List It} {P P' : Nat → Prop} (h : DI n s ks w q P) (hp : ∀ i, i < ks.length → P i → P' i) : DI n s ks w q P' :=
  ⟨h.one, h.path, h.none, h.ord, fun i hi hP hd => h.clo i hi (fun p => hP (hp i hi p)) hd, h.que, h.qin⟩
theorem DI.offd {n s : Int} {ks : List Lk} {w w' : Int → Wy} {q q' : List It} {P : Nat → Prop} (hg : goodN n ks) (h : DI n s ks w q P) {i : Nat} (hi : i < ks.length) (hu : (w (lk ks i).f).d = true) (hmax : ∀ v, 0 ≤ v → v < n → (w v).d = true → (w v).c ≤ (w (lk ks i).f).c)
    (ho : Offd w w' q q' (lk ks i).t ((w (lk ks i).f).l ++ [(lk ks i).t]) ((w (lk ks i).f).c + (lk ks i).m)) :
    DI n s ks w' q' (fun j => P j ∧ j ≠ i) ∧ (∀ v, (w v).d = true → w' v = w v) ∧ (∀ v, (w' v).d = (w v).d) ∧ q'.length ≤ q.length + 1 := by
  have hl := hg.link hi
  unfold Offd at ho
  rcases ho with ⟨h1, rfl, h3⟩ | ⟨h1, rfl, rfl⟩
  · have hd := (takes_yes.1 h1).1
    refine ⟨(h.take hg hi hu hmax h1 rfl rfl).perm h3, fun v hv => ?_, fun v => ?_, by rw [h3.length_eq]; simp⟩
    · by_cases e : v = (lk ks i).t
      · rw [e, hd] at hv; cases hv
      · rw [upd_ne e]
    · by_cases e : v = (lk ks i).t
      · rw [e, hd, upd_at]
      · rw [upd_ne e]
  · exact ⟨h.keep hg hi hu hmax h1, fun v _ => rfl, fun v => rfl, by omega⟩
theorem un_same {ks : List Lk} {w w' : Int → Wy} (h : ∀ v, (w' v).d = (w v).d) : un ks w' = un ks w := by
  unfold un; congr 1; apply List.filter_congr; intro i _; rw [h]
theorem outs_len {n : Int} {ks : List Lk} (hg : goodN n ks) (x : Int) : (outsN ks x ks.length).length < 20 := by
  have hnd : ((outsN ks x ks.length).map fun i => (lk ks i.toNat).t).Nodup := by
    unfold outsN
    rw [List.map_map]
    have hp : (List.filter (fun i => decide ((lk ks i).f = x)) (List.range ks.length)).Pairwise (· < ·) := List.Pairwise.filter _ List.pairwise_lt_range
    unfold List.Nodup
    rw [List.pairwise_map]
    refine List.Pairwise.imp_of_mem (fun {a b} ha hb hab => ?_) hp
    simp only [List.mem_filter, List.mem_range, decide_eq_true_eq] at ha hb
    intro e
    have e : (lk ks a).t = (lk ks b).t := e
    exact hg.2.2.2 b hb.1 (Or.inl ⟨a, hab, by rw [ha.2, hb.2], e⟩)
  have h := nodup_len n.toNat _ hnd fun y hy => by
    have hobt := List.mem_map.1 hy
    obtain ⟨i, hi, rfl⟩ := hobt
    have hobt := outsN_mem.1 hi
    obtain ⟨j, hj, rfl, -⟩ := hobt
    have := hg.link hj
    simp only [Int.toNat_natCast]
    omega
  rw [List.length_map] at h
  have := hg.2.1
  omega
/-- A slice cut to its length. -/
theorem slW_full {P : Program} {z b n c : Nat} {k k' : IntKind} {A : AH} (hc : lcap n c) (hn : n < UNK) : slW P z (some ⟨b, 0, none⟩) n c none (some (.int k n)) (some (.int k' n)) A = some (.slice (some ⟨b, 0, none⟩) n n) := by
  have ht : n ≤ topOf n c := by
    unfold topOf
    split
    · exact Nat.le_refl _
    · rcases hc with h | h <;> omega
  unfold slW
  rw [if_pos ht]
  simp only [aBounds, aBndO_none, aBnd_int]
  rw [if_pos ⟨by omega, by omega⟩]
  simp only [Option.bind_some, Int.toNat_natCast]
  rw [if_pos ⟨by omega, by omega⟩]
  simp only [Option.map_some, Option.bind_some, Nat.sub_zero]
  rw [if_neg (by omega)]
  simp [cutA_zero]
/-- A list and one more, laid anew. -/
theorem appW_more {A1 : AH} {b b' : Nat} {l : List Int} {x : Int} (hb : A1.get b = some (.row (ints l).flatten 3 false)) (hb' : A1.get b' = some (.row [.int .i64 x] 3 false)) (hl : l.length ≤ 1000) :
    appW 3 1 8 (.slice (some ⟨b, 0, none⟩) l.length l.length) (.slice (some ⟨b', 0, none⟩) 1 1) A1 = some (.slice (some ⟨A1.next, 0, none⟩) (l.length + 1) UNK, A1.alloc (.row (ints (l ++ [x])).flatten 3 false)) := by
  have h1 := (Sl.row (ints_rw l) hb rfl).first (c := l.length)
  have h2 := (Sl.row (ints_rw [x]) hb' (by simp [ints])).first (c := 1)
  simp only [ints_len] at h1
  have h2 : firstOf A1 1 1 (.slice (some ⟨b', 0, none⟩) 1 1) = some (ints [x]).flatten := h2
  rw [appW_out h2 (by decide) (by omega) (by omega) (by decide) (by unfold UNK; omega) (by omega) h1]
  simp [ints]
theorem QH.lt {A : AH} {qb : Nat} {ob : Option Nat} {L : List It} (h : QH A qb ob L) (hw : A.wf) : qb < A.next ∧ ∀ b, ob = some b → b < A.next := by
  have hobt := h.1
  obtain ⟨v, h1, h2, h3⟩ := hobt
  exact ⟨hw _ _ h1, fun b hb => h2.lt hw hb⟩
section
variable {n0 : Nat} {A0 A A' : AH} {sp wb qb : Nat} {ob ob' : Option Nat} {n : Nat} {a : Option Addr} {c : Nat} {ks : List Lk} {R : Nat → List Value} {w : Int → Wy} {q : List It} {s : Int}
theorem SS.ext0 (h : SS n0 A sp wb qb ob n a c ks R w q) (hn : A0.next = n0) (hx : Ext A0 A) (hn2 : A0.next ≤ A.next) (hk : Ks A A' wb qb ob) : Ext A0 A' := fun b hb => by
  have := h.lo
  rw [hk b (by omega) (by omega) (by omega) (fun e => by have := this.2.2.2 b e; omega), hx b hb]
theorem SS.settled (h : SS n0 A sp wb qb ob n a c ks R w q) (hwf : A.wf) {v : Nat} (hv : v < n) {cs : List Value} (hcs : A.get wb = some (.row cs 63 false)) :
    ∃ R', SS n0 (A.set wb (.row (spl cs (v * 3 + 2) [.bool true]) 63 false)) sp wb qb ob n a c ks R' (sett w v) q := by
  have hobt := h.at hv
  obtain ⟨cs', a', c', g1, g2, g3, -, -, -⟩ := hobt
  have hobt := h.ne
  obtain ⟨e1, e2, e3, e4, e5⟩ := hobt
  rw [hcs] at g1
  injection g1 with g1
  injection g1 with g1 _ _
  subst g1
  have hk : Ks A (A.set wb (.row (spl cs (v * 3 + 2) [.bool true]) 63 false)) wb qb ob := fun b _ h2 _ _ => by rw [AH.get_set, if_neg h2]
  refine ⟨fun u => if u = v then [.slice a' (w v).l.length c', .int .i64 (w v).c, .bool true] else R u, h.move hwf hk (Or.inl rfl) ?_ (fun u hu => ?_) ?_⟩
  · rw [AH.get_set, if_pos rfl, g2, spl_flat h.rw.len (by simpa using hv) (by simp)]
    simp only [List.getElem_map, List.getElem_range, g3, range_set, spl_cons_succ, spl_cons_zero, spl_nil']
  · by_cases e : u = v
    · subst e
      refine Or.inr ?_
      have hw0 := (h.wy u hu).kept hwf hk (Or.inl rfl)
      rw [g3] at hw0
      obtain ⟨y, h1, h2, h3⟩ := hw0
      simp only [List.cons.injEq, true_and, and_true] at h1
      rw [if_pos rfl]
      unfold sett
      rw [upd_at]
      exact ⟨y, by rw [h1], h2, h3⟩
    · exact Or.inl ⟨if_neg e, by unfold sett; rw [upd_ne (by omega)]⟩
  · refine h.qh.kept' hwf fun b hb hq => ?_
    rw [AH.get_set, if_neg]
    rintro rfl
    rcases hq with hq | hq
    · exact e3 hq
    · exact e5 hq
theorem settle_ok (hg : goodN n ks) (hs : 0 ≤ s ∧ s < n) (hn0 : A0.next = n0) (hw0 : A0.wf) (h0 : Sl A0 53 5 a (ks.map Lk.enc)) (hx0 : Ext A0 A) (hnx : A0.next ≤ A.next)
    (h : SS n0 A sp wb qb ob n a c ks R w q) (x : It) (hI : DI n s ks w (x :: q) (fun _ => False)) (hm : ∀ y ∈ x :: q, leI x y) (hlen : q.length + un ks w ≤ 64) :
    ACall Try.prog 25 [.pointer (some ⟨sp, 0, none⟩), .agg x.enc.toArray] A fun _ A' => ∃ R' w' q' ob', SS n0 A' sp wb qb ob' n a c ks R' w' q' ∧ DI n s ks w' q' (fun _ => False) ∧ q'.length + un ks w' ≤ q.length + un ks w ∧ Ks A A' wb qb ob ∧ (ob' = ob ∨ Fresh A.next ob') := by
  have hobt := hI.qin x List.mem_cons_self
  obtain ⟨x0, x1, -, -⟩ := hobt
  obtain ⟨v, hv⟩ : ∃ v : Nat, x.n = v := ⟨x.n.toNat, by omega⟩
  have hvn : v < n := by omega
  have hobt := h.at hvn
  obtain ⟨cs, a', c', g1, g2, g3, g4, g5, g6, g7, g8, g9⟩ := hobt
  have hobt := h.ne
  obtain ⟨e1, e2, e3, e4, e5⟩ := hobt
  have hgs := h.s
  refine code25.call (by simp) fun hwf => ?_
  unfold c25
  have xa := Ext.alloc A (.row x.enc 67 false)
  have hwa := AH.wf_alloc hwf (.row x.enc 67 false)
  have h' := h.ext hwf xa
  have hsn := hwf _ _ hgs
  have hwn := hwf _ _ g1
  have hsp : sp ≠ A.next := by omega
  have hnw : wb ≠ A.next := by omega
  have hnw' : A.next ≠ wb := by omega
  have k2 : x.enc[2]? = some (.int .i64 v) := by rw [← hv]; rfl
  simp [hgs, hsp, k2, g1, hvn, g9, hnw]
  cases hd : (w v).d with
  | true =>
    simp
    exact DN.of ⟨R, w, q, ob, h', hI.skip (by rw [hv]; exact hd), Nat.le_refl _, Ks.ext xa _ _ _, Or.inl rfl⟩
  | false =>
    have hfit : v * 3 + 2 + 1 ≤ cs.length := by omega
    have hsw : sp ≠ wb := e1
    simp [g1, hfit, hnw, hgs, hsp, hsw, hnw', k2]
    have hobt := h'.settled hwa hvn (by rw [AH.get_alloc, if_neg hnw]; exact g1)
    obtain ⟨R1, s1⟩ := hobt
    have hobt := hI.settle (by rw [hv]; exact hd) hm
    obtain ⟨i1, m1⟩ := hobt
    rw [hv] at i1 m1
    have hq0 := un_sett (ks := ks) hd
    have hw1 := AH.wf_set hwa (c := wb) (by simp; omega) (.row (spl cs (v * 3 + 2) [.bool true]) 63 false)
    have ka : Ks A ((A.alloc (.row x.enc 67 false)).set wb (.row (spl cs (v * 3 + 2) [.bool true]) 63 false)) wb qb ob := fun b b1 b2 _ _ => by rw [AH.get_set, if_neg b2, AH.get_alloc, if_neg (by omega)]
    have x1 := h.ext0 hn0 hx0 hnx ka
    have hlk := h0.ext hw0 x1
    refine CN.use (outs_ok (c := c) hlk v (by have := hg.2.2.1; omega) (outs_len hg v)) ?_
    rintro vL A2 hw2 hn2 ⟨ob2, L', hp, hq2, hf2, x2⟩
    simp only [AH.next_set, AH.next_alloc] at hn2 hf2
    have hobt := hq2.sl
    obtain ⟨aL, cL, rfl, hsl, hbl⟩ := hobt
    rw [ints_len] at hq2
    simp
    have s2 := s1.ext hw1 x2
    have k2 := (ka.trans (by simp) (Ks.ext x2 wb qb ob) (Or.inl rfl))
    have hlen' := hp.length_eq
    refine LN.use (fun m E A' => ∃ (j : Nat) (ob3 : Option Nat) (R' : Nat → List Value) (w' : Int → Wy) (q' : List It), m + j = L'.length ∧ SS n0 A' sp wb qb ob3 n a c ks R' w' q' ∧ DI n s ks w' q' (fun i => (lk ks i).f = v ∧ (i : Int) ∈ L'.drop j) ∧ w' v = sett w v v ∧ (∀ u, (w' u).d = true → 0 ≤ u → u < n → (w' u).c ≤ (w' v).c) ∧ (∀ u, (w' u).d = (sett w v u).d) ∧ q'.length ≤ q.length + j ∧ Ks A2 A' wb qb ob ∧ (ob3 = ob ∨ Fresh A2.next ob3) ∧ A2.next ≤ A'.next ∧ E.get 0 = .pointer (some ⟨sp, 0, none⟩) ∧ E.get 4 = .pointer (some ⟨wb, v * 3, none⟩) ∧ E.get 28 = .slice aL L'.length cL ∧ E.get 29 = .int .i64 L'.length ∧ E.get 30 = .int .i64 j) L'.length
      ⟨0, ob, R1, sett w v, q, by omega, s2, i1.weak (fun i hi hfi => ⟨hfi, by rw [List.drop_zero, hp.mem_iff]; exact outsN_mem.2 ⟨i, hi, rfl, hfi⟩⟩), rfl, fun u h1 h2 h3 => m1 u h2 h3 h1, fun u => rfl, by omega, Ks.refl _ _ _ _, Or.inl rfl, Nat.le_refl _, by simp, by simp, by simp, by simp, by simp⟩ ?_
    rintro m E A3 hw3 hn3 ⟨j, ob3, R3, w3, q3, hj, s3, i3, hwv, m3, d3, l3, k3, f3, n3, E0, E4, E28, E29, E30⟩
    by_cases hlt : (j : Int) < L'.length
    · have hlt' : j < L'.length := by omega
      have hob := (h.qh.lt hwf).2
      have hqb := (h.qh.lt hwf).1
      have x02 : Ext A0 A2 := x1.trans (by simp; omega) x2
      have x03 := s2.ext0 hn0 x02 (by omega) k3
      have hlk3 := h0.ext hw0 x03
      have hsl3 : Sl A3 3 1 aL (ints L') := hsl.kept fun b o y ha hy => by
        have hb := (hbl b o ha).1
        have := hf2 b hb
        exact k3 b (hw2 _ _ hy) (by omega) (by omega) (fun e => by have := hob b e; omega)
      have hobt := hsl3.one (Go.AI.ints_at hlt')
      obtain ⟨bj, oj, csj, qj, rfl, y1, y2⟩ := hobt
      have hobt := outsN_mem.1 (hp.mem_iff.1 (List.getElem_mem hlt'))
      obtain ⟨i0, hi0, hi0e, hif⟩ := hobt
      rw [hi0e] at y2
      have hobt := lks_at hlk3 hi0
      obtain ⟨bk, ok, csk, qk, rfl, z1, z2, z3, z4, z5, z6⟩ := hobt
      have hobt := s3.at hvn
      obtain ⟨cs3, a3, c3, u1, u2, u3, u4, u5, u6, u7, u8, u9⟩ := hobt
      have hwc : 0 ≤ (w3 v).c ∧ (w3 v).d = true := by
        have hd3 : (w3 v).d = true := by rw [hwv]; simp [sett, upd]
        refine ⟨?_, hd3⟩
        by_cases hh : 0 ≤ (w3 v).c
        · exact hh
        · have := (i3.none v (by omega) (by omega) (by omega)).2.2
          rw [hd3] at this; cases this
      have hobt := i3.path v (by omega) (by omega) hwc.1
      obtain ⟨p1, p2, p3⟩ := hobt
      have hup := p1.up hg
      have hln := nodup_len n _ p2 fun y hy => p1.rng hg hs y hy
      obtain ⟨bl, cl, hbv, hbg, hbap, hbc⟩ : ∃ bl cl, Value.slice a3 (w3 v).l.length c3 = .slice (some ⟨bl, 0, none⟩) (w3 v).l.length cl ∧ A3.get bl = some (.row (ints (w3 v).l).flatten 3 false) ∧ Ap n0 sp wb qb ob3 bl ∧ lcap (w3 v).l.length cl := by
        have hobt := s3.wy v hvn
        obtain ⟨y, r1, -, ⟨r2, -⟩ | ⟨b, c, r2, r3, r4, r5⟩⟩ := hobt
        · exact absurd r2 p1.ne
        · rw [u3] at r1
          simp only [List.cons.injEq] at r1
          exact ⟨b, c, by rw [r1.1, r2], r3, r4, r5⟩
      rw [hbv] at u7
      have hgl := hg.link hi0
      have n3w := hw3 _ _ u1
      have n3s := hw3 _ _ s3.s
      have n3k := hw3 _ _ z1
      have n3l := hw3 _ _ hbg
      have n3j := hw3 _ _ y1
      have v1 : bk ≠ A3.next := by omega
      have v2 : wb ≠ A3.next := by omega
      have v3 : sp ≠ A3.next := by omega
      have v4 : bl ≠ A3.next := by omega
      have v5 : wb ≠ A3.next + 1 := by omega
      have v6 : wb ≠ A3.next + 2 := by omega
      have lke : (lk ks i0).enc.length = 5 := rfl
      have lk0 : (lk ks i0).enc[1] = .int .i64 (lk ks i0).t := rfl
      have lk3 : (lk ks i0).enc[3] = .int .i64 (lk ks i0).m := rfl
      have hoc : ∀ y ∈ (lk ks i0).enc, oneB y = true := List.all_eq_true.1 (rfl : (lk ks i0).enc.all oneB = true)
      have hgs3 := s3.s
      have sl3 := fun C => slW_full (P := Try.prog) (z := 1) (b := bl) (k := .i64) (k' := .i64) (A := C) hbc (by unfold UNK; omega)
      have happ := appW_more (A1 := (A3.alloc (.row (lk ks i0).enc 53 false)).alloc (.row [.int .i64 (lk ks i0).t] 3 false)) (b := bl) (b' := A3.next + 1) (l := (w3 v).l) (x := (lk ks i0).t) (by rw [AH.get_alloc, if_neg (by simp; omega), AH.get_alloc, if_neg v4]; exact hbg) (by rw [AH.get_alloc, if_pos (by simp)]) (by omega)
      have hwr : IntKind.i64.wrap ((w3 v).c + (lk ks i0).m) = (w3 v).c + (lk ks i0).m := i64_in (by omega) (by omega)
      have v7 : ¬ A3.next = A3.next + 1 := by omega
      have v8 : ¬ A3.next = A3.next + 2 := by omega
      simp [E0, E4, E28, E29, E30, hlt, hlt', y1, y2, hgs3, hi0, z1, z2, z3, lke, hoc, lk0, lk3, u1, u7, u8, v1, v2, v3, v4, v5, v6, v7, v8, sl3, happ, hwr]
      refine ⟨hoc, ?_⟩
      have x4 : Ext A3 (((A3.alloc (.row (lk ks i0).enc 53 false)).alloc (.row [.int .i64 (lk ks i0).t] 3 false)).alloc (.row (ints ((w3 v).l ++ [(lk ks i0).t])).flatten 3 false)) := ((Ext.alloc A3 _).app (by simp) _).app (by simp; omega) _
      have s4 := s3.ext hw3 x4
      have hob3 := (s3.qh.lt hw3).2
      have hqb3 := (s3.qh.lt hw3).1
      have ht : (((lk ks i0).t.toNat : Nat) : Int) = (lk ks i0).t := by omega
      have hn16 := hg.2.1
      have hql : q3.length < 1024 := by
        have h1 : un ks (sett w v) + L'.length = un ks w := by rw [hlen']; exact hq0
        omega
      have hapl : Ap n0 sp wb qb ob3 (A3.next + 1 + 1) := by
        have h1 := s3.lo
        refine ⟨by omega, by omega, by omega, by omega, fun e => ?_⟩
        have := hob3 _ e
        omega
      have hof := offer_ok s4 (v := (lk ks i0).t.toNat) (by omega) (lb := A3.next + 1 + 1) (lc := UNK) (l := (w3 v).l ++ [(lk ks i0).t]) ((w3 v).c + (lk ks i0).m) (by rw [AH.get_alloc, if_pos (by simp)]) hapl (Or.inl rfl) (by simp; omega) hql
      rw [ht] at hof
      simp only [List.length_append, List.length_singleton] at hof
      refine CN.use hof ?_
      rintro _ A5 hw5 hn5 ⟨R5, w5, q5, ob5, s5, o5, k5, f5⟩
      simp only [AH.next_alloc] at hn5 f5
      have hobt := i3.offd hg hi0 (by rw [hif]; exact hwc.2) (fun u h1 h2 h3 => by rw [hif]; exact m3 u h3 h1 h2) (by rw [hif]; exact o5)
      obtain ⟨t1, t2, t3, t4⟩ := hobt
      have hj1 : IntKind.i64.wrap ((j : Int) + 1) = ((j + 1 : Nat) : Int) := by rw [i64_in (by omega) (by omega)]; simp
      have hsame := t2 v hwc.2
      simp [E30, hj1]
      refine NX.of ⟨m - 1, by omega, j + 1, ob5, R5, w5, q5, by omega, s5, t1.weak (fun i hi hP => ?_), by rw [hsame, hwv], fun u h1 h2 h3 => ?_, fun u => by rw [t3, d3], by omega, ?_, ?_, by omega, by simp [E0], by simp [E4], by simp [E28], by simp [E29], by simp⟩
      · obtain ⟨⟨hP1, hP2⟩, hP3⟩ := hP
        refine ⟨hP1, ?_⟩
        rw [List.drop_eq_getElem_cons hlt', List.mem_cons, hi0e] at hP2
        rcases hP2 with hP2 | hP2
        · omega
        · exact hP2
      · have hd5 : (w3 u).d = true := by rw [← t3]; exact h1
        rw [hsame, t2 u hd5]
        exact m3 u hd5 h2 h3
      · exact k3.trans (by omega) ((Ks.ext x4 wb qb ob3).trans (by simp; omega) k5 (Or.inl rfl)) f3
      · rcases f5 with rfl | f5
        · exact f3
        · exact Or.inr fun b hb => by have := f5 b hb; omega
    · simp [E29, E30, hlt]
      obtain rfl : j = L'.length := by omega
      refine DN.of ⟨R3, w3, q3, ob3, s3, i3.weak (fun i _ hP => by have := hP.2; simp at this), ?_, k2.trans (by omega) k3 (Or.inl rfl), ?_⟩
      · rw [un_same d3]; omega
      · exact f3.imp id fun f => fun b hb => by have := f b hb; omega
end
end Go.Proofs.Ytolifpkbkjofaaa.AC
/- All best routes. -/
namespace Go.Proofs.Ytolifpkbkjofaaa.AC
open Go Go.AI Go.Proofs Go.Proofs.Ytolifpkbkjofaaa.AQ
set_option linter.unusedVariables false
theorem clone_ok {A : AH} {a : Option Addr} {c : Nat} {l : List Int} (h : Sl A 3 1 a (ints l)) (hl : l.length ≤ 1000000000) : ACall Try.prog 26 [.slice a l.length c] A fun v A' => Ext A A' ∧ ∃ a' c', v = .slice a' l.length c' ∧ Sl A' 3 1 a' (ints l) ∧ (∀ b o, a' = some ⟨b, o, none⟩ → A.next ≤ b) ∧ (a = none ↔ a' = none) ∧ CapOk A' 3 a' l.length c' ∧ (l ≠ [] → ∃ b, a' = some ⟨b, 0, none⟩ ∧ A'.get b = some (.row (ints l).flatten 3 false)) := by
  refine code26.call (by simp) fun hwf => ?_
  unfold c26
  simp
  split
  · rename_i ha
    subst ha
    cases l with
    | nil => exact DN.of ⟨Ext.refl A, none, 0, rfl, h, by simp, by simp, Or.inl ⟨by simp, by unfold UNK; omega⟩, fun h => absurd rfl h⟩
    | cons x l => obtain ⟨b, o, cs, ro, h1, _⟩ := h.2.2 (by simp [ints]); cases h1
  · rename_i ha
    have hobt := appW_lit (e := 3) (z := 1) (y := 8) (c := c) (b := A.next) (o := 0) (h.ext hwf (Ext.alloc A (.row [] 3 false))) (by simp) (by omega) (by simp <;> omega) (by simp <;> omega)
    obtain ⟨b', o', c', A', h1, h2, h3, h4, h5, h6, h7⟩ := hobt
    rw [ints_len] at h1 h6
    simp [h1]
    exact DN.of ⟨(Ext.alloc A _).trans (by simp) h3, _, _, rfl, h2, fun b o hb => by injection hb with hb; injection hb with hb; omega, by simp [ha], h6, fun hn => by
      have hobt := h7 (by intro e; apply hn; have := congrArg List.length e; rw [ints_len] at this; exact List.eq_nil_of_length_eq_zero this)
      obtain ⟨e1, e2⟩ := hobt
      exact ⟨b', by rw [e1], e2⟩⟩
theorem mkW_rows {e z y n : Nat} {zc : List Value} {k k' : IntKind} {A : AH} (hc : n ≤ 1099511627776) (hy : y * n ≤ 281474976710656) :
    mkW e z y zc (.int k n) (.int k' n) A = some (.slice (some ⟨A.next, 0, none⟩) n n, A.alloc (.row ((List.range n).map fun _ => zc).flatten e false)) := by
  unfold mkW
  simp only [Int.toNat_natCast]
  rw [if_pos ⟨by omega, by omega, by omega, by rw [← Int.natCast_mul]; generalize y * n = q at hy ⊢; omega⟩]
  simp [zrep, List.map_const']
/-- The routes and costs that are answered. -/
def RM (A : AH) (n0 : Nat) (w : Int → Wy) (n : Nat) (vr vc : Value) : Prop :=
  ∃ rb cb, ∃ S : Nat → Value, vr = .slice (some ⟨rb, 0, none⟩) n n ∧ vc = .slice (some ⟨cb, 0, none⟩) n n ∧ n0 ≤ rb ∧ n0 ≤ cb ∧ A.get rb = some (.row ((List.range n).map fun u => [S u]).flatten 23 false) ∧ A.get cb = some (.row ((List.range n).map fun u : Nat => [Value.int .i64 (w u).c]).flatten 3 false) ∧
    ∀ u, u < n → ∃ a c, S u = .slice a (w u).l.length c ∧ Sl A 3 1 a (ints (w u).l) ∧ (∀ b o, a = some ⟨b, o, none⟩ → n0 ≤ b) ∧ CapOk A 3 a (w u).l.length c ∧ (w u).l.length ≤ 1000
theorem QH.popped {A A' : AH} {n0 sp wb qb : Nat} {ob : Option Nat} {n : Nat} {a : Option Addr} {c : Nat} {ks : List Lk} {R : Nat → List Value} {w : Int → Wy} {q q' : List It} (h : SS n0 A sp wb qb ob n a c ks R w q) (hw : A.wf) (hq : QH A' qb ob q') (hk : Kq A A' qb ob) : SS n0 A' sp wb qb ob n a c ks R w q' ∧ Ks A A' wb qb ob := by
  have hobt := h.ne
  obtain ⟨e1, e2, e3, e4, e5⟩ := hobt
  have hk' : Ks A A' wb qb ob := fun b b1 _ b3 b4 => hk b b1 b3 b4
  exact ⟨h.move hw hk' (Or.inl rfl) ((hk wb (hw _ _ h.ws) e3 e5).trans h.ws) (fun v _ => Or.inl ⟨rfl, rfl⟩) hq, hk'⟩
theorem flat_one {n : Nat} {S : Nat → Value} {v : Nat} {x : Value} (hv : v < n) : spl ((List.range n).map fun u => [S u]).flatten v [x] = ((List.range n).map fun u => [if u = v then x else S u]).flatten := by
  have h := spl_flat (z := 1) (i := v) (j := 0) (L := (List.range n).map fun u => [S u]) (vs := [x]) (by
    intro r hr
    have hobt := List.mem_map.1 hr
    obtain ⟨u, -, rfl⟩ := hobt
    rfl) (by simpa using hv) (by simp)
  rw [Nat.mul_one, Nat.add_zero] at h
  rw [h]
  simp only [List.getElem_map, List.getElem_range, spl_cons_zero, spl_nil', range_set]
  congr 1
  apply List.map_congr_left
  intro u _
  by_cases e : u = v <;> simp [e]
theorem flat_one_len {n : Nat} {S : Nat → Value} : ((List.range n).map fun u => [S u]).flatten.length = n := by
  have := flat_len (z := 1) (L := (List.range n).map fun u => [S u]) (by
    intro r hr
    have hobt := List.mem_map.1 hr
    obtain ⟨u, -, rfl⟩ := hobt
    rfl)
  simpa using this
theorem flat_one_at {n : Nat} {S : Nat → Value} {v : Nat} (hv : v < n) : ((List.range n).map fun u => [S u]).flatten[v]? = some (S v) := by
  have := flat_at (z := 1) (L := (List.range n).map fun u => [S u]) (i := v) (by
    intro r hr
    have hobt := List.mem_map.1 hr
    obtain ⟨u, -, rfl⟩ := hobt
    rfl) (by simpa using hv)
  rw [Nat.mul_one] at this
  have := at_cell (i := 0) this (by omega)
  simpa using this
theorem next_ok {A : AH} {n0 sp wb qb : Nat} {ob : Option Nat} {n : Nat} {a : Option Addr} {c : Nat} {ks : List Lk} {R : Nat → List Value} {w : Int → Wy} {q : List It} {s : Int} (h : SS n0 A sp wb qb ob n a c ks R w q) (hI : DI n s ks w q (fun _ => False)) (hl : q.length ≤ 100) :
    ACall Try.prog 24 [.pointer (some ⟨qb, 0, none⟩)] A fun v A' => ∃ q' x e, v = .tuple #[.agg x.enc.toArray, .int .i64 e] ∧ SS n0 A' sp wb qb ob n a c ks R w q' ∧ Ks A A' wb qb ob ∧ ((e = 8 ∧ q' = [] ∧ q = []) ∨ (e = 0 ∧ DI n s ks w (x :: q') (fun _ => False) ∧ (∀ y ∈ x :: q', leI x y) ∧ q.length = q'.length + 1)) := by
  refine ACall.wf fun hwf => ?_
  by_cases h0 : q = []
  · subst h0
    refine (pop_none h.qh).mono fun v A' h1 h2 h3 => ?_
    obtain ⟨rfl, hx⟩ := h3
    exact ⟨[], ⟨0, 0, 0⟩, 8, rfl, h.ext hwf hx, Ks.ext hx _ _ _, Or.inl ⟨rfl, rfl, rfl⟩⟩
  · have hpos : 0 < q.length := List.length_pos_iff.2 h0
    refine (pop_ok h.qh hpos (by omega)).mono fun v A' h1 h2 h3 => ?_
    obtain ⟨L', x, rfl, hq, hp, hm, hk⟩ := h3
    have hobt := QH.popped h hwf hq hk
    obtain ⟨g1, g2⟩ := hobt
    exact ⟨L', x, 0, rfl, g1, g2, Or.inr ⟨rfl, hI.perm hp.symm, fun y hy => hm y (hp.mem_iff.2 hy), by have := hp.length_eq; simpa using this⟩⟩
theorem all_good {A : AH} {a : Option Addr} {c : Nat} {ks : List Lk} (h : Sl A 53 5 a (ks.map Lk.enc)) {n : Nat} {s : Int} (hg : goodN n ks) (hs : 0 ≤ s ∧ s < n) :
    ACall Try.prog 13 [.int .i64 n, .slice a ks.length c, .int .i64 s] A fun v A' => Ext A A' ∧ ∃ w, Best n ks s w ∧ ∃ vr vc, v = .tuple #[vr, vc, .int .i64 0] ∧ RM A' A.next w n vr vc := by
  have hn16 := hg.2.1
  have hl64 := hg.2.2.1
  refine code13.call (by simp) fun hwf => ?_
  unfold c13
  simp
  refine CN.use (check_ok (c := c) h n) ?_
  rintro _ A1 hw1 hn1 ⟨x1, r, rfl, hr⟩
  obtain rfl := hr.zero.2 hg
  have hs1 : ¬ s < 0 := by omega
  have hs2 : ¬ (n : Int) ≤ s := by omega
  have mk := fun C => mkW_rows (e := 63) (z := 3) (y := 40) (n := n) (zc := zc63) (k := .i64) (k' := .i64) (A := C) (by omega) (by omega)
  simp [hs1, hs2, mk]
  refine CN.use (qnew_ok A1) ?_
  rintro _ A2 hw2 hn2 ⟨rfl, q2, x2⟩
  have hq2 := (q2.lt hw2).1
  simp [mk]
  have x02 : Ext A A2 := x1.trans hn1 x2
  refine LN.use (fun m E A' => ∃ (k : Nat), m + k = n ∧ Ext A A' ∧ A'.next = A2.next + 2 ∧ QH A' A1.next none [] ∧ A'.get A2.next = some (.row ((List.range n).map fun u => [.slice none 0 0, .int .i64 (if u < k then -1 else 0), .bool false]).flatten 63 false) ∧ A'.get (A2.next + 1) = some (.row [.slice a ks.length c, .slice (some ⟨A2.next, 0, none⟩) n n, .pointer (some ⟨A1.next, 0, none⟩)] 61 false) ∧ E.get 0 = .int .i64 n ∧ E.get 2 = .int .i64 s ∧ E.get 9 = .pointer (some ⟨A2.next + 1, 0, none⟩) ∧ E.get 41 = .int .i64 n ∧ E.get 42 = .int .i64 k) n
    ⟨0, by omega, (x02.app (by omega) _).app (by simp; omega) _, by simp, (q2.ext hw2 (Ext.alloc _ _)).ext (AH.wf_alloc hw2 _) (Ext.alloc _ _), by simp [AH.get_alloc]; rfl, by simp [AH.get_alloc], by simp, by simp, by simp, by simp, by simp⟩ ?_
  rintro m E A3 hw3 hn3 ⟨k, hk, x3, n3, q3, g3, s3, E0, E2, E9, E41, E42⟩
  by_cases hlt : (k : Int) < n
  · have hlt' : k < n := by omega
    have hrw : ∀ r ∈ (List.range n).map fun u => [Value.slice none 0 0, .int .i64 (if u < k then -1 else 0), .bool false], r.length = 3 := by
      intro r hr
      have hobt := List.mem_map.1 hr
      obtain ⟨u, -, rfl⟩ := hobt
      rfl
    have hlen := flat_len hrw
    simp only [List.length_map, List.length_range] at hlen
    have hfit : k * 3 + 1 + 1 ≤ ((List.range n).map fun u => [Value.slice none 0 0, .int .i64 (if u < k then -1 else 0), .bool false]).flatten.length := by omega
    have hi : IntKind.i64.wrap ((k : Int) + 1) = ((k + 1 : Nat) : Int) := by rw [i64_in (by omega) (by omega)]; simp
    have hspl := spl_flat (i := k) (j := 1) (vs := [.int .i64 (-1)]) hrw (by simpa using hlt') (by simp)
    simp only [List.getElem_map, List.getElem_range, spl_cons_succ, spl_cons_zero, spl_nil', range_set] at hspl
    generalize hR : ((List.range n).map fun u => [Value.slice none 0 0, .int .i64 (if u < k then -1 else 0), .bool false]).flatten = cs at g3 hspl hfit
    simp [E9, E41, E42, hlt, hlt', s3, g3, hfit, hi]
    refine NX.of ⟨m - 1, by omega, k + 1, by omega, x3.setnew (by omega) _, by simp [n3], ?_, ?_, ?_, by simp [E0], by simp [E2], by simp [E9], by simp [E41], by simp⟩
    · refine q3.kept' hw3 fun b hb hq => ?_
      rw [AH.get_set, if_neg]
      rcases hq with hq | hq
      · omega
      · cases hq
    · rw [AH.get_set, if_pos rfl, hspl]
      congr 3
      apply List.map_congr_left
      intro u _
      by_cases e : u = k
      · subst e; simp
      · by_cases e2 : u < k
        · have e3 : u < k + 1 := by omega
          simp [e, e2, e3]
        · have e3 : ¬ u < k + 1 := by omega
          simp [e, e2, e3]
    · rw [AH.get_set, if_neg (by omega)]; exact s3
  · obtain rfl : n = k := by omega
    simp [E0, E2, E9, E41, E42]
    have hx4 := Ext.alloc A3 (.row [.int .i64 s] 3 false)
    have hw4 := AH.wf_alloc hw3 (.row [.int .i64 s] 3 false)
    have s4 : SS A.next (A3.alloc (.row [.int .i64 s] 3 false)) (A2.next + 1) A2.next A1.next none n a c ks (fun _ => [.slice none 0 0, .int .i64 (-1), .bool false]) w0 [] := by
      refine ⟨hx4.get hw3 s3, ?_, fun v hv => ⟨_, rfl, by simp [w0], Or.inl ⟨rfl, rfl⟩⟩, q3.ext hw3 hx4, ⟨by omega, by omega, by omega, Fresh.no _⟩, ⟨by omega, by omega, by omega, by simp, by simp⟩⟩
      rw [hx4.get hw3 g3]
      congr 3
      apply List.map_congr_left
      intro u hu
      simp [List.mem_range.1 hu]
    have x4 : Ext A (A3.alloc (.row [.int .i64 s] 3 false)) := x3.app (by omega) _
    have hst : ((s.toNat : Nat) : Int) = s := by omega
    have hof := offer_ok s4 (v := s.toNat) (by omega) (lb := A3.next) (lc := 1) (l := [s]) 0 (by rw [AH.get_new]; rfl) ⟨by omega, by omega, by omega, by omega, by simp⟩ (Or.inr ⟨by simp, by unfold UNK; omega⟩) (by simp) (by simp)
    rw [hst] at hof
    simp only [List.length_singleton] at hof
    refine CN.use hof ?_
    rintro _ A5 hw5 hn5 ⟨R5, w5, q5, ob5, s5, o5, k5, f5⟩
    simp only [AH.next_alloc] at hn5
    obtain ⟨rfl, hp5⟩ : w5 = upd w0 s ⟨[s], 0, false⟩ ∧ q5.Perm [⟨0, 1, s⟩] := by
      rcases o5 with ⟨-, h1, h2⟩ | ⟨h1, -⟩
      · exact ⟨h1, h2⟩
      · simp [takes, w0] at h1
    have hs5 := s5.s
    have i5 : DI n s ks (upd w0 s ⟨[s], 0, false⟩) q5 (fun _ => False) := (DI.start hs (x := ⟨0, 1, s⟩) ⟨rfl, rfl⟩).perm hp5
    have hl5 : q5.length = 1 := by rw [hp5.length_eq]; rfl
    have hu5 : un ks (upd w0 s ⟨[s], 0, false⟩) ≤ ks.length := un_le
    have x5 := s4.ext0 rfl x4 (by simp; omega) k5
    simp [hs5, E0, E9]
    refine CN.use (next_ok s5 i5 (by omega)) ?_
    rintro _ A6 hw6 hn6 ⟨q6, x, e, rfl, s6, k6, hc6⟩
    have x6 := s5.ext0 rfl x5 (by omega) k6
    simp [AH.get_alloc]
    have xl6 : x.enc.length = 3 := rfl
    have xo6 : ∀ y ∈ x.enc, oneB y = true := List.all_eq_true.1 (rfl : x.enc.all oneB = true)
    have xt6 : List.take 3 x.enc = x.enc := rfl
    simp [xl6, E0, E9]
    refine ⟨xo6, ?_⟩
    have s7 := s6.ext hw6 (Ext.alloc A6 (.row x.enc 67 false))
    have hqb6 := s6.qh.lt hw6
    refine LN.use (fun m E A' => ∃ (x : It) (q : List It) (R : Nat → List Value) (w : Int → Wy) (ob : Option Nat) (lb : Nat) (e : Int), SS A.next A' (A2.next + 1) A2.next A1.next ob n a c ks R w q ∧ Ext A A' ∧ A2.next + 2 ≤ A'.next ∧ A'.get lb = some (.row x.enc 67 false) ∧ A2.next + 2 ≤ lb ∧ ob ≠ some lb ∧ ((m = q.length + un ks w + 1 ∧ m ≤ 65 ∧ e = 0 ∧ DI n s ks w (x :: q) (fun _ => False) ∧ ∀ y ∈ x :: q, leI x y) ∨ (m = 0 ∧ e = 8 ∧ q = [] ∧ DI n s ks w [] (fun _ => False))) ∧ E.get 0 = .int .i64 n ∧ E.get 9 = .pointer (some ⟨A2.next + 1, 0, none⟩) ∧ E.get 11 = .func (.func 24) #[.pointer (some ⟨A1.next, 0, none⟩)] #[] ∧ E.get 12 = .pointer (some ⟨lb, 0, none⟩) ∧ E.get 13 = .int .i64 e) (if e = 8 then 0 else q6.length + un ks (upd w0 s ⟨[s], 0, false⟩) + 1)
      ⟨x, q6, R5, _, ob5, A6.next, e, s7, x6.app (by omega) _, by simp; omega, AH.get_new _ _, by omega, fun e => by have := hqb6.2 _ e; omega, ?_, by simp [E0], by simp [E9], by simp, by simp, by simp⟩ ?_
    · rcases hc6 with ⟨rfl, rfl, rfl⟩ | ⟨rfl, h2, h3, h4⟩
      · exact Or.inr ⟨rfl, rfl, rfl, i5⟩
      · exact Or.inl ⟨rfl, by simp; omega, rfl, h2, h3⟩
    clear hc6 s7 s6 k6 x6 s5 k5 f5 o5 i5 hof s4 x4 hx4 hw4 hqb6 xl6 xo6 xt6 hp5 hl5 hu5 hs5 x5 hw5 hw6 E0 E2 E9 E41 E42
    rintro m E A7 hw7 hn7 ⟨x, q, R, w, ob, lb, e, s7, x7, n7, l7, b7, o7, c7, E0, E9, E11, E12, E13⟩
    rcases c7 with ⟨rfl, hm, rfl, i7, m7⟩ | ⟨rfl, rfl, rfl, i7⟩
    · have xl : x.enc.length = 3 := rfl
      have xt : List.take 3 x.enc = x.enc := rfl
      simp [E9, E12, E13, l7, xl, xt]
      refine CN.use (settle_ok hg hs rfl hwf h x7 (by omega) s7 x i7 m7 (by omega)) ?_
      rintro _ A8 hw8 hn8 ⟨R8, w8, q8, ob8, s8, i8, l8, k8, f8⟩
      have x8 := s7.ext0 rfl x7 (by omega) k8
      have g8 := (k8 lb (hw7 _ _ l7) (by omega) (by omega) o7).trans l7
      simp [E11, E12, g8, xl, xt]
      have s9 := s8.ext hw8 (Ext.alloc A8 (.row x.enc 67 false))
      refine ⟨List.all_eq_true.1 (rfl : x.enc.all oneB = true), ?_⟩
      refine CN.use (next_ok s9 i8 (by omega)) ?_
      rintro _ A9 hw9 hn9 ⟨q9, y, e, rfl, s10, k9, hc9⟩
      simp only [AH.next_alloc] at hn9
      have x9 := s9.ext0 rfl (x8.app (by omega) _) (by simp; omega) k9
      have hqb8 := s8.qh.lt hw8
      have g9 := k9 A8.next (by simp) (by omega) (by omega) (fun e => by have := hqb8.2 _ e; omega)
      rw [AH.get_new] at g9
      have yl : y.enc.length = 3 := rfl
      have yo : ∀ z ∈ y.enc, oneB z = true := List.all_eq_true.1 (rfl : y.enc.all oneB = true)
      simp [g9, yl, xl]
      refine ⟨yo, ?_⟩
      have k10 : Ks A8 (A9.set A8.next (.row y.enc 67 false)) A2.next A1.next ob8 := fun b b1 b2 b3 b4 => by
        rw [AH.get_set, if_neg (by omega), k9 b (by simp; omega) b2 b3 b4, AH.get_alloc, if_neg (by omega)]
      have s11 : SS A.next (A9.set A8.next (.row y.enc 67 false)) (A2.next + 1) A2.next A1.next ob8 n a c ks R8 w8 q9 := by
        refine s8.move hw8 k10 (Or.inl rfl) ?_ (fun v _ => Or.inl ⟨rfl, rfl⟩) ?_
        · rw [AH.get_set, if_neg (by omega)]; exact s10.ws
        · refine s10.qh.kept' hw9 fun b hb hq => ?_
          rw [AH.get_set, if_neg]
          rcases hq with hq | hq
          · omega
          · have := hqb8.2 _ hq; omega
      refine NX.of ⟨if e = 8 then 0 else q9.length + un ks w8 + 1, ?_, y, q9, R8, w8, ob8, A8.next, e, s11, x9.setnew (by omega) _, by simp; omega, by rw [AH.get_set, if_pos rfl], by omega, fun e => by have := hqb8.2 _ e; omega, ?_, by simp [E0], by simp [E9], by simp [E11], by simp, by simp⟩
      · split <;> rcases hc9 with ⟨rfl, rfl, rfl⟩ | ⟨rfl, h2, h3, h4⟩ <;> omega
      · rcases hc9 with ⟨rfl, rfl, rfl⟩ | ⟨rfl, h2, h3, h4⟩
        · exact Or.inr ⟨rfl, rfl, rfl, i8⟩
        · exact Or.inl ⟨rfl, by simp; omega, rfl, h2, h3⟩
    · have mk2 := fun C => mkW_rows (e := 23) (z := 1) (y := 24) (n := n) (zc := zc23) (k := .i64) (k' := .i64) (A := C) (by omega) (by omega)
      have mk3 := fun C => mkW_rows (e := 3) (z := 1) (y := 8) (n := n) (zc := zc3) (k := .i64) (k' := .i64) (A := C) (by omega) (by omega)
      have hs7 := s7.s
      have hn8 : ¬ A2.next + 1 = A7.next := by omega
      have hn9 : ¬ A2.next + 1 = A7.next + 1 := by omega
      have hn10 : ¬ A2.next = A7.next := by omega
      simp [E0, E9, E13, mk2, mk3, hs7, hn8, hn9, hn10]
      have hb7 := i7.done hg
      have x78 : Ext A7 ((A7.alloc (.row (List.map (fun _ => zc23) (List.range n)).flatten 23 false)).alloc (.row (List.map (fun _ => zc3) (List.range n)).flatten 3 false)) := (Ext.alloc A7 _).app (by simp) _
      have hwlen : ∀ u : Nat, u < n → (w u).l.length ≤ 16 := fun u hu => by
        by_cases hc : 0 ≤ (w u).c
        · have h1 := hb7.path u (by omega) (by omega) hc
          have := nodup_len n _ h1.2 (fun y hy => h1.1.rng hg hs y hy)
          omega
        · rw [(hb7.none u (by omega) (by omega) (by omega)).2]; simp
      refine LN.use (fun m E A' => ∃ (k : Nat) (S : Nat → Value), m + k = n ∧ Ext A7 A' ∧ A7.next + 2 ≤ A'.next ∧ A'.get A7.next = some (.row ((List.range n).map fun u => [S u]).flatten 23 false) ∧ A'.get (A7.next + 1) = some (.row ((List.range n).map fun u : Nat => [Value.int .i64 (if u < k then (w u).c else 0)]).flatten 3 false) ∧ (∀ u : Nat, u < k → ∃ a c, S u = .slice a (w u).l.length c ∧ Sl A' 3 1 a (ints (w u).l) ∧ (∀ b o, a = some ⟨b, o, none⟩ → A7.next + 2 ≤ b) ∧ CapOk A' 3 a (w u).l.length c) ∧ E.get 14 = .slice (some ⟨A7.next, 0, none⟩) n n ∧ E.get 15 = .slice (some ⟨A7.next + 1, 0, none⟩) n n ∧ E.get 86 = .slice (some ⟨A2.next, 0, none⟩) n n ∧ E.get 87 = .int .i64 n ∧ E.get 88 = .int .i64 k) n
        ⟨0, fun _ => .slice none 0 0, by omega, x78, by simp, by simp [AH.get_alloc]; rfl, by simp [AH.get_alloc]; rfl, fun u hu => by omega, by simp, by simp, by simp, by simp, by simp⟩ ?_
      clear E0 E9 E11 E12 E13 x78 mk2 mk3 hs7 hn8 hn9 hn10
      rintro m E A8 hw8 hn8 ⟨k, S, hk, x8, n8, r8, c8, S8, E14, E15, E86, E87, E88⟩
      by_cases hlt : (k : Int) < n
      · have hlt' : k < n := by omega
        have s8 := s7.ext hw7 x8
        have hobt := s8.at hlt'
        obtain ⟨cs, a', c', u1, u2, u3, u4, u5, u6, u7, u8, u9⟩ := hobt
        have hA2 := hw8 _ _ u1
        have hA7 := hw7 _ _ s7.ws
        have hro : (cs.drop (k * 3)).take 3 = [.slice a' (w k).l.length c', .int .i64 (w k).c, .bool (w k).d] := by
          rw [u2, flat_at s8.rw.len (by simpa using hlt'), List.getElem_map, List.getElem_range, u3]
        have hne1 : ¬ A2.next = A8.next := by omega
        have x9 := Ext.alloc A8 (.row [.slice a' (w k).l.length c', .int .i64 (w k).c, .bool (w k).d] 63 false)
        have hw9 := AH.wf_alloc hw8 (.row [.slice a' (w k).l.length c', .int .i64 (w k).c, .bool (w k).d] 63 false)
        simp [E14, E15, E86, E87, E88, hlt, hlt', u1, u6, hro]
        refine CN.use (clone_ok (c := c') (u4.ext hw8 x9) (by omega)) ?_
        rintro _ A9 hw9' hn9 ⟨x10, a9, c9, rfl, v1, v2, v3, v4, v5⟩
        simp only [AH.next_alloc] at hn9 v2
        have g9 := x10 A8.next (by simp)
        rw [AH.get_new] at g9
        have r9 := (x10 A7.next (by simp; omega)).trans ((x9 A7.next (by omega)).trans r8)
        have c9' := (x10 (A7.next + 1) (by simp; omega)).trans ((x9 (A7.next + 1) (by omega)).trans c8)
        have hi : IntKind.i64.wrap ((k : Int) + 1) = ((k + 1 : Nat) : Int) := by rw [i64_in (by omega) (by omega)]; simp
        have e1 : ¬ A8.next = A7.next := by omega
        have e2 : ¬ A8.next = A7.next + 1 := by omega
        have fl1 := flat_one_len (n := n) (S := S)
        have fl2 := flat_one_len (n := n) (S := fun u : Nat => Value.int .i64 (if u < k then (w u).c else 0))
        have fit1 : k + 1 ≤ n := hlt'
        have sp1 := flat_one (S := S) (x := .slice a9 (w k).l.length c9) hlt'
        have sp2 := flat_one (S := fun u : Nat => Value.int .i64 (if u < k then (w u).c else 0)) (x := .int .i64 (w k).c) hlt'
        generalize hR1 : ((List.range n).map fun u => [S u]).flatten = cs1 at r9 fl1 sp1
        generalize hR2 : ((List.range n).map fun u : Nat => [Value.int .i64 (if u < k then (w u).c else 0)]).flatten = cs2 at c9' fl2 sp2
        simp [E14, E15, E86, E87, E88, hlt, hlt', g9, r9, c9', hi, e1, e2, fl1, fl2, fit1]
        refine NX.of ⟨m - 1, by omega, k + 1, fun u => if u = k then .slice a9 (w k).l.length c9 else S u, by omega, fun b hb => ?_, by simp; omega, ?_, ?_, fun u hu => ?_, by simp [E14], by simp [E15], by simp [E86], by simp [E87], by simp⟩
        · rw [AH.get_set, if_neg (by omega), AH.get_set, if_neg (by omega), x10 b (by simp; omega), x9 b (by omega), x8 b hb]
        · rw [AH.get_set, if_neg (by omega), AH.get_set, if_pos rfl, sp1]
        · rw [AH.get_set, if_pos rfl, sp2]
          congr 3
          apply List.map_congr_left
          intro u _
          by_cases e : u = k
          · subst e; simp
          · by_cases e2 : u < k
            · have e3 : u < k + 1 := by omega
              simp [e, e2, e3]
            · have e3 : ¬ u < k + 1 := by omega
              simp [e, e2, e3]
        · by_cases e : u = k
          · subst e
            refine ⟨a9, c9, if_pos rfl, v1.kept fun b o y hb hy => ?_, fun b o hb => by have := v2 b o hb; omega, v4.kept fun b o y hb hy => ?_⟩
            · have := v2 b o hb
              rw [AH.get_set, if_neg (by omega), AH.get_set, if_neg (by omega)]
            · have := v2 b o hb
              rw [AH.get_set, if_neg (by omega), AH.get_set, if_neg (by omega)]
          · obtain ⟨a, c, h1, h2, h3, h4⟩ := S8 u (by omega)
            have hk : ∀ b o y, a = some ⟨b, o, none⟩ → A8.get b = some y → ((A9.set A7.next (.row (spl cs1 k [.slice a9 (w k).l.length c9]) 23 false)).set (A7.next + 1) (.row (spl cs2 k [.int .i64 (w k).c]) 3 false)).get b = A8.get b := fun b o y hb hy => by
              have := h3 b o hb
              have := hw8 _ _ hy
              rw [AH.get_set, if_neg (by omega), AH.get_set, if_neg (by omega), x10 b (by simp; omega), x9 b (by omega)]
            exact ⟨a, c, (if_neg e).trans h1, h2.kept hk, h3, h4.kept hk⟩
      · obtain rfl : n = k := by omega
        simp [E14, E15, E86, E87, E88]
        have x9 : Ext A A8 := x7.trans (by omega) x8
        refine DN.of ⟨x9, w, hb7, _, _, rfl, A7.next, A7.next + 1, S, rfl, rfl, by omega, by omega, r8, ?_, fun u hu => ?_⟩
        · rw [c8]; congr 3; apply List.map_congr_left; intro u hu; simp [List.mem_range.1 hu]
        · obtain ⟨a, c, h1, h2, h3, h4⟩ := S8 u hu
          have := hwlen u hu
          exact ⟨a, c, h1, h2, fun b o e => by have := h3 b o e; omega, h4, by omega⟩
end Go.Proofs.Ytolifpkbkjofaaa.AC
/- The best route. -/
namespace Go.Proofs.Ytolifpkbkjofaaa.AC
open Go Go.AI Go.Proofs Go.Proofs.Ytolifpkbkjofaaa.AQ
set_option linter.unusedVariables false
def goodS (n : Int) (ks : List Lk) (s : Int) : Prop := goodN n ks ∧ 0 ≤ s ∧ s < n
theorem all_bad {A : AH} {a : Option Addr} {c : Nat} {ks : List Lk} (h : Sl A 53 5 a (ks.map Lk.enc)) {n s : Int} (hg : ¬ goodS n ks s) :
    ACall Try.prog 13 [.int .i64 n, .slice a ks.length c, .int .i64 s] A fun v A' => Ext A A' ∧ v = .tuple #[.slice none 0 0, .slice none 0 0, .int .i64 2] := by
  refine code13.call (by simp) fun hwf => ?_
  unfold c13
  simp
  refine CN.use (check_ok (c := c) h n) ?_
  rintro _ A1 hw1 hn1 ⟨x1, r, rfl, hr⟩
  by_cases h0 : r = 0
  · have hgn := hr.zero.1 h0
    by_cases hs : s < 0
    · simp [h0, hs]
      exact DN.of ⟨x1, rfl⟩
    · have hs2 : n ≤ s := by
        by_cases hh : n ≤ s
        · exact hh
        · exact absurd ⟨hgn, by omega, by omega⟩ hg
      simp [h0, hs, hs2]
      exact DN.of ⟨x1, rfl⟩
  · simp [h0]
    exact DN.of ⟨x1, rfl⟩
/-- What is told of the best route to a node. -/
def BstP (n : Int) (ks : List Lk) (s t e : Int) (l : List Int) (c : Int) : Prop :=
  (e = 2 ∧ ¬ (goodS n ks s ∧ 0 ≤ t ∧ t < n ∧ t ≠ s) ∧ l = [] ∧ c = 0) ∨ (goodS n ks s ∧ (0 ≤ t ∧ t < n ∧ t ≠ s) ∧ ∃ w, Best n ks s w ∧ ((e = 8 ∧ (w t).c < 0 ∧ l = [] ∧ c = 0) ∨ (e = 0 ∧ 0 ≤ (w t).c ∧ l = (w t).l ∧ c = (w t).c)))
theorem BstP.same {n : Int} {ks : List Lk} {s t e e' : Int} {l l' : List Int} {c c' : Int} (h : BstP n ks s t e l c) (h' : BstP n ks s t e' l' c') : e = e' ∧ l = l' ∧ c = c' := by
  rcases h with ⟨h1, h2, h3, h4⟩ | ⟨h1, h2, w, h3, h4⟩
  · rcases h' with ⟨g1, g2, g3, g4⟩ | ⟨g1, g2, w', g3, g4⟩
    · exact ⟨by omega, by rw [h3, g3], by omega⟩
    · exact absurd ⟨g1, g2⟩ h2
  · rcases h' with ⟨g1, g2, g3, g4⟩ | ⟨g1, g2, w', g3, g4⟩
    · exact absurd ⟨h1, h2⟩ g2
    · obtain ⟨k1, k2⟩ := h3.same g3 h2.1 h2.2.1
      rcases h4 with ⟨a1, a2, a3, a4⟩ | ⟨a1, a2, a3, a4⟩
      · rcases g4 with ⟨b1, b2, b3, b4⟩ | ⟨b1, b2, b3, b4⟩
        · exact ⟨by omega, by rw [a3, b3], by omega⟩
        · omega
      · rcases g4 with ⟨b1, b2, b3, b4⟩ | ⟨b1, b2, b3, b4⟩
        · omega
        · exact ⟨by omega, by rw [a3, b3, k2], by omega⟩
theorem best_ok {A : AH} {a : Option Addr} {c : Nat} {ks : List Lk} (h : Sl A 53 5 a (ks.map Lk.enc)) (n s t : Int) :
    ACall Try.prog 15 [.int .i64 n, .slice a ks.length c, .int .i64 s, .int .i64 t] A fun v A' => Ext A A' ∧ ∃ a' c' l x e, v = .tuple #[.slice a' l.length c', .int .i64 x, .int .i64 e] ∧ BstP n ks s t e l x ∧ Sl A' 3 1 a' (ints l) ∧ (∀ b o, a' = some ⟨b, o, none⟩ → A.next ≤ b) ∧ CapOk A' 3 a' l.length c' ∧ l.length ≤ 1000 := by
  have hnil : ∀ A' : AH, Sl A' 3 1 none (ints []) ∧ (∀ b o, (none : Option Addr) = some ⟨b, o, none⟩ → A.next ≤ b) ∧ CapOk A' 3 none ([] : List Int).length 0 ∧ ([] : List Int).length ≤ 1000 := fun A' => ⟨Sl.nil Pla.no _ _ _, by simp, Or.inl ⟨by simp, by unfold UNK; omega⟩, by simp⟩
  have goal : ∀ A' : AH, Ext A A' → BstP n ks s t 2 [] 0 → Ext A A' ∧ ∃ a' c' l x e, Value.tuple #[.slice none 0 0, .int .i64 0, .int .i64 2] = .tuple #[.slice a' l.length c', .int .i64 x, .int .i64 e] ∧ BstP n ks s t e l x ∧ Sl A' 3 1 a' (ints l) ∧ (∀ b o, a' = some ⟨b, o, none⟩ → A.next ≤ b) ∧ CapOk A' 3 a' l.length c' ∧ l.length ≤ 1000 := fun A' hx hb => by
    have hobt := hnil A'
    obtain ⟨g1, g2, g3, g4⟩ := hobt
    exact ⟨hx, none, 0, [], 0, 2, rfl, hb, g1, g2, g3, g4⟩
  by_cases hg : goodS n ks s
  · obtain ⟨m, rfl⟩ : ∃ m : Nat, n = m := ⟨n.toNat, by have := hg.1.1; omega⟩
    refine code15.call (by simp) fun hwf => ?_
    unfold c15
    simp
    refine CN.use (all_good (c := c) h hg.1 hg.2) ?_
    rintro _ A1 hw1 hn1 ⟨x1, w, hb, vr, vc, rfl, rb, cb, S, rfl, rfl, hrb, hcb, g1, g2, g3⟩
    by_cases b1 : t < 0
    · simp [b1]
      exact DN.of (goal A1 x1 (Or.inl ⟨rfl, by omega, rfl, rfl⟩))
    by_cases b2 : (m : Int) ≤ t
    · simp [b1, b2]
      exact DN.of (goal A1 x1 (Or.inl ⟨rfl, by omega, rfl, rfl⟩))
    by_cases b3 : t = s
    · subst b3
      simp [b1, b2]
      exact DN.of (goal A1 x1 (Or.inl ⟨rfl, by omega, rfl, rfl⟩))
    obtain ⟨u, rfl⟩ : ∃ u : Nat, t = u := ⟨t.toNat, by omega⟩
    have hu : u < m := by omega
    have at1 := flat_one_at (S := S) hu
    have at2 := flat_one_at (S := fun u : Nat => Value.int .i64 (w u).c) hu
    have hobt := g3 u hu
    obtain ⟨a', c', k1, k2, k3, k4, k5⟩ := hobt
    by_cases hc : (w u).c < 0
    · simp [b1, b2, b3, g2, hu, at2, hc]
      have hobt := hnil A1
      obtain ⟨f1, f2, f3, f4⟩ := hobt
      exact DN.of ⟨x1, none, 0, [], 0, 8, rfl, Or.inr ⟨hg, ⟨by omega, by omega, b3⟩, w, hb, Or.inl ⟨rfl, hc, rfl, rfl⟩⟩, f1, f2, f3, f4⟩
    · simp [b1, b2, b3, g1, g2, hu, at1, at2, hc, k1]
      exact DN.of ⟨x1, a', c', (w u).l, (w u).c, 0, rfl, Or.inr ⟨hg, ⟨by omega, by omega, b3⟩, w, hb, Or.inr ⟨rfl, by omega, rfl, rfl⟩⟩, k2, k3, k4, k5⟩
  · refine code15.call (by simp) fun hwf => ?_
    unfold c15
    simp
    refine CN.use (all_bad (c := c) h hg) ?_
    rintro _ A1 hw1 hn1 ⟨x1, rfl⟩
    simp
    exact DN.of (goal A1 x1 (Or.inl ⟨rfl, fun hh => hg hh.1, rfl, rfl⟩))
end Go.Proofs.Ytolifpkbkjofaaa.AC
/- The reference's routes, and what can be come to. -/
namespace Go.Proofs.Ytolifpkbkjofaaa.AC
open Go Go.AI Go.Proofs Go.Proofs.Ytolifpkbkjofaaa.AQ
set_option linter.unusedVariables false
theorem slW_pre {z h n c : Nat} {b o : Nat} {k : IntKind} {A : AH} {cs : List Value} {E : TypeId} {ro : Bool} (hb : A.get b = some (.row cs E ro)) (hh : h ≤ n) (hc : (n ≤ c ∧ c < UNK) ∨ c = UNK ∧ szOf Try.prog E = some z) : slW Try.prog z (some ⟨b, o, none⟩) n c none (some (.int k h)) none A = some (.slice (some ⟨b, o, none⟩) h c) := by
  rcases hc with hc | ⟨rfl, hz⟩
  · rw [slW_hi (by omega) hc.1 hc.2, cutA_zero]
  · exact slU_hi hb hz hh
theorem CapOk.pre {A : AH} {b o n c : Nat} {cs : List Value} {E : TypeId} {ro : Bool} (hc : CapOk A 3 (some ⟨b, o, none⟩) n c) (h1 : A.get b = some (.row cs E ro)) : (n ≤ c ∧ c < UNK) ∨ c = UNK ∧ szOf Try.prog E = some 1 := by
  rcases hc with hc | ⟨q1, q2⟩
  · exact Or.inl hc
  · obtain ⟨cs', ro', q3⟩ := q2 b o rfl
    rw [h1] at q3
    injection q3 with q3
    injection q3 with _ q3 _
    exact Or.inr ⟨q1, by rw [q3]; exact sz3⟩
theorem Wk.step {ks : List Lk} {s v c : Int} {l : List Int} (h : Wk ks s v l c) : ∀ k, 1 ≤ k → ∀ (hk : k < l.length), ∃ i, i < ks.length ∧ same ks i (l[k - 1]'(by omega)) l[k] := by
  induction h with
  | one => intro k h1 hk; simp at hk; omega
  | snoc u l c i h hi hf ih =>
    intro k h1 hk
    simp only [List.length_append, List.length_singleton] at hk
    by_cases e : k < l.length
    · obtain ⟨j, hj, hs⟩ := ih k h1 e
      refine ⟨j, hj, ?_⟩
      rw [List.getElem_append_left (by omega), List.getElem_append_left e]
      exact hs
    · obtain rfl : k = l.length := by omega
      refine ⟨i, hi, ?_, ?_⟩
      · rw [List.getElem_append_left (by omega), hf]
        have := h.last
        rw [List.getLast?_eq_getElem?, List.getElem?_eq_getElem (by omega)] at this
        injection this with this
        exact this.symm
      · simp
theorem Wk.ends {ks : List Lk} {s v c : Int} {l : List Int} (h : Wk ks s v l c) (h0 : 0 < l.length) : l[0] = s ∧ l[l.length - 1] = v := by
  constructor
  · have := h.head
    rw [List.head?_eq_getElem?, List.getElem?_eq_getElem h0] at this
    injection this
  · have := h.last
    rw [List.getLast?_eq_getElem?, List.getElem?_eq_getElem (by omega)] at this
    injection this
theorem Wk.same_cost {n : Int} {ks : List Lk} (hg : goodN n ks) {s v c : Int} {l : List Int} (h : Wk ks s v l c) : ∀ {s' v' c' : Int}, Wk ks s' v' l c' → c = c' := by
  induction h with
  | one =>
    intro s' v' c' h'
    generalize hl : [s] = l at h'
    cases h' with
    | one => rfl
    | snoc u l c i h hi hf =>
      have := congrArg List.length hl
      simp at this
      exact absurd this h.ne
  | snoc u l c i h hi hf ih =>
    intro s' v' c' h'
    generalize hl : l ++ [(lk ks i).t] = l2 at h'
    cases h' with
    | one =>
      have := congrArg List.length hl
      simp at this
      exact absurd this h.ne
    | snoc u' l' c'' i' h' hi' hf' =>
      have h1 := List.append_inj_left' hl rfl
      have h2 := List.append_inj_right' hl rfl
      subst h1
      simp only [List.cons.injEq, and_true] at h2
      have hc := ih h'
      have hu : u = u' := by
        have a := h.last
        have b := h'.last
        rw [a] at b; injection b
      have hii : i = i' := by
        rcases Nat.lt_trichotomy i i' with hlt | heq | hgt
        · exact absurd (Or.inl ⟨i, hlt, by rw [hf, hf', hu], h2⟩) (hg.2.2.2 i' hi')
        · exact heq
        · exact absurd (Or.inl ⟨i', hgt, by rw [hf, hf', hu], h2.symm⟩) (hg.2.2.2 i hi)
      rw [hc, hii]
/-- What is told of a route. -/
def RteP (ks : List Lk) (l : List Int) (m e : Int) : Prop := (e = 0 ∧ 2 ≤ l.length ∧ l.length ≤ 16 ∧ l.Nodup ∧ ∃ s v, Wk ks s v l m) ∨ (e = 12 ∧ m = 0 ∧ ¬ (2 ≤ l.length ∧ l.length ≤ 16 ∧ l.Nodup ∧ ∃ s v c, Wk ks s v l c))
theorem route_ok {A : AH} {a a' : Option Addr} {c c' : Nat} {ks : List Lk} {l : List Int} {n : Int} (h : Sl A 53 5 a (ks.map Lk.enc)) (hg : goodN n ks) (h' : Sl A 3 1 a' (ints l)) (hc : CapOk A 3 a' l.length c') (hl : l.length ≤ 1000000) :
    ACall Try.prog 17 [.slice a ks.length c, .slice a' l.length c'] A fun v A' => A' = A ∧ ∃ m e, v = .tuple #[.int .i64 m, .int .i64 e] ∧ RteP ks l m e := by
  have hk64 := hg.2.2.1
  refine code17.call (by simp) fun hwf => ?_
  unfold c17
  simp
  by_cases b1 : (l.length : Int) < 2
  · simp [b1]
    exact DN.of ⟨rfl, _, _, rfl, Or.inr ⟨rfl, rfl, by omega⟩⟩
  by_cases b2 : (16 : Int) < l.length
  · simp [b1, b2]
    exact DN.of ⟨rfl, _, _, rfl, Or.inr ⟨rfl, rfl, by omega⟩⟩
  simp [b1, b2]
  refine LN.use (fun m E A' => ∃ (k : Nat) (x : Int), m + k = l.length ∧ A' = A ∧ E.get 0 = .slice a ks.length c ∧ E.get 1 = .slice a' l.length c' ∧ E.get 6 = .int .i64 x ∧ E.get 7 = .int .i64 k ∧ (l.take k).Nodup ∧ ((k = 0 ∧ x = 0) ∨ (0 < k ∧ ∃ s v, Wk ks s v (l.take k) x))) l.length
    ⟨0, 0, by simp, rfl, by simp, by simp, by simp, by simp, by simp, Or.inl ⟨rfl, rfl⟩⟩ ?_
  rintro m E _ - - ⟨k, x, hk, rfl, E0, E1, E6, E7, hN, hW⟩
  by_cases hlt : k < l.length
  · obtain ⟨b, o, cs, ro, rfl, h1, h2⟩ := h'.one (Go.AI.ints_at (l := l) (i := k) hlt)
    have hs := slW_pre (o := o) (h := k) (n := l.length) (c := c') (k := .i64) (z := 1) h1 (by omega) (CapOk.pre hc h1)
    have hpre : Sl _ 3 1 (some ⟨b, o, none⟩) (ints (l.take k)) := h'.pre (k := k) (by simp [ints])
    have hlk : (l.take k).length = k := by simp <;> omega
    have hco := has_ok (c := c') hpre (by omega) l[k]
    rw [hlk] at hco
    have htk := List.take_succ_eq_append_getElem hlt
    have hi : IntKind.i64.wrap ((k : Int) + 1) = ((k + 1 : Nat) : Int) := by rw [i64_in (by omega) (by omega)]; simp
    simp [E0, E1, E6, E7, hlt, h1, h2, hs]
    refine CN.use hco ?_
    rintro _ _ - - ⟨rfl, rfl⟩
    cases hb : hasL (l.take k) l[k] with
    | true =>
      simp
      refine DN.of ⟨rfl, _, _, rfl, Or.inr ⟨rfl, rfl, fun hh => ?_⟩⟩
      have hn := hh.2.2.1.sublist (List.take_sublist (k + 1) l)
      rw [htk, List.nodup_append] at hn
      exact hn.2.2 _ (of_decide_eq_true hb) _ (List.mem_singleton.2 rfl) rfl
    | false =>
      have hnin := of_decide_eq_false hb
      have hN' : (l.take (k + 1)).Nodup := by
        rw [htk, List.nodup_append]
        exact ⟨hN, by simp, fun a ha b hb => by simp at hb; rw [hb]; intro e; rw [e] at ha; exact hnin ha⟩
      by_cases hk0 : k = 0
      · subst hk0
        obtain rfl : x = 0 := by rcases hW with ⟨_, h⟩ | ⟨h, _⟩; exact h; omega
        have hi1 : IntKind.i64.wrap 1 = 1 := by decide
        simp [E7, hi1]
        refine NX.of ⟨m - 1, by omega, 1, 0, by omega, rfl, by simp [E0], by simp [E1], by simp [E6], by simp, hN', Or.inr ⟨by omega, l[0], l[0], ?_⟩⟩
        rw [htk]; exact Wk.one
      · obtain ⟨s, v, hwk⟩ : ∃ s v, Wk ks s v (l.take k) x := by rcases hW with ⟨h, _⟩ | ⟨_, h⟩; omega; exact h
        have hk1 : IntKind.i64.wrap ((k : Int) - 1) = ((k - 1 : Nat) : Int) := by rw [i64_in (by omega) (by omega)]; omega
        have hkl : k - 1 < l.length := by omega
        have hobt := h'.one (Go.AI.ints_at (l := l) (i := k - 1) hkl)
        obtain ⟨b', o', cs', ro', hb', g1, g2⟩ := hobt
        injection hb' with hb'
        injection hb' with hb1 hb2 _
        subst hb1 hb2
        rw [h1] at g1
        injection g1 with g1
        injection g1 with g1 _ _
        subst g1
        simp [E0, E1, E7, hk0, hk1, h1, h2, g2, hkl, hlt]
        refine CN.use (find_ok (c := c) h (by omega) _ _) ?_
        rintro _ _ - - ⟨rfl, r, rfl, ⟨rfl, hno⟩ | ⟨j, rfl, hj, hs, -⟩⟩
        · simp
          refine DN.of ⟨rfl, _, _, rfl, Or.inr ⟨rfl, rfl, fun hh => ?_⟩⟩
          obtain ⟨_, _, _, s', v', c', hw'⟩ := hh
          have hobt := hw'.step k (by omega) hlt
          obtain ⟨i, hi, his⟩ := hobt
          exact hno i hi his
        · obtain ⟨bk, ok, csk, qk, rfl, z1, z2, z3, z4, z5, z6⟩ := lks_at h hj
          have hjn : ¬ (j : Int) < 0 := by omega
          have hlast : v = l[k - 1] := by
            have := hwk.last
            rw [List.getLast?_eq_getElem?, hlk, List.getElem?_take, if_pos (by omega), List.getElem?_eq_getElem hkl] at this
            injection this with this
            exact this.symm
          have hw2 := Wk.snoc _ _ _ j hwk hj (by rw [hs.1, hlast])
          rw [hs.2, ← htk] at hw2
          have hup := hw2.up hg
          have hcs := hwk.cost hg
          have hgl := hg.link hj
          rw [List.length_take] at hup
          have hmin := Nat.min_le_left (k + 1) l.length
          have hwr : IntKind.i64.wrap (x + (lk ks j).m) = x + (lk ks j).m := i64_in (by omega) (by omega)
          simp [E0, E6, E7, hjn, hj, z1, z6, hwr, hi]
          exact NX.of ⟨m - 1, by omega, k + 1, x + (lk ks j).m, by omega, rfl, by simp [E0], by simp [E1], by simp, by simp [hi], hN', Or.inr ⟨by omega, _, _, hw2⟩⟩
  · obtain rfl : k = l.length := by omega
    rw [List.take_length] at hN hW
    simp [E1, E6, E7]
    refine DN.of ⟨rfl, x, 0, rfl, Or.inl ⟨rfl, by omega, by omega, hN, ?_⟩⟩
    rcases hW with ⟨h, _⟩ | ⟨_, h⟩
    · omega
    · exact h
end Go.Proofs.Ytolifpkbkjofaaa.AC
/- The reference's answer to what can be come to. -/
namespace Go.Proofs.Ytolifpkbkjofaaa.AC
open Go Go.AI Go.Proofs Go.Proofs.Ytolifpkbkjofaaa.AQ
set_option linter.unusedVariables false
structure RI2 (n : Nat) (s : Int) (ks : List Lk) (r : Nat → Bool) (k i : Nat) : Prop where
  a : ∀ u, u < n → r u = true → ∃ l c, Wk ks s u l c
  b : ∀ u l c, Wk ks s u l c → l.length ≤ k + 1 → r u.toNat = true
  c : ∀ j, j < i → ∀ l c, Wk ks s (lk ks j).f l c → l.length ≤ k + 1 → r (lk ks j).t.toNat = true
theorem RI2.start {n : Nat} {s : Int} {ks : List Lk} (hg : goodN n ks) (hs : 0 ≤ s ∧ s < n) : RI2 n s ks (fun u => decide (u = s.toNat)) 0 0 := by
  refine ⟨fun u hu h => ?_, fun u l c hw hl => ?_, fun j hj => by omega⟩
  · obtain rfl := of_decide_eq_true h
    exact ⟨[s], 0, by rw [show ((s.toNat : Nat) : Int) = s from by omega]; exact .one⟩
  · cases hw with
    | one => simp
    | snoc u l c i h hi hf =>
      have := h.ne
      simp at hl
      exact absurd hl this
theorem RI2.round {n : Nat} {s : Int} {ks : List Lk} {r : Nat → Bool} {k : Nat} (h : RI2 n s ks r k ks.length) : RI2 n s ks r (k + 1) 0 := by
  refine ⟨h.a, fun u l c hw hl => ?_, fun j hj => by omega⟩
  cases hw with
  | one => exact h.b _ _ _ .one (by simp)
  | snoc u l c i hw hi hf =>
    subst hf
    simp at hl
    exact h.c i hi l c hw hl
theorem RI2.link {n : Nat} {s : Int} {ks : List Lk} {r r' : Nat → Bool} {k i : Nat} (hg : goodN n ks) (h : RI2 n s ks r k i) (hi : i < ks.length) (hr : (r (lk ks i).f.toNat = true ∧ r' = fun u => if u = (lk ks i).t.toNat then true else r u) ∨ (r (lk ks i).f.toNat = false ∧ r' = r)) : RI2 n s ks r' k (i + 1) := by
  have hl := hg.link hi
  have hmono : ∀ u, r u = true → r' u = true := fun u hu => by
    rcases hr with ⟨-, rfl⟩ | ⟨-, rfl⟩
    · simp [hu]
    · exact hu
  refine ⟨fun u hu h' => ?_, fun u l c hw hlen => hmono _ (h.b u l c hw hlen), fun j hj l c hw hlen => ?_⟩
  · rcases hr with ⟨hf, rfl⟩ | ⟨-, rfl⟩
    · by_cases e : u = (lk ks i).t.toNat
      · obtain ⟨l, c, hw⟩ := h.a _ (by omega) hf
        rw [show (((lk ks i).f.toNat : Nat) : Int) = (lk ks i).f from by omega] at hw
        exact ⟨_, _, by rw [e, show (((lk ks i).t.toNat : Nat) : Int) = (lk ks i).t from by omega]; exact .snoc _ _ _ i hw hi rfl⟩
      · simp [e] at h'; exact h.a u hu h'
    · exact h.a u hu h'
  · by_cases e : j = i
    · subst e
      have hf := h.b _ l c hw hlen
      rcases hr with ⟨-, rfl⟩ | ⟨hf', -⟩
      · simp
      · rw [hf] at hf'; cases hf'
    · exact hmono _ (h.c j (by omega) l c hw hlen)
theorem reach_ok {A : AH} {a : Option Addr} {c : Nat} {ks : List Lk} (h : Sl A 53 5 a (ks.map Lk.enc)) {n : Nat} {s : Int} (hg : goodN n ks) (hs : 0 ≤ s ∧ s < n) :
    ACall Try.prog 19 [.int .i64 n, .slice a ks.length c, .int .i64 s] A fun v A' => Ext A A' ∧ ∃ b, ∃ r : Nat → Bool, v = .slice (some ⟨b, 0, none⟩) n n ∧ A'.get b = some (.row ((List.range n).map fun u => [Value.bool (r u)]).flatten 4 false) ∧ (∀ u, u < n → r u = true → ∃ l c, Wk ks s u l c) ∧ (∀ u l c, Wk ks s u l c → l.length ≤ n + 1 → r u.toNat = true) := by
  have hk64 := hg.2.2.1
  have hn16 := hg.2.1
  refine code19.call (by simp) fun hwf => ?_
  unfold c19
  simp
  refine CN.use (rcheck_ok (c := c) h n) ?_
  rintro _ A1 hw1 hn1 ⟨x1, r, rfl, hr⟩
  obtain rfl := hr.zero.2 hg
  have hs1 : ¬ s < 0 := by omega
  have hs2 : ¬ (n : Int) ≤ s := by omega
  have mk := fun C => mkW_rows (e := 4) (z := 1) (y := 1) (n := n) (zc := zc4) (k := .i64) (k' := .i64) (A := C) (by omega) (by omega)
  obtain ⟨t, rfl⟩ : ∃ t : Nat, s = t := ⟨s.toNat, by omega⟩
  have ht : t < n := by omega
  have fl0 := flat_one_len (n := n) (S := fun _ => Value.bool false)
  have sp0 := flat_one (S := fun _ => Value.bool false) (x := .bool true) ht
  have hzc : (List.map (fun _ => zc4) (List.range n)).flatten = (List.map (fun _ => [Value.bool false]) (List.range n)).flatten := rfl
  have fit0 : t + 1 ≤ n := ht
  generalize hcs0 : (List.map (fun _ => [Value.bool false]) (List.range n)).flatten = cs0 at fl0 sp0 hzc
  simp only [hzc] at mk
  simp [hs1, hs2, mk, ht, fl0, fit0]
  have xa := Ext.alloc A1 (.row (spl cs0 t [.bool true]) 4 false)
  have i0 := RI2.start hg (s := (t : Int)) (by omega)
  simp only [Int.toNat_natCast] at i0
  refine LN.use (fun m E A' => ∃ (k : Nat) (r : Nat → Bool), m + k = n ∧ Ext A1 A' ∧ A1.next + 1 ≤ A'.next ∧ A'.get A1.next = some (.row ((List.range n).map fun u => [Value.bool (r u)]).flatten 4 false) ∧ RI2 n t ks r k 0 ∧ E.get 0 = .int .i64 n ∧ E.get 1 = .slice a ks.length c ∧ E.get 7 = .slice (some ⟨A1.next, 0, none⟩) n n ∧ E.get 8 = .int .i64 k) n
    ⟨0, _, by omega, xa, by simp, ?_, i0, by simp, by simp, by simp, by simp⟩ ?_
  · rw [AH.get_new, sp0]
    congr 3
    apply List.map_congr_left
    intro u _
    by_cases e : u = t <;> simp [e]
  rintro m E A2 hw2 hn2 ⟨k, r, hk, x2, n2, g2, i2, E0, E1, E7, E8⟩
  by_cases hlt : (k : Int) < n
  · simp [E0, E8, hlt]
    refine LN.use (fun m2 E A' => ∃ (i : Nat) (r : Nat → Bool), m2 + i = ks.length ∧ Ext A1 A' ∧ A1.next + 1 ≤ A'.next ∧ A'.get A1.next = some (.row ((List.range n).map fun u => [Value.bool (r u)]).flatten 4 false) ∧ RI2 n t ks r k i ∧ E.get 0 = .int .i64 n ∧ E.get 1 = .slice a ks.length c ∧ E.get 7 = .slice (some ⟨A1.next, 0, none⟩) n n ∧ E.get 8 = .int .i64 k ∧ E.get 9 = .int .i64 i) ks.length
      ⟨0, r, by omega, x2, n2, g2, i2, by simp [E0], by simp [E1], by simp [E7], by simp [E8], by simp⟩ ?_
    clear E0 E1 E7 E8
    rintro m2 E A3 hw3 hn3 ⟨i, r3, hi, x3, n3, g3, i3, E0, E1, E7, E8, E9⟩
    by_cases hlt2 : (i : Int) < ks.length
    · have hil : i < ks.length := by omega
      have hlk3 := h.ext hwf (x1.trans hn1 x3)
      have hobt := lks_at hlk3 hil
      obtain ⟨bk, ok, csk, qk, rfl, z1, z2, z3, z4, z5, z6⟩ := hobt
      have hgl := hg.link hil
      obtain ⟨fu, hf⟩ : ∃ fu : Nat, (lk ks i).f = fu := ⟨(lk ks i).f.toNat, by omega⟩
      obtain ⟨tu, ht'⟩ : ∃ tu : Nat, (lk ks i).t = tu := ⟨(lk ks i).t.toNat, by omega⟩
      have hfn : fu < n := by omega
      have htn : tu < n := by omega
      have hfN : (lk ks i).f.toNat = fu := by omega
      have htN : (lk ks i).t.toNat = tu := by omega
      have at1 := flat_one_at (S := fun u => Value.bool (r3 u)) hfn
      have fl1 := flat_one_len (n := n) (S := fun u => Value.bool (r3 u))
      have sp1 := flat_one (S := fun u => Value.bool (r3 u)) (x := .bool true) htn
      have fit1 : tu + 1 ≤ n := htn
      have hgi : IntKind.i64.wrap ((i : Int) + 1) = ((i + 1 : Nat) : Int) := by rw [i64_in (by omega) (by omega)]; simp
      generalize hcs1 : ((List.range n).map fun u => [Value.bool (r3 u)]).flatten = cs1 at g3 at1 fl1 sp1
      rw [hf] at z4
      rw [ht'] at z5
      cases hr3 : r3 fu with
      | true =>
        rw [hr3] at at1
        have at2 : ∀ hh : fu < cs1.length, cs1[fu]'hh = _ := fun hh => Option.some.inj ((List.getElem?_eq_getElem hh).symm.trans at1)
        simp [at2, E0, E1, E7, E8, E9, hlt2, hil, z1, z4, z5, hfn, htn, g3, at1, fl1, fit1, hgi]
        refine NX.of ⟨m2 - 1, by omega, i + 1, _, by omega, x3.setnew (by omega) _, by simp; omega, ?_, i3.link hg hil (Or.inl ⟨by rw [hfN]; exact hr3, rfl⟩), by simp [E0], by simp [E1], by simp [E7], by simp [E8], by simp⟩
        rw [AH.get_set, if_pos rfl, sp1]
        congr 3
        apply List.map_congr_left
        intro u _
        rw [htN]
        by_cases e : u = tu <;> simp [e]
      | false =>
        rw [hr3] at at1
        have at2 : ∀ hh : fu < cs1.length, cs1[fu]'hh = _ := fun hh => Option.some.inj ((List.getElem?_eq_getElem hh).symm.trans at1)
        simp [at2, E0, E1, E7, E8, E9, hlt2, hil, z1, z4, z5, hfn, htn, g3, at1, fl1, fit1, hgi]
        exact NX.of ⟨m2 - 1, by omega, i + 1, r3, by omega, x3, n3, by rw [g3, hcs1], i3.link hg hil (Or.inr ⟨by rw [hfN]; exact hr3, rfl⟩), by simp [E0], by simp [E1], by simp [E7], by simp [E8], by simp⟩
    · obtain rfl : i = ks.length := by omega
      have hgi : IntKind.i64.wrap ((k : Int) + 1) = ((k + 1 : Nat) : Int) := by rw [i64_in (by omega) (by omega)]; simp
      simp [E1, E8, E9, hgi]
      exact NX.of ⟨m - 1, by omega, k + 1, r3, by omega, x3, n3, g3, i3.round, by simp [E0], by simp [E1], by simp [E7], by simp⟩
  · obtain rfl : n = k := by omega
    simp [E0, E7, E8]
    exact DN.of ⟨x1.trans hn1 x2, A1.next, r, rfl, g2, i2.a, i2.b⟩
theorem reach_bad {A : AH} {a : Option Addr} {c : Nat} {ks : List Lk} (h : Sl A 53 5 a (ks.map Lk.enc)) {n s : Int} (hg : ¬ goodS n ks s) :
    ACall Try.prog 19 [.int .i64 n, .slice a ks.length c, .int .i64 s] A fun v A' => Ext A A' ∧ v = .slice none 0 0 := by
  refine code19.call (by simp) fun hwf => ?_
  unfold c19
  simp
  refine CN.use (rcheck_ok (c := c) h n) ?_
  rintro _ A1 hw1 hn1 ⟨x1, r, rfl, hr⟩
  by_cases h0 : r = 0
  · have hgn := hr.zero.1 h0
    by_cases hs : s < 0
    · simp [h0, hs]
      exact DN.of ⟨x1, rfl⟩
    · have hs2 : n ≤ s := by
        by_cases hh : n ≤ s
        · exact hh
        · exact absurd ⟨hgn, by omega, by omega⟩ hg
      simp [h0, hs, hs2]
      exact DN.of ⟨x1, rfl⟩
  · simp [h0]
    exact DN.of ⟨x1, rfl⟩
end Go.Proofs.Ytolifpkbkjofaaa.AC
/- Links gone over till nothing gets better, without the program. -/
namespace Go.Proofs.Ytolifpkbkjofaaa.AC
open Go Go.AI Go.Proofs
set_option linter.unusedVariables false
structure BI (n s : Int) (ks : List Lk) (w : Int → Wy) (k i : Nat) : Prop where
  path : ∀ v, 0 ≤ v → v < n → 0 ≤ (w v).c → Wk ks s v (w v).l (w v).c ∧ (w v).l.Nodup ∧ ∀ x ∈ (w v).l, 0 ≤ (w x).c ∧ (w x).c ≤ (w v).c
  none : ∀ v, 0 ≤ v → v < n → (w v).c < 0 → (w v).c = -1 ∧ (w v).l = []
  b : ∀ u l c, Wk ks s u l c → l.length ≤ k + 1 → 0 ≤ (w u).c ∧ leB (w u).c (w u).l c l
  c : ∀ j, j < i → ∀ l c, Wk ks s (lk ks j).f l c → l.length ≤ k + 1 → 0 ≤ (w (lk ks j).t).c ∧ leB (w (lk ks j).t).c (w (lk ks j).t).l (c + (lk ks j).m) (l ++ [(lk ks j).t])
section
variable {n s : Int} {ks : List Lk} {w : Int → Wy} {k i : Nat}
theorem BI.start (hs : 0 ≤ s ∧ s < n) : BI n s ks (upd w0 s ⟨[s], 0, false⟩) 0 0 := by
  refine ⟨fun v h0 h1 h2 => ?_, fun v h0 h1 h2 => ?_, fun u l c hw hl => ?_, fun j hj => by omega⟩
  · by_cases e : v = s
    · subst e
      rw [upd_at]
      exact ⟨.one, by simp, fun x hx => by simp at hx; rw [hx, upd_at]; simp⟩
    · rw [upd_ne e] at h2; simp [w0] at h2
  · by_cases e : v = s
    · rw [e, upd_at] at h2; simp at h2
    · rw [upd_ne e]; exact ⟨rfl, rfl⟩
  · cases hw with
    | one => rw [upd_at]; exact ⟨Int.le_refl 0, leB.refl _ _⟩
    | snoc u l c i h hi hf =>
      have := h.ne
      simp at hl
      exact absurd hl this
theorem BI.round (h : BI n s ks w k ks.length) : BI n s ks w (k + 1) 0 := by
  refine ⟨h.path, h.none, fun u l c hw hl => ?_, fun j hj => by omega⟩
  cases hw with
  | one => exact h.b _ _ _ .one (by simp)
  | snoc u l c i hw hi hf =>
    subst hf
    simp at hl
    exact h.c i hi l c hw hl
theorem BI.done (hg : goodN n ks) (hs : 0 ≤ s ∧ s < n) (h : BI n s ks w n.toNat 0) : Best n ks s w := by
  refine ⟨fun v h0 h1 h2 => ⟨(h.path v h0 h1 h2).1, (h.path v h0 h1 h2).2.1⟩, h.none, least_of (h.b s [s] 0 .one (by simp)) fun i hi hc => ?_⟩
  have hl := hg.link hi
  have hobt := h.path _ hl.1 hl.2.1 hc
  obtain ⟨p1, p2, -⟩ := hobt
  have hlen := nodup_len n.toNat _ p2 fun y hy => by have := p1.rng hg hs y hy; omega
  exact h.b _ _ _ (.snoc _ _ _ i p1 hi rfl) (by simp; omega)
/-- The link leads from nowhere. -/
theorem BI.no (h : BI n s ks w k i) (hc : (w (lk ks i).f).c < 0) : BI n s ks w k (i + 1) :=
  ⟨h.path, h.none, h.b, fun j hj l c hw hl => by
    by_cases e : j = i
    · subst e; have := (h.b _ l c hw hl).1; omega
    · exact h.c j (by omega) l c hw hl⟩
/-- It leads back. -/
theorem BI.back (hg : goodN n ks) (h : BI n s ks w k i) (hi : i < ks.length) (hc : 0 ≤ (w (lk ks i).f).c) (hm : (lk ks i).t ∈ (w (lk ks i).f).l) : BI n s ks w k (i + 1) := by
  have hl := hg.link hi
  refine ⟨h.path, h.none, h.b, fun j hj l c hw hlen => ?_⟩
  by_cases e : j = i
  · subst e
    have h1 := (h.path _ hl.1 hl.2.1 hc).2.2 _ hm
    have h2 := (h.b _ l c hw hlen).2.cost
    exact ⟨h1.1, leB.of_cost (by omega)⟩
  · exact h.c j (by omega) l c hw hlen
/-- It leads to nothing better. -/
theorem BI.stay (h : BI n s ks w k i) (hc : 0 ≤ (w (lk ks i).t).c) (hb : leB (w (lk ks i).t).c (w (lk ks i).t).l ((w (lk ks i).f).c + (lk ks i).m) ((w (lk ks i).f).l ++ [(lk ks i).t])) : BI n s ks w k (i + 1) :=
  ⟨h.path, h.none, h.b, fun j hj l c hw hlen => by
    by_cases e : j = i
    · subst e
      exact ⟨hc, hb.trans (leB.snoc.2 (h.b _ l c hw hlen).2)⟩
    · exact h.c j (by omega) l c hw hlen⟩
theorem BI.better (hg : goodN n ks) (h : BI n s ks w k i) (hi : i < ks.length) (hc : 0 ≤ (w (lk ks i).f).c) (hm : (lk ks i).t ∉ (w (lk ks i).f).l)
    (hb : (w (lk ks i).t).c < 0 ∨ betB ((w (lk ks i).f).c + (lk ks i).m) ((w (lk ks i).f).l ++ [(lk ks i).t]) (w (lk ks i).t).c (w (lk ks i).t).l = true) :
    BI n s ks (upd w (lk ks i).t ⟨(w (lk ks i).f).l ++ [(lk ks i).t], (w (lk ks i).f).c + (lk ks i).m, false⟩) k (i + 1) := by
  have hl := hg.link hi
  have hobt := h.path _ hl.1 hl.2.1 hc
  obtain ⟨p1, p2, p3⟩ := hobt
  have hle : 0 ≤ (w (lk ks i).t).c → leB ((w (lk ks i).f).c + (lk ks i).m) ((w (lk ks i).f).l ++ [(lk ks i).t]) (w (lk ks i).t).c (w (lk ks i).t).l := fun h0 => by
    rcases hb with hb | hb
    · omega
    · exact leB.of_bet hb
  have hnf : (lk ks i).f ≠ (lk ks i).t := hl.2.2.2.2.1
  refine ⟨fun v h0 h1 h2 => ?_, fun v h0 h1 h2 => ?_, fun u l c hw hlen => ?_, fun j hj l c hw hlen => ?_⟩
  · by_cases e : v = (lk ks i).t
    · subst e
      rw [upd_at]
      refine ⟨.snoc _ _ _ i p1 hi rfl, ?_, fun x hx => ?_⟩
      · simp only []
        rw [List.nodup_append]
        refine ⟨p2, by simp, fun a ha b hb => ?_⟩
        simp at hb
        rw [hb]; intro e2; rw [e2] at ha; exact hm ha
      · by_cases e : x = (lk ks i).t
        · rw [e, upd_at]; simp only []; omega
        · rw [upd_ne e]
          rcases List.mem_append.1 hx with hx | hx
          · have := p3 x hx; simp only []; omega
          · simp at hx; exact absurd hx e
    · rw [upd_ne e] at h2 ⊢
      have hobt := h.path v h0 h1 h2
      obtain ⟨g1, g2, g3⟩ := hobt
      refine ⟨g1, g2, fun x hx => ?_⟩
      have h3 := g3 x hx
      by_cases e2 : x = (lk ks i).t
      · subst e2
        rw [upd_at]
        have := (hle h3.1).cost
        simp only []; omega
      · rw [upd_ne e2]; exact h3
  · by_cases e : v = (lk ks i).t
    · rw [e, upd_at] at h2; simp only [] at h2; omega
    · rw [upd_ne e] at h2 ⊢; exact h.none v h0 h1 h2
  · have h3 := h.b u l c hw hlen
    by_cases e : u = (lk ks i).t
    · subst e
      rw [upd_at]
      exact ⟨by simp only []; omega, (hle h3.1).trans h3.2⟩
    · rw [upd_ne e]; exact h3
  · by_cases e : j = i
    · subst e
      rw [upd_at]
      exact ⟨by simp only []; omega, leB.snoc.2 (h.b _ l c hw hlen).2⟩
    · have h3 := h.c j (by omega) l c hw hlen
      by_cases e : (lk ks j).t = (lk ks i).t
      · rw [e] at h3 ⊢
        rw [upd_at]
        exact ⟨by simp only []; omega, (hle h3.1).trans h3.2⟩
      · rw [upd_ne e]; exact h3
end
end Go.Proofs.Ytolifpkbkjofaaa.AC
