/-
  What the functions of the program, and those of the law, do.
-/
import Derived.Test.YtolifpkbkjofaaaCAQ
import Derived.Test.YtolifpkbkjofaaaCAC
import Derived.Test.YtolifpkbkjofaaaP2
import Derived.Test.YtolifpkbkjofaaaCAT
/- Contracts of cmp's functions. -/
namespace Go.Proofs.Ytolifpkbkjofaaa.AC
open Go Go.AI Go.Proofs Go.Proofs.Ytolifpkbkjofaaa.AQ
set_option linter.unusedVariables false
theorem isNaN_ok (n : Int) (A : AH) : ACall Try.prog 37 [.int .i64 n] A fun v A' => v = .bool false ∧ A' = A := by
  refine code37.call (by simp) fun hwf => ?_
  unfold c37
  simp
  exact DN.of ⟨rfl, rfl⟩
def cmpI (a b : Int) : Int := if a < b then -1 else if b < a then 1 else 0
theorem compare_ok (a b : Int) (A : AH) : ACall Try.prog 30 [.int .i64 a, .int .i64 b] A fun v A' => v = .int .i64 (cmpI a b) ∧ A' = A := by
  refine code30.call (by simp) fun hwf => ?_
  unfold c30
  simp
  refine CN.use (isNaN_ok a A) ?_
  rintro _ _ - - ⟨rfl, rfl⟩
  simp
  refine CN.use (isNaN_ok b _) ?_
  rintro _ _ - - ⟨rfl, rfl⟩
  simp
  split
  · exact DN.of (by simp [cmpI, *])
  · split <;> exact DN.of (by simp [cmpI, *])
end Go.Proofs.Ytolifpkbkjofaaa.AC
/- Lists of numbers, compared. -/
namespace Go.Proofs.Ytolifpkbkjofaaa.AC
open Go Go.AI Go.Proofs Go.Proofs.Ytolifpkbkjofaaa.AQ
set_option linter.unusedVariables false
def cmpL : List Int → List Int → Int
  | [], [] => 0
  | [], _ :: _ => -1
  | _ :: _, [] => 1
  | a :: xs, b :: ys => if cmpI a b ≠ 0 then cmpI a b else cmpL xs ys
theorem cmpI_zero {a b : Int} : cmpI a b = 0 ↔ a = b := by unfold cmpI; split <;> (try split) <;> omega
theorem cmpI_neg (a b : Int) : cmpI b a = - cmpI a b := by unfold cmpI; split <;> split <;> omega
theorem cmpL_zero : ∀ {a b : List Int}, cmpL a b = 0 ↔ a = b
  | [], [] => by simp [cmpL]
  | [], _ :: _ => by simp [cmpL]
  | _ :: _, [] => by simp [cmpL]
  | a :: xs, b :: ys => by
    unfold cmpL
    split
    · rename_i h; constructor
      · intro e; exact absurd e h
      · intro e; injection e with e _; exact absurd (cmpI_zero.2 e) h
    · rename_i h
      have h := cmpI_zero.1 (Classical.not_not.1 h)
      rw [cmpL_zero, h]; simp
theorem cmpL_neg : ∀ (a b : List Int), cmpL b a = - cmpL a b
  | [], [] => rfl
  | [], _ :: _ => rfl
  | _ :: _, [] => rfl
  | a :: xs, b :: ys => by
    unfold cmpL
    rw [cmpI_neg a b, cmpL_neg xs ys]
    by_cases h : cmpI a b = 0
    · simp [h]
    · simp [h]
theorem cmpL_drop {a b : List Int} {k : Nat} (ha : k < a.length) (hb : k < b.length) : cmpL (a.drop k) (b.drop k) = if cmpI a[k] b[k] ≠ 0 then cmpI a[k] b[k] else cmpL (a.drop (k + 1)) (b.drop (k + 1)) := by
  rw [List.drop_eq_getElem_cons ha, List.drop_eq_getElem_cons hb]; rfl
theorem compareL_ok {A : AH} {a a' : Option Addr} {c c' : Nat} {l l' : List Int} (h : Sl A 3 1 a (ints l)) (h' : Sl A 3 1 a' (ints l')) (hl : l.length ≤ 1000000000) (hl' : l'.length ≤ 1000000000) :
    ACall Try.prog 20 [.slice a l.length c, .slice a' l'.length c'] A fun v A' => v = .int .i64 (cmpL l l') ∧ A' = A := by
  refine code20.call (by simp) fun hwf => ?_
  unfold c20
  simp
  refine LN.use (fun m E A' => ∃ k : Nat, m + k = l.length ∧ k ≤ l'.length ∧ A' = A ∧ E.get 0 = .slice a l.length c ∧ E.get 1 = .slice a' l'.length c' ∧ E.get 9 = .slice a l.length c ∧ E.get 10 = .int .i64 l.length ∧ E.get 11 = .int .i64 k ∧ cmpL l l' = cmpL (l.drop k) (l'.drop k)) l.length
    ⟨0, by simp, by simp, rfl, by simp, by simp, by simp, by simp, by simp, by simp⟩ ?_
  rintro m E _ - - ⟨k, hk, hk', rfl, e0, e1, e9, e10, e11, hI⟩
  simp [e10, e11]
  split
  · rename_i hlt
    have hobt := h.one (Go.AI.ints_at (l := l) (i := k) (by omega))
    obtain ⟨b, o, cs, ro, rfl, h1, h2⟩ := hobt
    by_cases hlt' : k < l'.length
    · obtain ⟨b', o', cs', ro', rfl, h3, h4⟩ := h'.one (Go.AI.ints_at (l := l') (i := k) (by omega))
      have hn : ¬ (l'.length : Int) ≤ k := by omega
      simp [e1, e9, e11, hlt, hlt', h1, h2, h3, h4, hn]
      refine CN.use (compare_ok _ _ _) ?_
      rintro _ A - - ⟨rfl, rfl⟩
      simp [e11]
      rw [cmpL_drop hlt hlt'] at hI
      split
      · rename_i hz
        rw [if_neg (by simp [hz])] at hI
        exact NX.of ⟨m - 1, by omega, k + 1, by omega, by omega, rfl, by simp [e0], by simp [e1], by simp [e9], by simp [e10], by simp [i64_in (x := (k : Int) + 1) (by omega) (by omega)], hI⟩
      · rename_i hz
        rw [if_pos hz] at hI
        exact DN.of ⟨by rw [hI], rfl⟩
    · have hn : (l'.length : Int) ≤ k := by omega
      simp [e1, e9, e11, hlt, h1, h2, hn]
      have hd : l'.drop k = [] := List.drop_eq_nil_of_le (by omega)
      rw [hd, List.drop_eq_getElem_cons hlt] at hI
      exact DN.of ⟨by rw [hI]; rfl, rfl⟩
  · rename_i hlt
    have hd : l.drop k = [] := List.drop_eq_nil_of_le (by omega)
    rw [hd] at hI
    simp [e0, e1]
    split
    · rename_i hlt2
      have hd2 : ∃ x xs, l'.drop k = x :: xs := ⟨_, _, List.drop_eq_getElem_cons (by omega)⟩
      obtain ⟨x, xs, hd2⟩ := hd2
      rw [hd2] at hI
      exact DN.of ⟨by rw [hI]; rfl, rfl⟩
    · rename_i hlt2
      have hd2 : l'.drop k = [] := List.drop_eq_nil_of_le (by omega)
      rw [hd2] at hI
      exact DN.of ⟨by rw [hI]; rfl, rfl⟩
def sameL (l l' : List Int) : Bool := decide (l = l')
theorem intsEq_ok {A : AH} {a a' : Option Addr} {c c' : Nat} {l l' : List Int} (h : Sl A 3 1 a (ints l)) (h' : Sl A 3 1 a' (ints l')) (hl : l.length ≤ 1000000000) :
    ACall Try.prog 11 [.slice a l.length c, .slice a' l'.length c'] A fun v A' => v = .bool (sameL l l') ∧ A' = A := by
  refine code11.call (by simp) fun hwf => ?_
  unfold c11
  simp
  by_cases hlenI : (l.length : Int) = l'.length
  · have hlen : l.length = l'.length := by omega
    simp [hlenI]
    refine LN.use (fun m E A' => ∃ k : Nat, m + k = l'.length ∧ A' = A ∧ E.get 0 = .slice a l.length c ∧ E.get 1 = .slice a' l'.length c' ∧ E.get 5 = .int .i64 k ∧ l.take k = l'.take k) l'.length
      ⟨0, by simp, rfl, by simp, by simp, by simp, by simp⟩ ?_
    rintro m E _ - - ⟨k, hk, rfl, e0, e1, e5, hI⟩
    simp [e0, e5, hlenI]
    split
    · rename_i hlt
      have hobt := h.one (Go.AI.ints_at (l := l) (i := k) (by omega))
      obtain ⟨b, o, cs, ro, ha, h1, h2⟩ := hobt
      have hobt := h'.one (Go.AI.ints_at (l := l') (i := k) hlt)
      obtain ⟨b', o', cs', ro', ha', h3, h4⟩ := hobt
      subst ha; subst ha'; have hlt2 : k < l.length := by omega
      simp [e0, e1, e5, h1, h2, h3, h4, hlt, hlt2]
      split
      · rename_i he
        refine NX.of ⟨m - 1, by omega, k + 1, by omega, rfl, by simp [e0], by simp [e1], by simp [i64_in (x := (k : Int) + 1) (by omega) (by omega)], ?_⟩
        rw [List.take_succ_eq_append_getElem hlt, List.take_succ_eq_append_getElem (by omega : k < l.length), hI, he]
      · rename_i he
        exact DN.of ⟨by congr 1; symm; simp only [sameL, decide_eq_false_iff_not]; intro e; subst e; exact he rfl, rfl⟩
    · rename_i hlt
      rw [List.take_of_length_le (by omega), List.take_of_length_le (by omega)] at hI
      exact DN.of ⟨by congr 1; symm; simp only [sameL, decide_eq_true_eq]; exact hI, rfl⟩
  · simp [hlenI]
    exact DN.of ⟨by congr 1; symm; simp only [sameL, decide_eq_false_iff_not]; intro e; exact hlenI (by rw [e]), rfl⟩
/-- Is a route of a cost better than another one? -/
def betB (c : Int) (l : List Int) (c' : Int) (l' : List Int) : Bool := if c ≠ c' then decide (c < c') else if l.length ≠ l'.length then decide (l.length < l'.length) else decide (cmpL l l' < 0)
theorem better_ok {A : AH} {a a' : Option Addr} {c c' : Nat} {l l' : List Int} (h : Sl A 3 1 a (ints l)) (h' : Sl A 3 1 a' (ints l')) (hl : l.length ≤ 1000000000) (hl' : l'.length ≤ 1000000000) (x y : Int) :
    ACall Try.prog 10 [.int .i64 x, .slice a l.length c, .int .i64 y, .slice a' l'.length c'] A fun v A' => v = .bool (betB x l y l') ∧ A' = A := by
  refine code10.call (by simp) fun hwf => ?_
  unfold c10
  simp
  by_cases hxy : x = y
  rotate_left
  · simp [hxy]
    exact DN.of ⟨by simp [betB, hxy], rfl⟩
  by_cases hlenI : (l.length : Int) = l'.length
  rotate_left
  · simp [hxy, hlenI]
    exact DN.of ⟨by have : l.length ≠ l'.length := fun e => hlenI (by rw [e])
                    simp [betB, hxy, this], rfl⟩
  simp [hxy, hlenI]
  have hc := compareL_ok (c := c) (c' := c') h h' hl hl'
  have hlen : l.length = l'.length := by omega
  refine CN.use hc ?_
  rintro _ A - - ⟨rfl, rfl⟩
  simp
  exact DN.of ⟨by simp [betB, hxy, hlen], rfl⟩
theorem rbetter_ok {A : AH} {a a' : Option Addr} {c c' : Nat} {l l' : List Int} (h : Sl A 3 1 a (ints l)) (h' : Sl A 3 1 a' (ints l')) (hl : l.length ≤ 1000000000) (x y : Int) :
    ACall Try.prog 12 [.int .i64 x, .slice a l.length c, .int .i64 y, .slice a' l'.length c'] A fun v A' => v = .bool (betB x l y l') ∧ A' = A := by
  refine code12.call (by simp) fun hwf => ?_
  unfold c12
  simp
  by_cases hxy : x = y
  rotate_left
  · simp [hxy]
    exact DN.of ⟨by simp [betB, hxy], rfl⟩
  by_cases hlenI : (l.length : Int) = l'.length
  rotate_left
  · simp [hxy, hlenI]
    exact DN.of ⟨by have : l.length ≠ l'.length := fun e => hlenI (by rw [e])
                    simp [betB, hxy, this], rfl⟩
  have hlen : l.length = l'.length := by omega
  simp [hxy, hlenI]
  refine LN.use (fun m E A' => ∃ k : Nat, m + k = l'.length ∧ A' = A ∧ E.get 1 = .slice a l.length c ∧ E.get 3 = .slice a' l'.length c' ∧ E.get 9 = .int .i64 k ∧ cmpL l l' = cmpL (l.drop k) (l'.drop k)) l'.length
    ⟨0, by simp, rfl, by simp, by simp, by simp, by simp⟩ ?_
  rintro m E _ - - ⟨k, hk, rfl, e1, e3, e9, hI⟩
  simp [e1, e9, hlenI]
  split
  · rename_i hlt
    have hobt := h.one (Go.AI.ints_at (l := l) (i := k) (by omega))
    obtain ⟨b, o, cs, ro, ha, h1, h2⟩ := hobt
    have hobt := h'.one (Go.AI.ints_at (l := l') (i := k) hlt)
    obtain ⟨b', o', cs', ro', ha', h3, h4⟩ := hobt
    subst ha; subst ha'; have hlt2 : k < l.length := by omega
    simp [e1, e3, e9, h1, h2, h3, h4, hlt, hlt2]
    rw [cmpL_drop (by omega) hlt] at hI
    split
    · rename_i he
      rw [if_neg (by simp [cmpI_zero.2 he])] at hI
      exact NX.of ⟨m - 1, by omega, k + 1, by omega, rfl, by simp [e1], by simp [e3], by simp [i64_in (x := (k : Int) + 1) (by omega) (by omega)], hI⟩
    · rename_i he
      rw [if_pos (fun e => he (cmpI_zero.1 e))] at hI
      refine DN.of ⟨?_, rfl⟩
      congr 1
      simp only [betB, hxy, hlen, hI, ne_eq, not_true, if_false]
      apply decide_eq_decide.2
      unfold cmpI; split <;> (try split) <;> omega
  · rename_i hlt
    have hd : l.drop k = [] := List.drop_eq_nil_of_le (by omega)
    have hd2 : l'.drop k = [] := List.drop_eq_nil_of_le (by omega)
    rw [hd, hd2] at hI
    exact DN.of ⟨by simp [betB, hxy, hlen, hI, cmpL], rfl⟩
end Go.Proofs.Ytolifpkbkjofaaa.AC
/- The law's alive. -/
namespace Go.Proofs.Ytolifpkbkjofaaa.AC
open Go Go.AI Go.Proofs Go.Proofs.Ytolifpkbkjofaaa.AQ
set_option linter.unusedVariables false
set_option maxRecDepth 100000 in
theorem alive_t : ((eF Try.prog tab (fun _ _ _ => none) 100 40 9 [] emptyH).map fun q => cEq q.1 (.bool true)) = some true := by kernel_rfl
theorem alive_ok (A : AH) : ACall Try.prog 9 [] A fun v A' => v = .bool true ∧ A' = A :=
  ACall.reckon tab_ok (fun _ _ _ _ _ h => by cases h) 100 40 alive_t rfl rfl A
end Go.Proofs.Ytolifpkbkjofaaa.AC
/- Arguments, read. -/
namespace Go.Proofs.Ytolifpkbkjofaaa.AC
open Go Go.AI Go.RowKit Go.Proofs Go.Proofs.Ytolifpkbkjofaaa.AQ
set_option linter.unusedVariables false
section
variable {A : AH} {n : Nat} {cs : List Value}
theorem int_rd (h : Rd Try.prog A n 3 cs) : ∃ i, cs = [.int .i64 i] ∧ (Lit.int .i64 i).wf = true := Rd_int Try.underlying3 h
theorem route_rd (h : Rd Try.prog A n 23 cs) : ∃ (a : Option Addr) (c : Nat) (l : List Int), cs = [.slice a l.length c] ∧ Sl A 3 1 a (ints l) ∧ CapOk A 3 a l.length c := by
  have hobt := Rd_slice (z := 1) (f := fun i : Int => [.int .i64 i]) (Q := fun _ => True) Try.underlying23 (by kernel_rfl) (by decide) (fun _ => ⟨rfl, rfl⟩) (fun n cs h => by obtain ⟨i, h, -⟩ := int_rd h; exact ⟨i, h, trivial⟩) h
  obtain ⟨a, c, L, h1, h2, h3, -, -⟩ := hobt
  exact ⟨a, c, L, h1, h2, h3⟩
theorem pair_rd (h : Rd Try.prog A n 22 cs) : ∃ i j, cs = [.int .i64 i, .int .i64 j] ∧ (Lit.int .i64 i).wf = true ∧ (Lit.int .i64 j).wf = true :=
  Rd_two Try.underlying22 Try.underlying3 (by kernel_rfl) (by kernel_rfl) h
/-- A link. -/
structure Lk where
  f : Int
  t : Int
  c : Int
  m : Int
  g : Int
deriving DecidableEq
def Lk.enc (x : Lk) : List Value := [.int .i64 x.f, .int .i64 x.t, .int .u64 x.c, .int .i64 x.m, .int .u32 x.g]
def Lk.wf (x : Lk) : Prop := (Lit.int .i64 x.f).wf = true ∧ (Lit.int .i64 x.t).wf = true ∧ (Lit.int .u64 x.c).wf = true ∧ (Lit.int .i64 x.m).wf = true ∧ (Lit.int .u32 x.g).wf = true
theorem link_rd (h : Rd Try.prog A n 53 cs) : ∃ x : Lk, cs = x.enc ∧ x.wf := by
  have hobt := Rd_struct Try.underlying53 (by kernel_rfl) h
  obtain ⟨n', h⟩ := hobt
  simp only [RdS] at h
  obtain ⟨p0, _, rfl, h0, p1, _, rfl, h1, p2, _, rfl, h2, p3, _, rfl, h3, p4, _, rfl, h4, rfl⟩ := h
  have hobt := int_rd h0
  obtain ⟨i0, rfl, w0⟩ := hobt
  have hobt := int_rd h1
  obtain ⟨i1, rfl, w1⟩ := hobt
  have hobt := Rd_int Try.underlying50 h2
  obtain ⟨i2, rfl, w2⟩ := hobt
  have hobt := int_rd h3
  obtain ⟨i3, rfl, w3⟩ := hobt
  have hobt := Rd_int Try.underlying51 h4
  obtain ⟨i4, rfl, w4⟩ := hobt
  exact ⟨⟨i0, i1, i2, i3, i4⟩, rfl, w0, w1, w2, w3, w4⟩
theorem links_rd (h : Rd Try.prog A n 28 cs) : ∃ (a : Option Addr) (c : Nat) (l : List Lk), cs = [.slice a l.length c] ∧ Sl A 53 5 a (l.map Lk.enc) ∧ ∀ x ∈ l, x.wf := by
  have hobt := Rd_slice (z := 5) (f := Lk.enc) (Q := Lk.wf) Try.underlying28 (by kernel_rfl) (by decide) (fun x => ⟨rfl, rfl⟩) (fun n cs h => link_rd h) h
  obtain ⟨a, c, L, h1, h2, -, -, h3⟩ := hobt
  exact ⟨a, c, L, h1, h2, h3⟩
end
end Go.Proofs.Ytolifpkbkjofaaa.AC
/- The law SpfBetter. -/
namespace Go.Proofs.Ytolifpkbkjofaaa.AC
open Go Go.AI Go.Proofs Go.Proofs.Ytolifpkbkjofaaa.AQ
set_option linter.unusedVariables false
theorem betB_not (c : Int) (l : List Int) (c' : Int) (l' : List Int) : ¬ (betB c l c' l' = true ∧ betB c' l' c l = true) := by
  rintro ⟨h1, h2⟩
  unfold betB at h1 h2
  rw [cmpL_neg l l'] at h2
  repeat' split at h1
  all_goals repeat' split at h2
  all_goals simp at h1 h2
  all_goals omega
theorem betB_same (c : Int) (l : List Int) : betB c l c l = false := by
  cases h : betB c l c l with
  | false => rfl
  | true => exact absurd ⟨h, h⟩ (betB_not c l c l)
theorem betB_unlike {c : Int} {l : List Int} {c' : Int} {l' : List Int} (h : ¬ (c = c' ∧ l = l')) : betB c l c' l' ≠ betB c' l' c l := by
  intro e
  have hn := betB_not c l c' l'
  have h1 : betB c l c' l' = false := by cases hh : betB c l c' l' with | false => rfl | true => rw [← e] at hn; exact absurd ⟨hh, hh⟩ hn
  have h2 : betB c' l' c l = false := by rw [← e, h1]
  apply h
  unfold betB at h1 h2
  rw [cmpL_neg l l'] at h2
  repeat' split at h1
  all_goals repeat' split at h2
  all_goals simp at h1 h2
  all_goals first | omega | (refine ⟨by omega, cmpL_zero.1 (by omega)⟩)
theorem better_walk {A : AH} {a a' : Option Addr} {c c' : Nat} {l l' : List Int} {x y : Int} (h : Sl A 3 1 a (ints l)) (h' : Sl A 3 1 a' (ints l')) :
    ACall Try.prog 3 [.agg #[.int .i64 x, .int .i64 y], .slice a l.length c, .slice a' l'.length c'] A fun v A' => v = .bool true := by
  refine code3.call (by simp) fun hwf => ?_
  unfold c3
  simp
  refine CN.use (alive_ok _) ?_
  rintro _ A1 - - ⟨rfl, rfl⟩
  simp
  by_cases hl : (100 : Int) < l.length
  · simp [hl]
    exact DN.of rfl
  by_cases hl' : (100 : Int) < l'.length
  · simp [hl, hl']
    exact DN.of rfl
  simp [hl, hl', AH.get_alloc]
  have x1 := Ext.alloc A (Blk.row [Value.int IntKind.i64 x, Value.int IntKind.i64 y] 22 false)
  have h1 := h.ext hwf x1
  have h2 := h'.ext hwf x1
  refine CN.use (better_ok (c := c) (c' := c') h1 h2 (by omega) (by omega) x y) ?_
  rintro _ A1 - - ⟨rfl, rfl⟩
  simp [AH.get_alloc]
  refine CN.use (better_ok (c := c') (c' := c) h2 h1 (by omega) (by omega) y x) ?_
  rintro _ A1 - - ⟨rfl, rfl⟩
  simp [AH.get_alloc]
  have hnot : ∀ p q : Bool, p ≠ q → q = !p := by decide
  by_cases hxy : x = y
  · subst hxy
    simp [AH.get_alloc]
    refine CN.use (intsEq_ok (c := c) (c' := c') h1 h2 (by omega)) ?_
    rintro _ A1 - - ⟨rfl, rfl⟩
    simp [AH.get_alloc]
    refine CN.use (rbetter_ok (c := c) (c' := c') h1 h2 (by omega) x x) ?_
    rintro _ A1 - - ⟨rfl, rfl⟩
    by_cases hll : l = l'
    · have hs : sameL l l' = true := decide_eq_true hll
      have hb : betB x l x l' = false := by rw [hll]; exact betB_same _ _
      have hb' : betB x l' x l = false := by rw [hll]; exact betB_same _ _
      simp [hs, hb, hb']
      exact DN.of rfl
    · have hs : sameL l l' = false := decide_eq_false hll
      have hn := hnot _ _ (betB_unlike (c := x) (c' := x) fun e => hll e.2)
      cases hb : betB x l x l' with
      | true => rw [hb] at hn; simp at hn; simp [hs, hb, hn]; exact DN.of rfl
      | false => rw [hb] at hn; simp at hn; simp [hs, hb, hn]; exact DN.of rfl
  · simp [hxy, AH.get_alloc]
    refine CN.use (rbetter_ok (c := c) (c' := c') h1 h2 (by omega) x y) ?_
    rintro _ A1 - - ⟨rfl, rfl⟩
    have hn := hnot _ _ (betB_unlike (c := x) (l := l) (c' := y) (l' := l') fun e => hxy e.1)
    cases hb : betB x l y l' with
    | true => rw [hb] at hn; simp at hn; simp [hb, hn, hxy]; exact DN.of rfl
    | false => rw [hb] at hn; simp at hn; simp [hb, hn, hxy]; exact DN.of rfl
end Go.Proofs.Ytolifpkbkjofaaa.AC
