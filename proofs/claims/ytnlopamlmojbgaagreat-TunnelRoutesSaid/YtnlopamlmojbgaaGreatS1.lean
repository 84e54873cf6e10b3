/-
  What the functions of the program, and those of the law, do.
-/
import Derived.Test.YtnlopamlmojbgaaGreatCAQ
import Derived.Test.YtnlopamlmojbgaaGreatCAC
import Derived.Test.YtnlopamlmojbgaaGreatP2
import Derived.Test.YtnlopamlmojbgaaGreatP3
import Derived.Laws.Externs
set_option linter.unusedSimpArgs false
set_option linter.unusedVariables false
/- Contracts of cmp's functions. -/
namespace Go.Proofs.YtnlopamlmojbgaaGreat.AC
open Go Go.AI Go.Proofs Go.Proofs.YtnlopamlmojbgaaGreat.AQ
set_option linter.unusedVariables false
theorem isNaN_ok (n : Int) (A : AH) : ACall Tryz.prog 125 [.int .i64 n] A fun v A' => v = .bool false ∧ A' = A := by
  refine code125.call (by simp) fun hwf => ?_
  unfold c125
  simp
  exact DN.of ⟨rfl, rfl⟩
def cmpI (a b : Int) : Int := if a < b then -1 else if b < a then 1 else 0
theorem compare_ok (a b : Int) (A : AH) : ACall Tryz.prog 119 [.int .i64 a, .int .i64 b] A fun v A' => v = .int .i64 (cmpI a b) ∧ A' = A := by
  refine code119.call (by simp) fun hwf => ?_
  unfold c119
  simp
  refine CN.use (isNaN_ok a A) ?_
  rintro _ _ - - ⟨rfl, rfl⟩
  simp
  refine CN.use (isNaN_ok b _) ?_
  rintro _ _ - - ⟨rfl, rfl⟩
  simp
  split
  · exact DN.of (by simp [cmpI, *])
  · split <;> exact DN.of (by simp [cmpI, *])
def cmpL : List Int → List Int → Int
  | [], [] => 0
  | [], _ :: _ => -1
  | _ :: _, [] => 1
  | a :: xs, b :: ys => if cmpI a b ≠ 0 then cmpI a b else cmpL xs ys
theorem cmpI_zero {a b : Int} : cmpI a b = 0 ↔ a = b := by unfold cmpI; split <;> (try split) <;> omega
theorem cmpI_neg (a b : Int) : cmpI b a = - cmpI a b := by unfold cmpI; split <;> split <;> omega
theorem cmpL_zero : ∀ {a b : List Int}, cmpL a b = 0 ↔ a = b
  | [], [] => by simp [cmpL]
  | [], _ :: _ => by simp [cmpL]
  | _ :: _, [] => by simp [cmpL]
  | a :: xs, b :: ys => by
    unfold cmpL
    split
    · rename_i h; constructor
      · intro e; exact absurd e h
      · intro e; injection e with e _; exact absurd (cmpI_zero.2 e) h
    · rename_i h
      have h := cmpI_zero.1 (Classical.not_not.1 h)
      rw [cmpL_zero, h]; simp
theorem cmpL_neg : ∀ (a b : List Int), cmpL b a = - cmpL a b
  | [], [] => rfl
  | [], _ :: _ => rfl
  | _ :: _, [] => rfl
  | a :: xs, b :: ys => by
    unfold cmpL
    rw [cmpI_neg a b, cmpL_neg xs ys]
    by_cases h : cmpI a b = 0
    · simp [h]
    · simp [h]
theorem cmpL_drop {a b : List Int} {k : Nat} (ha : k < a.length) (hb : k < b.length) : cmpL (a.drop k) (b.drop k) = if cmpI a[k] b[k] ≠ 0 then cmpI a[k] b[k] else cmpL (a.drop (k + 1)) (b.drop (k + 1)) := by
  rw [List.drop_eq_getElem_cons ha, List.drop_eq_getElem_cons hb]; rfl
theorem compareL_ok {A : AH} {a a' : Option Addr} {c c' : Nat} {l l' : List Int} (h : Sl A 3 1 a (ints l)) (h' : Sl A 3 1 a' (ints l')) (hl : l.length ≤ 1000000000) (hl' : l'.length ≤ 1000000000) :
    ACall Tryz.prog 109 [.slice a l.length c, .slice a' l'.length c'] A fun v A' => v = .int .i64 (cmpL l l') ∧ A' = A := by
  refine code109.call (by simp) fun hwf => ?_
  unfold c109
  simp
  refine LN.use (fun m E A' => ∃ k : Nat, m + k = l.length ∧ k ≤ l'.length ∧ A' = A ∧ E.get 0 = .slice a l.length c ∧ E.get 1 = .slice a' l'.length c' ∧ E.get 9 = .slice a l.length c ∧ E.get 10 = .int .i64 l.length ∧ E.get 11 = .int .i64 k ∧ cmpL l l' = cmpL (l.drop k) (l'.drop k)) l.length
    ⟨0, by simp, by simp, rfl, by simp, by simp, by simp, by simp, by simp, by simp⟩ ?_
  rintro m E _ - - ⟨k, hk, hk', rfl, e0, e1, e9, e10, e11, hI⟩
  simp [e10, e11]
  split
  · rename_i hlt
    have hobt := h.one (Go.AI.ints_at (l := l) (i := k) (by omega))
    obtain ⟨b, o, cs, ro, rfl, h1, h2⟩ := hobt
    by_cases hlt' : k < l'.length
    · obtain ⟨b', o', cs', ro', rfl, h3, h4⟩ := h'.one (Go.AI.ints_at (l := l') (i := k) (by omega))
      have hn : ¬ (l'.length : Int) ≤ k := by omega
      simp [e1, e9, e11, hlt, hlt', h1, h2, h3, h4, hn]
      refine CN.use (compare_ok _ _ _) ?_
      rintro _ A - - ⟨rfl, rfl⟩
      simp [e11]
      rw [cmpL_drop hlt hlt'] at hI
      split
      · rename_i hz
        rw [if_neg (by simp [hz])] at hI
        exact NX.of ⟨m - 1, by omega, k + 1, by omega, by omega, rfl, by simp [e0], by simp [e1], by simp [e9], by simp [e10], by simp [i64_in (x := (k : Int) + 1) (by omega) (by omega)], hI⟩
      · rename_i hz
        rw [if_pos hz] at hI
        exact DN.of ⟨by rw [hI], rfl⟩
    · have hn : (l'.length : Int) ≤ k := by omega
      simp [e1, e9, e11, hlt, h1, h2, hn]
      have hd : l'.drop k = [] := List.drop_eq_nil_of_le (by omega)
      rw [hd, List.drop_eq_getElem_cons hlt] at hI
      exact DN.of ⟨by rw [hI]; rfl, rfl⟩
  · rename_i hlt
    have hd : l.drop k = [] := List.drop_eq_nil_of_le (by omega)
    rw [hd] at hI
    simp [e0, e1]
    split
    · rename_i hlt2
      have hd2 : ∃ x xs, l'.drop k = x :: xs := ⟨_, _, List.drop_eq_getElem_cons (by omega)⟩
      obtain ⟨x, xs, hd2⟩ := hd2
      rw [hd2] at hI
      exact DN.of ⟨by rw [hI]; rfl, rfl⟩
    · rename_i hlt2
      have hd2 : l'.drop k = [] := List.drop_eq_nil_of_le (by omega)
      rw [hd2] at hI
      exact DN.of ⟨by rw [hI]; rfl, rfl⟩
def sameL (l l' : List Int) : Bool := decide (l = l')
theorem intsEq_ok {A : AH} {a a' : Option Addr} {c c' : Nat} {l l' : List Int} (h : Sl A 3 1 a (ints l)) (h' : Sl A 3 1 a' (ints l')) (hl : l.length ≤ 1000000000) :
    ACall Tryz.prog 19 [.slice a l.length c, .slice a' l'.length c'] A fun v A' => v = .bool (sameL l l') ∧ A' = A := by
  refine code19.call (by simp) fun hwf => ?_
  unfold c19
  simp
  by_cases hlenI : (l.length : Int) = l'.length
  · have hlen : l.length = l'.length := by omega
    simp [hlenI]
    refine LN.use (fun m E A' => ∃ k : Nat, m + k = l'.length ∧ A' = A ∧ E.get 0 = .slice a l.length c ∧ E.get 1 = .slice a' l'.length c' ∧ E.get 5 = .int .i64 k ∧ l.take k = l'.take k) l'.length
      ⟨0, by simp, rfl, by simp, by simp, by simp, by simp⟩ ?_
    rintro m E _ - - ⟨k, hk, rfl, e0, e1, e5, hI⟩
    simp [e0, e5, hlenI]
    split
    · rename_i hlt
      have hobt := h.one (Go.AI.ints_at (l := l) (i := k) (by omega))
      obtain ⟨b, o, cs, ro, ha, h1, h2⟩ := hobt
      have hobt := h'.one (Go.AI.ints_at (l := l') (i := k) hlt)
      obtain ⟨b', o', cs', ro', ha', h3, h4⟩ := hobt
      subst ha; subst ha'; have hlt2 : k < l.length := by omega
      simp [e0, e1, e5, h1, h2, h3, h4, hlt, hlt2]
      split
      · rename_i he
        refine NX.of ⟨m - 1, by omega, k + 1, by omega, rfl, by simp [e0], by simp [e1], by simp [i64_in (x := (k : Int) + 1) (by omega) (by omega)], ?_⟩
        rw [List.take_succ_eq_append_getElem hlt, List.take_succ_eq_append_getElem (by omega : k < l.length), hI, he]
      · rename_i he
        exact DN.of ⟨by congr 1; symm; simp only [sameL, decide_eq_false_iff_not]; intro e; subst e; exact he rfl, rfl⟩
    · rename_i hlt
      rw [List.take_of_length_le (by omega), List.take_of_length_le (by omega)] at hI
      exact DN.of ⟨by congr 1; symm; simp only [sameL, decide_eq_true_eq]; exact hI, rfl⟩
  · simp [hlenI]
    exact DN.of ⟨by congr 1; symm; simp only [sameL, decide_eq_false_iff_not]; intro e; exact hlenI (by rw [e]), rfl⟩
def betB (c : Int) (l : List Int) (c' : Int) (l' : List Int) : Bool := if c ≠ c' then decide (c < c') else if l.length ≠ l'.length then decide (l.length < l'.length) else decide (cmpL l l' < 0)
theorem better_ok {A : AH} {a a' : Option Addr} {c c' : Nat} {l l' : List Int} (h : Sl A 3 1 a (ints l)) (h' : Sl A 3 1 a' (ints l')) (hl : l.length ≤ 1000000000) (hl' : l'.length ≤ 1000000000) (x y : Int) :
    ACall Tryz.prog 97 [.int .i64 x, .slice a l.length c, .int .i64 y, .slice a' l'.length c'] A fun v A' => v = .bool (betB x l y l') ∧ A' = A := by
  refine code97.call (by simp) fun hwf => ?_
  unfold c97
  simp
  by_cases hxy : x = y
  rotate_left
  · simp [hxy]
    exact DN.of ⟨by simp [betB, hxy], rfl⟩
  by_cases hlenI : (l.length : Int) = l'.length
  rotate_left
  · simp [hxy, hlenI]
    exact DN.of ⟨by have : l.length ≠ l'.length := fun e => hlenI (by rw [e])
                    simp [betB, hxy, this], rfl⟩
  simp [hxy, hlenI]
  have hc := compareL_ok (c := c) (c' := c') h h' hl hl'
  have hlen : l.length = l'.length := by omega
  refine CN.use hc ?_
  rintro _ A - - ⟨rfl, rfl⟩
  simp
  exact DN.of ⟨by simp [betB, hxy, hlen], rfl⟩
theorem rbetter_ok {A : AH} {a a' : Option Addr} {c c' : Nat} {l l' : List Int} (h : Sl A 3 1 a (ints l)) (h' : Sl A 3 1 a' (ints l')) (hl : l.length ≤ 1000000000) (x y : Int) :
    ACall Tryz.prog 76 [.int .i64 x, .slice a l.length c, .int .i64 y, .slice a' l'.length c'] A fun v A' => v = .bool (betB x l y l') ∧ A' = A := by
  refine code76.call (by simp) fun hwf => ?_
  unfold c76
  simp
  by_cases hxy : x = y
  rotate_left
  · simp [hxy]
    exact DN.of ⟨by simp [betB, hxy], rfl⟩
  by_cases hlenI : (l.length : Int) = l'.length
  rotate_left
  · simp [hxy, hlenI]
    exact DN.of ⟨by have : l.length ≠ l'.length := fun e => hlenI (by rw [e])
                    simp [betB, hxy, this], rfl⟩
  have hlen : l.length = l'.length := by omega
  simp [hxy, hlenI]
  refine LN.use (fun m E A' => ∃ k : Nat, m + k = l'.length ∧ A' = A ∧ E.get 1 = .slice a l.length c ∧ E.get 3 = .slice a' l'.length c' ∧ E.get 9 = .int .i64 k ∧ cmpL l l' = cmpL (l.drop k) (l'.drop k)) l'.length
    ⟨0, by simp, rfl, by simp, by simp, by simp, by simp⟩ ?_
  rintro m E _ - - ⟨k, hk, rfl, e1, e3, e9, hI⟩
  simp [e1, e9, hlenI]
  split
  · rename_i hlt
    have hobt := h.one (Go.AI.ints_at (l := l) (i := k) (by omega))
    obtain ⟨b, o, cs, ro, ha, h1, h2⟩ := hobt
    have hobt := h'.one (Go.AI.ints_at (l := l') (i := k) hlt)
    obtain ⟨b', o', cs', ro', ha', h3, h4⟩ := hobt
    subst ha; subst ha'; have hlt2 : k < l.length := by omega
    simp [e1, e3, e9, h1, h2, h3, h4, hlt, hlt2]
    rw [cmpL_drop (by omega) hlt] at hI
    split
    · rename_i he
      rw [if_neg (by simp [cmpI_zero.2 he])] at hI
      exact NX.of ⟨m - 1, by omega, k + 1, by omega, rfl, by simp [e1], by simp [e3], by simp [i64_in (x := (k : Int) + 1) (by omega) (by omega)], hI⟩
    · rename_i he
      rw [if_pos (fun e => he (cmpI_zero.1 e))] at hI
      refine DN.of ⟨?_, rfl⟩
      congr 1
      simp only [betB, hxy, hlen, hI, ne_eq, not_true, if_false]
      apply decide_eq_decide.2
      unfold cmpI; split <;> (try split) <;> omega
  · rename_i hlt
    have hd : l.drop k = [] := List.drop_eq_nil_of_le (by omega)
    have hd2 : l'.drop k = [] := List.drop_eq_nil_of_le (by omega)
    rw [hd, hd2] at hI
    exact DN.of ⟨by simp [betB, hxy, hlen, hI, cmpL], rfl⟩
end Go.Proofs.YtnlopamlmojbgaaGreat.AC
/- Which of two routes is better, without the program. -/
namespace Go.Proofs.YtnlopamlmojbgaaGreat.AC
open Go Go.AI Go.Proofs Go.Proofs.YtnlopamlmojbgaaGreat.AQ
set_option linter.unusedVariables false
end Go.Proofs.YtnlopamlmojbgaaGreat.AC
/- Arguments, read. -/
namespace Go.Proofs.YtnlopamlmojbgaaGreat.AC
open Go Go.AI Go.RowKit Go.Proofs Go.Proofs.YtnlopamlmojbgaaGreat.AQ
set_option linter.unusedVariables false
section
variable {A : AH} {n : Nat} {cs : List Value}
theorem int_rd (h : Rd Tryz.prog A n 3 cs) : ∃ i, cs = [.int .i64 i] ∧ (Lit.int .i64 i).wf = true := Rd_int Tryz.underlying3 h
structure Lk where
  f : Int
  t : Int
  c : Int
  m : Int
  g : Int
deriving DecidableEq
def Lk.enc (x : Lk) : List Value := [.int .i64 x.f, .int .i64 x.t, .int .u64 x.c, .int .i64 x.m, .int .u32 x.g]
def Lk.wf (x : Lk) : Prop := (Lit.int .i64 x.f).wf = true ∧ (Lit.int .i64 x.t).wf = true ∧ (Lit.int .u64 x.c).wf = true ∧ (Lit.int .i64 x.m).wf = true ∧ (Lit.int .u32 x.g).wf = true
theorem link_rd (h : Rd Tryz.prog A n 79 cs) : ∃ x : Lk, cs = x.enc ∧ x.wf := by
  have hobt := Rd_struct Tryz.underlying79 (by kernel_rfl) h
  obtain ⟨n', h⟩ := hobt
  simp only [RdS] at h
  obtain ⟨p0, _, rfl, h0, p1, _, rfl, h1, p2, _, rfl, h2, p3, _, rfl, h3, p4, _, rfl, h4, rfl⟩ := h
  have hobt := int_rd h0
  obtain ⟨i0, rfl, w0⟩ := hobt
  have hobt := int_rd h1
  obtain ⟨i1, rfl, w1⟩ := hobt
  have hobt := Rd_int Tryz.underlying33 h2
  obtain ⟨i2, rfl, w2⟩ := hobt
  have hobt := int_rd h3
  obtain ⟨i3, rfl, w3⟩ := hobt
  have hobt := Rd_int Tryz.underlying34 h4
  obtain ⟨i4, rfl, w4⟩ := hobt
  exact ⟨⟨i0, i1, i2, i3, i4⟩, rfl, w0, w1, w2, w3, w4⟩
end
end Go.Proofs.YtnlopamlmojbgaaGreat.AC
/- Heaps, without the program. -/
namespace Go.Proofs.YtnlopamlmojbgaaGreat.AC
open Go Go.AI Go.Proofs.YtnlopamlmojbgaaGreat.AQ
set_option linter.unusedVariables false
structure It where
  c : Int
  h : Int
  n : Int
def It.enc (x : It) : List Value := [.int .i64 x.c, .int .i64 x.h, .int .i64 x.n]
def lessI (a b : It) : Bool := if a.c ≠ b.c then decide (a.c < b.c) else if a.h ≠ b.h then decide (a.h < b.h) else decide (a.n < b.n)
theorem less_iff {a b : It} : lessI a b = true ↔ a.c < b.c ∨ (a.c = b.c ∧ (a.h < b.h ∨ (a.h = b.h ∧ a.n < b.n))) := by
  unfold lessI
  split
  · simp; omega
  · split
    · simp; omega
    · simp; omega
def leI (a b : It) : Prop := lessI b a = false
theorem le_iff {a b : It} : leI a b ↔ ¬ (b.c < a.c ∨ (b.c = a.c ∧ (b.h < a.h ∨ (b.h = a.h ∧ b.n < a.n)))) := by
  unfold leI; rw [← less_iff]; cases lessI b a <;> simp
theorem le_trans' {a b c : It} (h1 : leI a b) (h2 : leI b c) : leI a c := by rw [le_iff] at *; omega
theorem le_refl' (a : It) : leI a a := by rw [le_iff]; omega
theorem less_le {a b : It} (h : lessI a b = true) : leI a b := by rw [le_iff]; rw [less_iff] at h; omega
def nth (L : List It) (i : Nat) : It := L.getD i ⟨0, 0, 0⟩
theorem nth_eq {L : List It} {i : Nat} (h : i < L.length) : nth L i = L[i] := by simp [nth, List.getD, h]
def swp (L : List It) (i j : Nat) : List It := (L.set i (nth L j)).set j (nth L i)
theorem swp_len (L : List It) (i j : Nat) : (swp L i j).length = L.length := by simp [swp]
theorem nth_swp {L : List It} {i j : Nat} (hi : i < L.length) (hj : j < L.length) (k : Nat) : nth (swp L i j) k = if k = j then nth L i else if k = i then nth L j else nth L k := by
  unfold swp
  generalize nth L i = x
  generalize nth L j = y
  unfold nth
  simp only [List.getD]
  rw [List.getElem?_set, List.getElem?_set]
  by_cases h1 : k = j
  · subst h1; simp [hj]
  · have h1' : ¬ j = k := fun e => h1 e.symm
    by_cases h2 : k = i
    · subst h2; simp [hi, h1, h1']
    · have h2' : ¬ i = k := fun e => h2 e.symm
      simp [h1, h1', h2, h2']
theorem swp_perm {L : List It} {i j : Nat} (hi : i < L.length) (hj : j < L.length) : (swp L i j).Perm L := by
  unfold swp; rw [nth_eq hi, nth_eq hj]; exact List.set_set_perm hi hj
def par (i : Nat) : Nat := (i - 1) / 2
def HP (L : List It) (n : Nat) : Prop := ∀ i, 0 < i → i < n → leI (nth L (par i)) (nth L i)
def UP (L : List It) (n j : Nat) : Prop := (∀ i, 0 < i → i < n → i ≠ j → leI (nth L (par i)) (nth L i)) ∧ ∀ i, 0 < i → i < n → par i = j → 0 < j → leI (nth L (par j)) (nth L i)
def DW (L : List It) (n j : Nat) : Prop := (∀ i, 0 < i → i < n → par i ≠ j → leI (nth L (par i)) (nth L i)) ∧ ∀ i, 0 < i → i < n → par i = j → 0 < j → leI (nth L (par j)) (nth L i)
theorem UP.step {L : List It} {n j : Nat} (h : UP L n j) (hn : n ≤ L.length) (hj : 0 < j) (hjn : j < n) (hl : lessI (nth L j) (nth L (par j)) = true) : UP (swp L (par j) j) n (par j) := by
  have hp : par j < j := by unfold par; omega
  have hs := nth_swp (L := L) (i := par j) (j := j) (by omega) (by omega)
  refine ⟨fun i h0 h1 h2 => ?_, fun i h0 h1 h2 h3 => ?_⟩
  · rw [hs i, hs (par i)]
    have hpi : par i < i := by unfold par; omega
    by_cases e : i = j
    · subst e
      rw [if_pos rfl, if_neg (by omega), if_pos rfl]
      exact less_le hl
    · rw [if_neg e, if_neg h2]
      by_cases e1 : par i = j
      · rw [if_pos e1]; exact h.2 i h0 h1 e1 hj
      · rw [if_neg e1]
        by_cases e2 : par i = par j
        · rw [if_pos e2]
          have := h.1 i h0 h1 e
          rw [e2] at this
          exact le_trans' (less_le hl) this
        · rw [if_neg e2]; exact h.1 i h0 h1 e
  · have hpp : par (par j) < par j := by unfold par at h3 ⊢; omega
    rw [hs i, hs (par (par j)), if_neg (by omega), if_neg (by omega)]
    have hpar := h.1 (par j) h3 (by omega) (by omega)
    by_cases e : i = j
    · rw [if_pos e]; exact hpar
    · rw [if_neg e, if_neg (by have : par i < i := by { unfold par; omega }
                               omega)]
      have := h.1 i h0 h1 e
      rw [h2] at this
      exact le_trans' hpar this
theorem UP.fin {L : List It} {n j : Nat} (h : UP L n j) (hl : j = 0 ∨ lessI (nth L j) (nth L (par j)) = false) : HP L n := by
  intro i h0 h1
  by_cases e : i = j
  · subst e
    rcases hl with hl | hl
    · omega
    · exact hl
  · exact h.1 i h0 h1 e
theorem DW.step {L : List It} {n j k : Nat} (h : DW L n j) (hn : n ≤ L.length) (hk : par k = j) (hk0 : 0 < k) (hkn : k < n) (hmin : ∀ i, 0 < i → i < n → par i = j → leI (nth L k) (nth L i)) (hl : lessI (nth L k) (nth L j) = true) : DW (swp L j k) n k := by
  have hp : j < k := by rw [← hk]; unfold par; omega
  have hs := nth_swp (L := L) (i := j) (j := k) (by omega) (by omega)
  refine ⟨fun i h0 h1 h2 => ?_, fun i h0 h1 h2 h3 => ?_⟩
  · rw [hs i, hs (par i), if_neg h2]
    have hpi : par i < i := by unfold par; omega
    by_cases e : par i = j
    · rw [if_pos e]
      by_cases e1 : i = k
      · rw [if_pos e1]; exact less_le hl
      · rw [if_neg e1, if_neg (by omega)]; exact hmin i h0 h1 e
    · rw [if_neg e]
      by_cases e1 : i = k
      · subst e1; exact absurd hk e
      · rw [if_neg e1]
        by_cases e2 : i = j
        · subst e2
          rw [if_pos rfl]
          exact h.2 k hk0 hkn hk h0
        · rw [if_neg e2]; exact h.1 i h0 h1 e
  · have hpi : par i < i := by unfold par; omega
    have e1 : nth (swp L j k) i = nth L i := by rw [hs, if_neg (by omega), if_neg (by omega)]
    have e2 : nth (swp L j k) (par k) = nth L k := by rw [hs, hk, if_neg (by omega), if_pos rfl]
    rw [e1, e2]
    have := h.1 i h0 h1 (by omega)
    rw [h2] at this
    exact this
theorem DW.fin {L : List It} {n j : Nat} (h : DW L n j) (hl : ∀ i, 0 < i → i < n → par i = j → leI (nth L j) (nth L i)) : HP L n := by
  intro i h0 h1
  by_cases e : par i = j
  · rw [e]; exact hl i h0 h1 e
  · exact h.1 i h0 h1 e
theorem HP.min {L : List It} {n : Nat} (h : HP L n) : ∀ (i : Nat), i < n → leI (nth L 0) (nth L i)
  | 0, _ => le_refl' _
  | i + 1, hi => by
    have hp : par (i + 1) < i + 1 := by unfold par; omega
    exact le_trans' (HP.min h (par (i + 1)) (by omega)) (h (i + 1) (by omega) hi)
theorem HP.cut {L : List It} {n : Nat} (h : HP L (n + 1)) (hL : L.length = n + 1) : DW (swp L 0 n) n 0 := by
  have hs := nth_swp (L := L) (i := 0) (j := n) (by omega) (by omega)
  refine ⟨fun i h0 h1 h2 => ?_, fun i _ _ _ h3 => by omega⟩
  have hpi : par i < i := by unfold par; omega
  rw [hs i, hs (par i), if_neg (by omega), if_neg (by omega), if_neg (by omega), if_neg (by omega)]
  exact h i h0 (by omega)
theorem qless_ok (a b : It) (A : AH) : ACall Tryz.prog 151 [.agg a.enc.toArray, .agg b.enc.toArray] A fun v A' => v = .bool (lessI a b) ∧ Ext A A' := by
  refine code151.call (by simp) fun hwf => ?_
  unfold c151
  have hx : Ext A ((A.alloc (.row [.int .i64 a.c, .int .i64 a.h, .int .i64 a.n] 185 false)).alloc (.row [.int .i64 b.c, .int .i64 b.h, .int .i64 b.n] 185 false)) := (Ext.alloc A _).app (by simp) _
  simp [It.enc, AH.get_alloc]
  by_cases h1 : a.c = b.c
  · by_cases h2 : a.h = b.h
    · simp [h1, h2, AH.get_alloc]
      exact DN.of ⟨by simp [lessI, h1, h2], by rw [h1, h2] at hx; exact hx⟩
    · simp [h1, h2, AH.get_alloc]
      exact DN.of ⟨by simp [lessI, h1, h2], by rw [h1] at hx; exact hx⟩
  · simp [h1, AH.get_alloc]
    exact DN.of ⟨by simp [lessI, h1], hx⟩
@[simp] theorem m_less : methOf Tryz.prog 208 "Less" = some 148 := by kernel_rfl
@[simp] theorem m_swap : methOf Tryz.prog 208 "Swap" = some 150 := by kernel_rfl
@[simp] theorem m_len : methOf Tryz.prog 208 "Len" = some 115 := by kernel_rfl
@[simp] theorem m_pop : methOf Tryz.prog 208 "Pop" = some 149 := by kernel_rfl
@[simp] theorem if_q : isIface Tryz.prog 208 = some false := by kernel_rfl
@[simp] theorem if_i : isIface Tryz.prog 185 = some false := by kernel_rfl
def QS (A : AH) (q : Nat) (ob : Option Nat) (L : List It) : Prop := ∃ v, A.get q = some (.row [.bool true, v] 203 false) ∧ Lq A 185 3 ob v (L.map It.enc) ∧ ob ≠ some q
theorem QS.kept {A A' : AH} {q : Nat} {ob : Option Nat} {L : List It} (h : QS A q ob L) (hq : A'.get q = A.get q) (hk : ∀ b, ob = some b → A'.get b = A.get b) : QS A' q ob L := by
  obtain ⟨v, h1, h2, h3⟩ := h
  exact ⟨v, hq.trans h1, h2.kept hk, h3⟩
theorem QS.ext {A A' : AH} {q : Nat} {ob : Option Nat} {L : List It} (h : QS A q ob L) (hw : A.wf) (hx : Ext A A') : QS A' q ob L := by
  have h' := h
  obtain ⟨v, h1, h2, h3⟩ := h'
  exact h.kept (hx q (hw _ _ h1)) fun b hb => hx b (h2.lt hw hb)
theorem good_ok {A : AH} {q : Nat} {ob : Option Nat} {L : List It} (h : QS A q ob L) : ACall Tryz.prog 104 [.pointer (some ⟨q, 0, none⟩)] A fun v A' => v = .bool true ∧ A' = A := by
  obtain ⟨v, h1, h2, h3⟩ := h
  refine code104.call (by simp) fun hwf => ?_
  unfold c104
  simp [h1]
  exact DN.of ⟨rfl, rfl⟩
theorem ilen_ok {A : AH} {q : Nat} {ob : Option Nat} {L : List It} (h : QS A q ob L) : ACall Tryz.prog 115 [.pointer (some ⟨q, 1, none⟩)] A fun v A' => v = .int .i64 L.length ∧ A' = A := by
  obtain ⟨v, h1, h2, h3⟩ := h
  have hobt := h2.sl
  obtain ⟨a, c, rfl, h4⟩ := hobt
  refine code115.call (by simp) fun hwf => ?_
  unfold c115
  simp [h1]
  exact DN.of ⟨rfl, rfl⟩
theorem qlen_ok {A : AH} {q : Nat} {ob : Option Nat} {L : List It} (h : QS A q ob L) : ACall Tryz.prog 105 [.pointer (some ⟨q, 0, none⟩)] A fun v A' => v = .int .i64 L.length ∧ A' = A := by
  refine code105.call (by simp) fun hwf => ?_
  unfold c105
  simp
  refine CN.use (good_ok h) ?_
  rintro _ _ - - ⟨rfl, rfl⟩
  simp
  refine CN.use (ilen_ok h) ?_
  rintro _ _ - - ⟨rfl, rfl⟩
  simp
  exact DN.of ⟨rfl, rfl⟩
theorem iless_ok {A : AH} {q : Nat} {ob : Option Nat} {L : List It} (h : QS A q ob L) {i j : Nat} (hi : i < L.length) (hj : j < L.length) : ACall Tryz.prog 148 [.pointer (some ⟨q, 1, none⟩), .int .i64 i, .int .i64 j] A fun v A' => v = .bool (lessI (nth L i) (nth L j)) ∧ Ext A A' := by
  obtain ⟨v, h1, h2, h3⟩ := h
  have hobt := h2.at (i := i) (by simpa using hi)
  obtain ⟨b, c, cs, rfl, rfl, h4, h5, h6⟩ := hobt
  have hobt := h2.at (i := j) (by simpa using hj)
  obtain ⟨b', c', cs', hb, hv, h4', h7, h8⟩ := hobt
  simp only [Option.some.injEq] at hb
  subst hb
  rw [h4] at h4'
  simp only [Option.some.injEq, Blk.row.injEq, and_true] at h4'
  subst h4'
  have e1 : List.take 3 (List.drop (i * 3) cs) = (nth L i).enc := by rw [h6, nth_eq hi]; simp
  have e2 : List.take 3 (List.drop (j * 3) cs) = (nth L j).enc := by rw [h8, nth_eq hj]; simp
  refine code148.call (by simp) fun hwf => ?_
  unfold c148
  simp [h1, h4, hi, hj, h5, h7, e1, e2]
  refine CN.use (qless_ok _ _ A) ?_
  rintro _ A1 - - ⟨rfl, hx⟩
  simp
  exact DN.of ⟨rfl, hx⟩
def Kq (A A' : AH) (q : Nat) (ob : Option Nat) : Prop := ∀ b, b < A.next → b ≠ q → ob ≠ some b → A'.get b = A.get b
theorem Kq.refl (A : AH) (q : Nat) (ob : Option Nat) : Kq A A q ob := fun _ _ _ _ => rfl
theorem Kq.ext {A B C : AH} {q : Nat} {ob : Option Nat} (h : Kq A B q ob) (hn : A.next ≤ B.next) (hx : Ext B C) : Kq A C q ob := fun b h1 h2 h3 => (hx b (by omega)).trans (h b h1 h2 h3)
theorem Kq.trans {A B C : AH} {q : Nat} {ob ob' : Option Nat} (h : Kq A B q ob) (hn : A.next ≤ B.next) (h' : Kq B C q ob') (ho : ob' = ob ∨ Fresh A.next ob') : Kq A C q ob := fun b h1 h2 h3 => (h' b (by omega) h2 (by
  rcases ho with rfl | ho
  · exact h3
  · intro e; have := ho b e; omega)).trans (h b h1 h2 h3)
theorem iswap_ok {A : AH} {q : Nat} {ob : Option Nat} {L : List It} (h : QS A q ob L) {i j : Nat} (hi : i < L.length) (hj : j < L.length) : ACall Tryz.prog 150 [.pointer (some ⟨q, 1, none⟩), .int .i64 i, .int .i64 j] A fun v A' => QS A' q ob (swp L i j) ∧ Kq A A' q ob := by
  obtain ⟨v, h1, h2, h3⟩ := h
  have hobt := h2.open2 (i := i) (j := j) (by simpa using hi) (by simpa using hj)
  obtain ⟨b, c, cs, rfl, rfl, h4, h5, h6, h7, h8, -, -, -, -, h9⟩ := hobt
  have hq : q ≠ b := fun e => h3 (by rw [e])
  have e1 : List.take 3 (List.drop (i * 3) cs) = (nth L i).enc := by rw [h7, nth_eq hi]; simp
  have e2 : List.take 3 (List.drop (j * 3) cs) = (nth L j).enc := by rw [h8, nth_eq hj]; simp
  have hl : ∀ x : It, x.enc.length = 3 := fun _ => rfl
  have hs : (spl cs (i * 3) (nth L j).enc).length = cs.length := spl_length _ _ _ (by rw [hl]; omega)
  have ho : ∀ x : It, (x.enc.all oneB) = true := fun _ => rfl
  refine code150.call (by simp) fun hwf => ?_
  unfold c150
  simp [h1, h4, hi, hj, h5, h6, e1, e2, AH.get_set, hq, hl, hs, ho]
  refine DN.of ⟨⟨_, by simp only [AH.get_set, if_neg hq, h1]; rfl, ?_, h3⟩, fun b' h1 h2 h3 => ?_⟩
  · have : (swp L i j).map It.enc = ((L.map It.enc).set i (nth L j).enc).set j (nth L i).enc := by unfold swp; rw [List.map_set, List.map_set]
    rw [this]
    simpa [nth_eq hi, nth_eq hj] using h9
  · simp only [AH.get_set]
    rw [if_neg (fun e => h3 (by rw [e]))]
theorem ipop_ok {A : AH} {q : Nat} {ob : Option Nat} {L : List It} {x : It} (h : QS A q ob (L ++ [x])) (hL : L.length ≤ 1000000) : ACall Tryz.prog 149 [.pointer (some ⟨q, 1, none⟩)] A fun v A' => v = .iface 185 (.agg x.enc.toArray) ∧ QS A' q ob L ∧ Kq A A' q ob := by
  obtain ⟨v, h1, h2, h3⟩ := h
  have hobt := h2.at (i := L.length) (by simp)
  obtain ⟨b, c, cs, rfl, rfl, h4, h5, h6⟩ := hobt
  have e1 : List.take 3 (List.drop (L.length * 3) cs) = x.enc := by rw [h6]; simp
  have h2' := h2
  rw [List.map_append] at h2'
  have hobt := h2'.pop (P := Tryz.prog) (by kernel_rfl) (k := .i64)
  obtain ⟨a, c', g1, g2, g3⟩ := hobt
  simp only [List.length_map, List.length_append, List.length_singleton] at g1 g2
  injection g1 with ga gl gc
  subst ga gc
  have g4 : ∀ C : AH, C.get b = A.get b → slW Tryz.prog 3 (some ⟨b, 0, none⟩) (L.length + 1) c none (some (.int .i64 (L.length : Nat))) none C = some (.slice (some ⟨b, 0, none⟩) L.length c) := fun C hC => by
    rw [← g2]; unfold slW; simp only [hC]
  refine code149.call (by simp) fun hwf => ?_
  unfold c149
  have hb : b < A.next := hwf _ _ h4
  have hq : q < A.next := hwf _ _ h1
  have hqb : q ≠ b := fun e => h3 (by rw [e])
  have hn1 : A.next ≠ q := by omega
  have hn2 : A.next ≠ b := by omega
  have hn3 : q ≠ A.next := by omega
  have hn4 : b ≠ A.next := by omega
  have hw : IntKind.i64.wrap (L.length : Int) = L.length := i64_in (by omega) (by omega)
  have hl : x.enc.length = 3 := rfl
  have ho : x.enc.all oneB = true := rfl
  have hmin : 3 = min 3 (cs.length - L.length * 3) := by omega
  have hmin2 : min 3 (cs.length - L.length * 3) = 3 := by omega
  have hmem : ∀ y ∈ x.enc, oneB y = true := List.all_eq_true.1 ho
  simp [h1, h4, h5, e1, hw, hmin2, hmem, AH.get_alloc, AH.get_set, hn1, hn2, hn3, hn4, hl]
  refine ⟨by omega, hmem, ?_⟩
  simp [g4 (A.alloc (.row x.enc 185 false)) (by rw [AH.get_alloc, if_neg hn4]), AH.get_alloc, AH.get_set, h1, hn1, hn2, hn3, hn4, hl]
  refine DN.of ⟨by rw [← hl, List.take_length], ⟨_, by rw [AH.get_set, if_pos rfl], ?_, h3⟩, fun b' k1 k2 k3 => ?_⟩
  · simp only [List.length_map] at g3
    refine g3.kept fun b' hb' => ?_
    injection hb' with hb'
    subst hb'
    rw [AH.get_set, if_neg (fun e => hqb e.symm), AH.get_alloc, if_neg hn4]
  · rw [AH.get_set, if_neg k2, AH.get_alloc, if_neg (by omega)]
theorem up_ok {A : AH} {q : Nat} {ob : Option Nat} {L : List It} {j : Nat} (h : QS A q ob L) (hL : L.length ≤ 1000000) (hj : j < L.length) (hu : UP L L.length j) : ACall Tryz.prog 123 [.iface 208 (.pointer (some ⟨q, 1, none⟩)), .int .i64 j] A fun v A' => ∃ L', QS A' q ob L' ∧ L'.Perm L ∧ HP L' L'.length ∧ Kq A A' q ob := by
  refine code123.call (by simp) fun hwf => ?_
  unfold c123
  simp
  refine LN.use (fun m E A' => ∃ (k : Nat) (L' : List It), m = k ∧ k < L.length ∧ QS A' q ob L' ∧ L'.Perm L ∧ UP L' L.length k ∧ Kq A A' q ob ∧ E.get 0 = .iface 208 (.pointer (some ⟨q, 1, none⟩)) ∧ E.get 1 = .int .i64 k) j
    ⟨j, L, rfl, hj, h, List.Perm.refl L, hu, Kq.refl _ _ _, by simp, by simp⟩ ?_
  rintro m E A1 hw1 hn1 ⟨k, L', rfl, hk, s1, p1, u1, k1, e0, e1⟩
  have hlen := p1.length_eq
  rcases Nat.eq_zero_or_pos m with rfl | hpos
  · have hw : IntKind.i64.wrap ((IntKind.i64.wrap (-1)).tdiv 2) = 0 := by decide
    simp [e0, e1, hw]
    refine DN.of ⟨L', s1, p1, ?_, k1⟩
    rw [hlen]; exact u1.fin (Or.inl rfl)
  · have hw : IntKind.i64.wrap ((IntKind.i64.wrap ((m : Int) - 1)).tdiv 2) = ((par m : Nat) : Int) := by
      rw [i64_in (x := (m : Int) - 1) (by omega) (by omega)]
      have : ((m : Int) - 1).tdiv 2 = ((par m : Nat) : Int) := by
        unfold par
        have : ((m : Int) - 1) = ((m - 1 : Nat) : Int) := by omega
        rw [this, Int.tdiv_eq_ediv_of_nonneg (by omega)]
        omega
      rw [this, i64_in (by unfold par; omega) (by unfold par; omega)]
    have hp : par m < m := by unfold par; omega
    have hne : ¬ ((par m : Nat) : Int) = m := by omega
    simp [e0, e1, hw, hne]
    refine CN.use (iless_ok s1 (i := m) (j := par m) (by omega) (by omega)) ?_
    rintro _ A2 hw2 hn2 ⟨rfl, x2⟩
    have s2 := s1.ext hw1 x2
    have k2 := k1.ext hn1 x2
    cases hl : lessI (nth L' m) (nth L' (par m)) with
    | false =>
      simp
      refine DN.of ⟨L', s2, p1, ?_, k2⟩
      rw [hlen]; exact u1.fin (Or.inr hl)
    | true =>
      simp [e0, e1]
      refine CN.use (iswap_ok s2 (i := par m) (j := m) (by omega) (by omega)) ?_
      rintro _ A3 hw3 hn3 ⟨s3, k3⟩
      simp
      exact NX.of ⟨par m, hp, par m, swp L' (par m) m, rfl, by omega, s3, (swp_perm (by omega) (by omega)).trans p1, u1.step (by omega) hpos hk hl, k2.trans (by omega) k3 (Or.inl rfl), by simp [e0], by simp⟩
set_option maxHeartbeats 2000000
theorem iless_at {A : AH} {q : Nat} {ob : Option Nat} {L : List It} {x y : Int} (h : QS A q ob L) {i j : Nat} (hx : x = i) (hy : y = j) (hi : i < L.length) (hj : j < L.length) : ACall Tryz.prog 148 [.pointer (some ⟨q, 1, none⟩), .int .i64 x, .int .i64 y] A fun v A' => v = .bool (lessI (nth L i) (nth L j)) ∧ Ext A A' := by
  subst hx hy; exact iless_ok h hi hj
theorem iswap_at {A : AH} {q : Nat} {ob : Option Nat} {L : List It} {x y : Int} (h : QS A q ob L) {i j : Nat} (hx : x = i) (hy : y = j) (hi : i < L.length) (hj : j < L.length) : ACall Tryz.prog 150 [.pointer (some ⟨q, 1, none⟩), .int .i64 x, .int .i64 y] A fun v A' => QS A' q ob (swp L i j) ∧ Kq A A' q ob := by
  subst hx hy; exact iswap_ok h hi hj
theorem down_leaf {A : AH} {q : Nat} {i n : Nat} (hi : i ≤ 1000000) (hn : n ≤ 1000000) (h : n ≤ 2 * i + 1) : ACall Tryz.prog 116 [.iface 208 (.pointer (some ⟨q, 1, none⟩)), .int .i64 i, .int .i64 n] A fun v A' => v = .bool false ∧ A' = A := by
  have hw1 : IntKind.i64.wrap (2 * (i : Int)) = 2 * i := i64_in (by omega) (by omega)
  have hw2 : IntKind.i64.wrap (2 * (i : Int) + 1) = 2 * i + 1 := i64_in (by omega) (by omega)
  have hle : (n : Int) ≤ 2 * i + 1 := by omega
  refine code116.call (by simp) fun hwf => ?_
  unfold c116
  simp
  refine LN.use (fun m E A' => A' = A ∧ E.get 0 = .iface 208 (.pointer (some ⟨q, 1, none⟩)) ∧ E.get 1 = .int .i64 i ∧ E.get 2 = .int .i64 n ∧ E.get 7 = .int .i64 i) 0
    ⟨rfl, by simp, by simp, by simp, by simp⟩ ?_
  rintro m E A1 hwA hnA ⟨rfl, e0, e1, e2, e7⟩
  simp [e0, e1, e2, e7, hw1, hw2, hle]
  exact DN.of ⟨rfl, rfl⟩
theorem down_ok {A : AH} {q : Nat} {ob : Option Nat} {L : List It} {i n : Nat} (h : QS A q ob L) (hL : L.length ≤ 1000000) (hi : i ≤ n) (hn : n ≤ L.length) (hd : DW L n i) : ACall Tryz.prog 116 [.iface 208 (.pointer (some ⟨q, 1, none⟩)), .int .i64 i, .int .i64 n] A fun v A' => ∃ L', QS A' q ob L' ∧ L'.Perm L ∧ HP L' n ∧ (∀ k, n ≤ k → nth L' k = nth L k) ∧ Kq A A' q ob := by
  refine code116.call (by simp) fun hwf => ?_
  unfold c116
  simp
  refine LN.use (fun m E A' => ∃ (k : Nat) (L' : List It), m + k = n ∧ QS A' q ob L' ∧ L'.Perm L ∧ DW L' n k ∧ (∀ i, n ≤ i → nth L' i = nth L i) ∧ Kq A A' q ob ∧ E.get 0 = .iface 208 (.pointer (some ⟨q, 1, none⟩)) ∧ E.get 1 = .int .i64 i ∧ E.get 2 = .int .i64 n ∧ E.get 7 = .int .i64 k) (n - i)
    ⟨i, L, by omega, h, List.Perm.refl L, hd, fun _ _ => rfl, Kq.refl _ _ _, by simp, by simp, by simp, by simp⟩ ?_
  rintro m E A1 hw1 hn1 ⟨k, L', hmk, s1, p1, d1, z1, k1, e0, e1, e2, e7⟩
  have hlen := p1.length_eq
  have cw1 : IntKind.i64.wrap (2 * (k : Int)) = 2 * k := i64_in (by omega) (by omega)
  have cw2 : IntKind.i64.wrap (2 * (k : Int) + 1) = 2 * k + 1 := i64_in (by omega) (by omega)
  have cw3 : IntKind.i64.wrap (2 * (k : Int) + 1 + 1) = 2 * k + 1 + 1 := i64_in (by omega) (by omega)
  have cast1 : (2 * (k : Int) + 1) = ((2 * k + 1 : Nat) : Int) := by omega
  have cast2 : (2 * (k : Int) + 1 + 1) = ((2 * k + 1 + 1 : Nat) : Int) := by omega
  by_cases hend : (n : Int) ≤ 2 * k + 1
  · simp [e0, e1, e2, e7, cw1, cw2, hend]
    refine DN.of ⟨L', s1, p1, ?_, z1, k1⟩
    refine d1.fin fun i h0 h1 h2 => ?_
    unfold par at h2; omega
  have hneg : ¬ (2 * (k : Int) + 1 < 0) := by omega
  have hkids : ∀ i, 0 < i → par i = k → i = 2 * k + 1 ∨ i = 2 * k + 1 + 1 := fun i h0 h2 => by unfold par at h2; omega
  by_cases h2 : 2 * (k : Int) + 1 + 1 < n
  · simp [e0, e1, e2, e7, cw1, cw2, cw3, hend, hneg, h2]
    refine CN.use (iless_at s1 (i := 2 * k + 1 + 1) (j := 2 * k + 1) cast2 cast1 (by omega) (by omega)) ?_
    rintro _ A2 hw2 hn2 ⟨rfl, x2⟩
    have s2 := s1.ext hw1 x2
    have k2 := k1.ext hn1 x2
    cases hc : lessI (nth L' (2 * k + 1 + 1)) (nth L' (2 * k + 1)) with
    | true =>
      have hmin : ∀ i, 0 < i → i < n → par i = k → leI (nth L' (2 * k + 1 + 1)) (nth L' i) := fun i h0 h1 h2 => by
        rcases hkids i h0 h2 with rfl | rfl
        · exact less_le hc
        · exact le_refl' _
      simp [e0, e7]
      refine CN.use (iless_at s2 (i := 2 * k + 1 + 1) (j := k) cast2 rfl (by omega) (by omega)) ?_
      rintro _ A3 hw3 hn3 ⟨rfl, x3⟩
      have s3 := s2.ext hw2 x3
      have k3 := k2.ext (by omega) x3
      cases hl : lessI (nth L' (2 * k + 1 + 1)) (nth L' k) with
      | false =>
        simp [e1, e7]
        refine DN.of ⟨L', s3, p1, ?_, z1, k3⟩
        refine d1.fin fun i h0 h1 h2 => ?_
        exact le_trans' hl (hmin i h0 h1 h2)
      | true =>
        simp [e0, e7]
        refine CN.use (iswap_at s3 (i := k) (j := 2 * k + 1 + 1) rfl cast2 (by omega) (by omega)) ?_
        rintro _ A4 hw4 hn4 ⟨s4, k4⟩
        simp [e1, e2]
        exact NX.of ⟨n - (2 * k + 1 + 1), by omega, 2 * k + 1 + 1, swp L' k (2 * k + 1 + 1), by omega, s4, (swp_perm (by omega) (by omega)).trans p1, d1.step (by omega) (by unfold par; omega) (by omega) (by omega) hmin hl, fun i hi => by { rw [nth_swp (by omega) (by omega), if_neg (by omega), if_neg (by omega)]; exact z1 i hi }, k3.trans (by omega) k4 (Or.inl rfl), by simp [e0], by simp [e1], by simp [e2], by simp⟩
    | false =>
      have hmin : ∀ i, 0 < i → i < n → par i = k → leI (nth L' (2 * k + 1)) (nth L' i) := fun i h0 h1 h2 => by
        rcases hkids i h0 h2 with rfl | rfl
        · exact le_refl' _
        · exact hc
      simp [e0, e7]
      refine CN.use (iless_at s2 (i := 2 * k + 1) (j := k) cast1 rfl (by omega) (by omega)) ?_
      rintro _ A3 hw3 hn3 ⟨rfl, x3⟩
      have s3 := s2.ext hw2 x3
      have k3 := k2.ext (by omega) x3
      cases hl : lessI (nth L' (2 * k + 1)) (nth L' k) with
      | false =>
        simp [e1, e7]
        refine DN.of ⟨L', s3, p1, ?_, z1, k3⟩
        refine d1.fin fun i h0 h1 h2 => ?_
        exact le_trans' hl (hmin i h0 h1 h2)
      | true =>
        simp [e0, e7]
        refine CN.use (iswap_at s3 (i := k) (j := 2 * k + 1) rfl cast1 (by omega) (by omega)) ?_
        rintro _ A4 hw4 hn4 ⟨s4, k4⟩
        simp [e1, e2]
        exact NX.of ⟨n - (2 * k + 1), by omega, 2 * k + 1, swp L' k (2 * k + 1), by omega, s4, (swp_perm (by omega) (by omega)).trans p1, d1.step (by omega) (by unfold par; omega) (by omega) (by omega) hmin hl, fun i hi => by { rw [nth_swp (by omega) (by omega), if_neg (by omega), if_neg (by omega)]; exact z1 i hi }, k3.trans (by omega) k4 (Or.inl rfl), by simp [e0], by simp [e1], by simp [e2], by simp⟩
  · have hmin : ∀ i, 0 < i → i < n → par i = k → leI (nth L' (2 * k + 1)) (nth L' i) := fun i h0 h1 h2 => by
      rcases hkids i h0 h2 with rfl | rfl
      · exact le_refl' _
      · omega
    simp [e0, e1, e2, e7, cw1, cw2, cw3, hend, hneg, h2]
    have s2 := s1
    have k2 := k1
    have hw2 := hw1
    refine CN.use (iless_at s2 (i := 2 * k + 1) (j := k) cast1 rfl (by omega) (by omega)) ?_
    rintro _ A3 hw3 hn3 ⟨rfl, x3⟩
    have s3 := s2.ext hw2 x3
    have k3 := k2.ext (by omega) x3
    cases hl : lessI (nth L' (2 * k + 1)) (nth L' k) with
    | false =>
      simp [e1, e7]
      refine DN.of ⟨L', s3, p1, ?_, z1, k3⟩
      refine d1.fin fun i h0 h1 h2 => ?_
      exact le_trans' hl (hmin i h0 h1 h2)
    | true =>
      simp [e0, e7]
      refine CN.use (iswap_at s3 (i := k) (j := 2 * k + 1) rfl cast1 (by omega) (by omega)) ?_
      rintro _ A4 hw4 hn4 ⟨s4, k4⟩
      simp [e1, e2]
      exact NX.of ⟨n - (2 * k + 1), by omega, 2 * k + 1, swp L' k (2 * k + 1), by omega, s4, (swp_perm (by omega) (by omega)).trans p1, d1.step (by omega) (by unfold par; omega) (by omega) (by omega) hmin hl, fun i hi => by { rw [nth_swp (by omega) (by omega), if_neg (by omega), if_neg (by omega)]; exact z1 i hi }, k3.trans (by omega) k4 (Or.inl rfl), by simp [e0], by simp [e1], by simp [e2], by simp⟩
theorem nth_left {M : List It} {x : It} {i : Nat} (h : i < M.length) : nth (M ++ [x]) i = nth M i := by
  rw [nth_eq (by simp; omega), nth_eq h, List.getElem_append_left h]
theorem UP.last {M : List It} (x : It) (h : HP M M.length) : UP (M ++ [x]) (M ++ [x]).length M.length := by
  have hp : ∀ i, 0 < i → par i < i := fun i h => by unfold par; omega
  refine ⟨fun i h0 h1 h2 => ?_, fun i h0 h1 h2 h3 => ?_⟩
  · simp at h1
    have := hp i h0
    rw [nth_left (by omega), nth_left (by omega)]
    exact h i h0 (by omega)
  · simp at h1
    have := hp i h0
    omega
theorem fix_ok {A : AH} {q : Nat} {ob : Option Nat} {M : List It} {x : It} (h : QS A q ob (M ++ [x])) (hL : M.length ≤ 100000) (hh : HP M M.length) : ACall Tryz.prog 114 [.iface 208 (.pointer (some ⟨q, 1, none⟩)), .int .i64 (M.length : Nat)] A fun v A' => ∃ L', QS A' q ob L' ∧ L'.Perm (M ++ [x]) ∧ HP L' L'.length ∧ Kq A A' q ob := by
  refine code114.call (by simp) fun hwf => ?_
  unfold c114
  simp
  refine CN.use (ilen_ok h) ?_
  rintro _ _ - - ⟨rfl, rfl⟩
  simp
  refine CN.use (down_leaf (i := M.length) (n := M.length + 1) (by omega) (by omega) (by omega)) ?_
  rintro _ _ - - ⟨rfl, rfl⟩
  simp
  refine CN.use (up_ok h (by simp; omega) (by simp) (UP.last x hh)) ?_
  rintro _ A1 - - ⟨L', h1, h2, h3, h4⟩
  simp
  exact DN.of ⟨L', h1, h2, h3, h4⟩
def QH (A : AH) (q : Nat) (ob : Option Nat) (L : List It) : Prop := QS A q ob L ∧ HP L L.length
theorem QH.ext {A A' : AH} {q : Nat} {ob : Option Nat} {L : List It} (h : QH A q ob L) (hw : A.wf) (hx : Ext A A') : QH A' q ob L := ⟨h.1.ext hw hx, h.2⟩
theorem hpop_ok {A : AH} {q : Nat} {ob : Option Nat} {L : List It} (h : QH A q ob L) (h0 : 0 < L.length) (hL : L.length ≤ 100000) : ACall Tryz.prog 106 [.iface 208 (.pointer (some ⟨q, 1, none⟩))] A fun v A' => ∃ L' x, v = .iface 185 (.agg x.enc.toArray) ∧ QH A' q ob L' ∧ L.Perm (x :: L') ∧ (∀ y ∈ L, leI x y) ∧ Kq A A' q ob := by
  obtain ⟨n, hn⟩ : ∃ n, L.length = n + 1 := ⟨L.length - 1, by omega⟩
  have hw : IntKind.i64.wrap ((L.length : Int) - 1) = (n : Nat) := by rw [i64_in (by omega) (by omega)]; omega
  refine code106.call (by simp) fun hwf => ?_
  unfold c106
  simp
  refine CN.use (ilen_ok h.1) ?_
  rintro _ _ - - ⟨rfl, rfl⟩
  simp [hw]
  refine CN.use (iswap_at h.1 (i := 0) (j := n) rfl rfl (by omega) (by omega)) ?_
  rintro _ A1 hw1 hn1 ⟨s1, k1⟩
  have hl1 := swp_len L 0 n
  simp
  have hcut := HP.cut (n := n) (by rw [← hn]; exact h.2) hn
  refine CN.use (down_ok (i := 0) (n := n) s1 (by omega) (by omega) (by omega) hcut) ?_
  rintro _ A2 hw2 hn2 ⟨L2, s2, p2, h2, z2, k2⟩
  have hl2 := p2.length_eq
  simp
  have hmin : nth L2 n = nth L 0 := by rw [z2 n (Nat.le_refl _), nth_swp (by omega) (by omega), if_pos rfl]
  have hsplit : ∃ M, L2 = M ++ [nth L 0] ∧ M.length = n := by
    have hne : L2 ≠ [] := fun e => by rw [e] at hl2; simp at hl2; omega
    refine ⟨L2.dropLast, ?_, by simp; omega⟩
    rw [← hmin, nth_eq (by omega)]
    have := List.dropLast_concat_getLast hne
    rw [List.getLast_eq_getElem] at this
    simp only [show L2.length - 1 = n from by omega] at this
    exact this.symm
  obtain ⟨M, rfl, hM⟩ := hsplit
  refine CN.use (ipop_ok s2 (by omega)) ?_
  rintro _ A3 hw3 hn3 ⟨rfl, s3, k3⟩
  simp
  refine DN.of ⟨M, nth L 0, rfl, ⟨s3, fun i h0 h1 => ?_⟩, ?_, fun y hy => ?_, (k1.trans hn1 k2 (Or.inl rfl)).trans (by omega) k3 (Or.inl rfl)⟩
  · have hp : par i < i := by unfold par; omega
    have := h2 i h0 (by omega)
    rw [nth_left (by omega), nth_left (by omega)] at this
    exact this
  · have hp := (p2.trans (swp_perm (by omega) (by omega))).symm
    exact hp.trans List.perm_append_comm
  · obtain ⟨i, hi, rfl⟩ := List.getElem_of_mem hy
    rw [← nth_eq hi]
    exact h.2.min i hi
def Kn' (A A' : AH) (q : Nat) (ob ob' : Option Nat) : Prop := Kq A A' q ob ∧ (ob' = ob ∨ Fresh A.next ob')
theorem push_ok {A : AH} {q : Nat} {ob : Option Nat} {L : List It} (h : QH A q ob L) (x : It) (hL : L.length < 1024) : ACall Tryz.prog 103 [.pointer (some ⟨q, 0, none⟩), .agg x.enc.toArray] A fun v A' => ∃ L' ob', QH A' q ob' L' ∧ L'.Perm (x :: L) ∧ Kn' A A' q ob ob' := by
  refine code103.call (by simp) fun hwf => ?_
  unfold c103
  have hx0 := Ext.alloc A (.row x.enc 185 false)
  have hw0 := AH.wf_alloc hwf (.row x.enc 185 false)
  have h0 := h.1.ext hwf hx0
  have hnl : ¬ (1024 : Int) ≤ L.length := by omega
  simp
  refine CN.use (good_ok h0) ?_
  rintro _ _ - - ⟨rfl, rfl⟩
  simp
  refine CN.use (qlen_ok h0) ?_
  rintro _ _ - - ⟨rfl, rfl⟩
  obtain ⟨v, h1, h2, h3⟩ := h0
  have hxe : x.enc.length = 3 ∧ x.enc.all oneB = true := ⟨rfl, rfl⟩
  have hxl : x.enc.length = 3 := rfl
  have hobt := h2.push (y := 24) hw0 hxe (by omega) (by omega) (by simp; omega) (by simp; omega)
  obtain ⟨v', A2, ob', g1, g2, g3, g4, g5⟩ := hobt
  have hobt := h2.sl
  obtain ⟨a, c, rfl, -⟩ := hobt
  have hobt := g2.sl
  obtain ⟨a', c', rfl, -⟩ := hobt
  have hqn := hw0 _ _ h1
  have hq2 := (g3 q hqn h3).trans h1
  simp only [List.length_map] at h1 g1
  simp only [AH.next_alloc] at g1
  have hobt := h.1
  obtain ⟨v0, hA1, -, -⟩ := hobt
  have hqa : q ≠ A.next := by have := hwf _ _ hA1; omega
  have hAq := h1
  rw [AH.get_alloc, if_neg hqa] at hAq
  simp only [List.length_map] at hq2
  have ht : List.take 3 x.enc = x.enc := rfl
  have hw : IntKind.i64.wrap (L.length : Int) = L.length := i64_in (by omega) (by omega)
  have hobq : ob' ≠ some q := by
    rcases g4 with rfl | rfl
    · exact h3
    · intro e; injection e with e; simp only [AH.next_alloc] at e hqn; omega
  have s3 : QS (A2.set q (.row [.bool true, .slice a' (L.length + 1) c'] 203 false)) q ob' (L ++ [x]) := by
    refine ⟨_, by rw [AH.get_set, if_pos rfl], ?_, hobq⟩
    have := g2.kept (A' := A2.set q (.row [.bool true, .slice a' (L.length + 1) c'] 203 false)) fun b hb => by rw [AH.get_set, if_neg (fun e => hobq (by rw [hb, e]))]
    simpa using this
  simp [hnl, hAq, hqa, AH.get_alloc, g1, hq2, hxl, AH.get_set, ht, hw]
  refine CN.use (fix_ok s3 (by omega) h.2) ?_
  rintro _ A3 hw3 hn3 ⟨L', s4, p4, hp4, k4⟩
  simp
  simp only [AH.next_set, AH.next_alloc] at *
  refine DN.of ⟨L', ob', ⟨s4, hp4⟩, p4.trans List.perm_append_comm, fun b b1 b2 b3 => ?_, ?_⟩
  · rw [k4 b (by simp only [AH.next_set]; omega) b2 (by
      rcases g4 with rfl | rfl
      · exact b3
      · intro e; injection e with e; omega), AH.get_set, if_neg b2, g3 b (by omega) b3, AH.get_alloc, if_neg (by omega)]
  · rcases g4 with rfl | rfl
    · exact Or.inl rfl
    · exact Or.inr (Fresh.yes (by omega))
theorem pop_none {A : AH} {q : Nat} {ob : Option Nat} (h : QH A q ob []) : ACall Tryz.prog 95 [.pointer (some ⟨q, 0, none⟩)] A fun v A' => v = .tuple #[.agg (⟨0, 0, 0⟩ : It).enc.toArray, .int .i64 8] ∧ Ext A A' := by
  refine code95.call (by simp) fun hwf => ?_
  unfold c95
  simp
  have hx0 := Ext.alloc A (.row [.int .i64 0, .int .i64 0, .int .i64 0] 185 false)
  have h0 := h.1.ext hwf hx0
  refine CN.use (good_ok h0) ?_
  rintro _ _ - - ⟨rfl, rfl⟩
  simp
  refine CN.use (qlen_ok h0) ?_
  rintro _ _ - - ⟨rfl, rfl⟩
  simp
  exact DN.of ⟨rfl, hx0⟩
theorem pop_ok {A : AH} {q : Nat} {ob : Option Nat} {L : List It} (h : QH A q ob L) (h0 : 0 < L.length) (hL : L.length ≤ 100000) : ACall Tryz.prog 95 [.pointer (some ⟨q, 0, none⟩)] A fun v A' => ∃ L' x, v = .tuple #[.agg x.enc.toArray, .int .i64 0] ∧ QH A' q ob L' ∧ L.Perm (x :: L') ∧ (∀ y ∈ L, leI x y) ∧ Kq A A' q ob := by
  refine code95.call (by simp) fun hwf => ?_
  unfold c95
  simp
  have hx0 := Ext.alloc A (.row [.int .i64 0, .int .i64 0, .int .i64 0] 185 false)
  have g0 := h.ext hwf hx0
  refine CN.use (good_ok g0.1) ?_
  rintro _ _ - - ⟨rfl, rfl⟩
  simp
  refine CN.use (qlen_ok g0.1) ?_
  rintro _ _ - - ⟨rfl, rfl⟩
  have hne : ¬ L = [] := fun e => by rw [e] at h0; simp at h0
  simp [hne]
  refine CN.use (hpop_ok g0 h0 hL) ?_
  rintro _ A1 hw1 hn1 ⟨L', x, rfl, s1, p1, m1, k1⟩
  have hxl : x.enc.length = 3 := rfl
  have hoc : ∀ y ∈ x.enc, oneB y = true := List.all_eq_true.1 (rfl : x.enc.all oneB = true)
  have hob : ∀ b, ob = some b → b < A.next := fun b hb => by
    have hobt := h.1
    obtain ⟨v, h1, h2, h3⟩ := hobt
    exact h2.lt hwf hb
  have hqn : q < A.next := by
    have hobt := h.1
    obtain ⟨v, h1, h2, h3⟩ := hobt
    exact hwf _ _ h1
  have hA : A1.get A.next = some (.row [.int .i64 0, .int .i64 0, .int .i64 0] 185 false) := by
    rw [k1 A.next (by simp) (by omega) (fun e => by have := hob _ e; omega), AH.get_new]
  simp only [AH.next_alloc] at hn1
  have hn2 : ¬ A1.next = A.next := by omega
  have hn3 : ¬ A.next = A1.next := by omega
  have ht : List.take 3 x.enc = x.enc := rfl
  simp [hA, AH.get_alloc, AH.get_set, hxl, hn2, hn3, ht]
  have keep : ∀ b, b < A.next → ((A1.alloc (.row x.enc 185 false)).set A.next (.row x.enc 185 false)).get b = A1.get b := fun b hb => by
    rw [AH.get_set, if_neg (by omega), AH.get_alloc, if_neg (by omega)]
  refine ⟨hoc, DN.of ⟨L', x, rfl, ⟨s1.1.kept (keep q hqn) fun b hb => keep b (hob b hb), s1.2⟩, p1, m1, fun b b1 b2 b3 => ?_⟩⟩
  rw [keep b b1, k1 b (by simp only [AH.next_alloc]; omega) b2 b3, AH.get_alloc, if_neg (by omega)]
theorem qnew_ok (A : AH) : ACall Tryz.prog 93 [] A fun v A' => v = .pointer (some ⟨A.next, 0, none⟩) ∧ QH A' A.next none [] ∧ Ext A A' := by
  refine code93.call (by simp) fun hwf => ?_
  unfold c93
  simp
  exact DN.of ⟨rfl, ⟨⟨_, AH.get_new _ _, Lq.nil _ _ _, by simp⟩, fun i h0 h1 => by simp at h1⟩, Ext.alloc A _⟩
def Ko (A A' : AH) (ob : Option Nat) : Prop := ∀ b, b < A.next → ob ≠ some b → A'.get b = A.get b
theorem Ko.refl (A : AH) (ob : Option Nat) : Ko A A ob := fun _ _ _ => rfl
theorem sw_perm {l : List Int} {i j : Nat} (hi : i < l.length) (hj : j < l.length) : ((l.set i l[j]).set j l[i]).Perm l := List.set_set_perm hi hj
theorem isort_ok {A : AH} {ob : Option Nat} {v cv : Value} {L : List Int} (h : Lq A 3 1 ob v (ints L)) (hL : L.length ≤ 100000) (f : FuncId)
    (hf : ∀ (A1 : AH) (x y : Int), Ko A A1 ob → x ∈ L → y ∈ L → ACall Tryz.prog f [.int .i64 x, .int .i64 y, cv] A1 fun v A' => (∃ n, v = .int .i64 n) ∧ A' = A1) :
    ACall Tryz.prog 128 [v, .int .i64 0, .int .i64 L.length, .func (.func f) #[] #[cv]] A fun _ A' => ∃ L', L'.Perm L ∧ Lq A' 3 1 ob v (ints L') ∧ Ko A A' ob ∧ A'.next = A.next := by
  refine code128.call (by simp) fun hwf => ?_
  unfold c128
  have hw1 : IntKind.i64.wrap 1 = 1 := by decide
  simp [hw1]
  refine LN.use (fun m E A' => ∃ (k : Nat) (L' : List Int), m = L.length - k ∧ 1 ≤ k ∧ L'.Perm L ∧ Lq A' 3 1 ob v (ints L') ∧ Ko A A' ob ∧ A'.next = A.next ∧ E.get 0 = v ∧ E.get 1 = .int .i64 0 ∧ E.get 2 = .int .i64 L.length ∧ E.get 3 = .func (.func f) #[] #[cv] ∧ E.get 8 = .int .i64 k) (L.length - 1)
    ⟨1, L, rfl, Nat.le_refl _, List.Perm.refl L, h, Ko.refl _ _, rfl, by simp, by simp, by simp, by simp, by simp⟩ ?_
  rintro m E A1 hwA hnA ⟨k, L1, rfl, hk1, p1, h1, k1, n1, e0, e1, e2, e3, e8⟩
  have hlen := p1.length_eq
  by_cases hlt : (k : Int) < L.length
  · simp [e0, e1, e2, e3, e8, hlt]
    refine LN.use (fun m E A' => ∃ (j : Nat) (L' : List Int), m = j ∧ j < L.length ∧ L'.Perm L ∧ Lq A' 3 1 ob v (ints L') ∧ Ko A A' ob ∧ A'.next = A.next ∧ E.get 0 = v ∧ E.get 1 = .int .i64 0 ∧ E.get 2 = .int .i64 L.length ∧ E.get 3 = .func (.func f) #[] #[cv] ∧ E.get 8 = .int .i64 k ∧ E.get 9 = .int .i64 j) k
      ⟨k, L1, rfl, by omega, p1, h1, k1, n1, by simp [e0], by simp [e1], by simp [e2], by simp [e3], by simp [e8], by simp⟩ ?_
    rintro m E A2 hwB hnB ⟨j, L2, rfl, hj, p2, h2, k2, n2, e0, e1, e2, e3, e8, e9⟩
    have hlen2 := p2.length_eq
    rcases Nat.eq_zero_or_pos m with rfl | hpos
    · simp [e0, e1, e2, e3, e8, e9]
      exact NX.of ⟨L.length - (k + 1), by omega, k + 1, L2, rfl, by omega, p2, h2, k2, n2, by simp [e0], by simp [e1], by simp [e2], by simp [e3], by simp [i64_in (x := (k : Int) + 1) (by omega) (by omega)]⟩
    · have hgt : (0 : Int) < m := by omega
      have hw2 : IntKind.i64.wrap ((m : Int) - 1) = ((m - 1 : Nat) : Int) := by rw [i64_in (by omega) (by omega)]; omega
      have hobt := h2.open2 (i := m) (j := m - 1) (by simp; omega) (by simp; omega)
      obtain ⟨b, c, cs, hob, hv, h3, h4, h5, h6, h7, -, -, -, -, h8⟩ := hobt
      subst hv
      have hg1 : cs[m]? = some (.int .i64 (L2[m]'(by omega))) := by
        have := at_cell (i := 0) h6 (by omega)
        simpa [ints] using this
      have hg2 : cs[m - 1]? = some (.int .i64 (L2[m - 1]'(by omega))) := by
        have := at_cell (i := 0) h7 (by omega)
        simpa [ints] using this
      have hm1 : m - 1 < L2.length := by omega
      have hm2 : m < L2.length := by omega
      have hm3 : m ≤ L2.length := by omega
      simp [e0, e1, e2, e3, e8, e9, hgt, hw2, h3, hg1, hg2, hm1, hm2, hm3, hpos]
      refine CN.use (hf A2 _ _ k2 (p2.mem_iff.1 (List.getElem_mem hm2)) (p2.mem_iff.1 (List.getElem_mem hm1))) ?_
      rintro _ _ - - ⟨⟨r, rfl⟩, rfl⟩
      by_cases hr : r < 0
      · have hl1 : (spl cs m [Value.int .i64 (L2[m - 1]'hm1)]).length = cs.length := spl_length _ _ _ (by simp; omega)
        have hfit : m + 1 ≤ cs.length := by omega
        have hfit2 : m - 1 + 1 ≤ cs.length := by omega
        simp [e0, e1, e2, e3, e8, e9, hr, hw2, h3, hg1, hg2, hm1, hm2, hm3, hpos, hl1, hfit, hfit2, AH.get_set]
        have e : ints ((L2.set m (L2[m - 1]'hm1)).set (m - 1) (L2[m]'hm2)) = ((ints L2).set m [Value.int .i64 (L2[m - 1]'hm1)]).set (m - 1) [Value.int .i64 (L2[m]'hm2)] := by unfold ints; rw [List.map_set, List.map_set]
        rw [show (ints L2)[m - 1]'(by simp; omega) = [Value.int .i64 (L2[m - 1]'hm1)] from by simp [ints], show (ints L2)[m]'(by simp; omega) = [Value.int .i64 (L2[m]'hm2)] from by simp [ints], ← e] at h8
        simp only [Nat.mul_one] at h8
        refine NX.of ⟨m - 1, by omega, m - 1, _, rfl, by omega, (sw_perm hm2 hm1).trans p2, h8, fun b' g1 g2 => ?_, n2, by simp [e0], by simp [e1], by simp [e2], by simp [e3], by simp [e8], by simp [hw2]⟩
        rw [AH.get_set, if_neg (fun e => g2 (by rw [hob, e]))]; exact k2 b' g1 g2
      · simp [hr, e8]
        exact NX.of ⟨L.length - (k + 1), by omega, k + 1, L2, rfl, by omega, p2, h2, k2, n2, by simp [e0], by simp [e1], by simp [e2], by simp [e3], by simp [i64_in (x := (k : Int) + 1) (by omega) (by omega)]⟩
  · simp [e2, e8, hlt]
    exact DN.of ⟨L1, p1, h1, k1, n1⟩
theorem stab_ok {A : AH} {ob : Option Nat} {v cv : Value} {L : List Int} (h : Lq A 3 1 ob v (ints L)) (hL : L.length < 20) (f : FuncId)
    (hf : ∀ (A1 : AH) (x y : Int), Ko A A1 ob → x ∈ L → y ∈ L → ACall Tryz.prog f [.int .i64 x, .int .i64 y, cv] A1 fun v A' => (∃ n, v = .int .i64 n) ∧ A' = A1) :
    ACall Tryz.prog 124 [v, .int .i64 L.length, .func (.func f) #[] #[cv]] A fun _ A' => ∃ L', L'.Perm L ∧ Lq A' 3 1 ob v (ints L') ∧ Ko A A' ob ∧ A'.next = A.next := by
  refine code124.call (by simp) fun hwf => ?_
  unfold c124
  have h20 : ¬ (20 : Int) ≤ L.length := by omega
  have h21 : ¬ (20 : Int) < L.length := by omega
  simp
  refine LN.use (fun m E A' => A' = A ∧ E.get 0 = v ∧ E.get 1 = .int .i64 L.length ∧ E.get 2 = .func (.func f) #[] #[cv] ∧ E.get 6 = .int .i64 20 ∧ E.get 7 = .int .i64 0 ∧ E.get 8 = .int .i64 20) 0
    ⟨rfl, by simp, by simp, by simp, by simp, by simp, by simp⟩ ?_
  rintro m E A1 hwA hnA ⟨rfl, e0, e1, e2, e6, e7, e8⟩
  simp [e0, e1, e2, e6, e7, e8, h20]
  refine CN.use (isort_ok h (by omega) f hf) ?_
  rintro _ A2 hw2 hn2 ⟨L', p, h1, k1, n1⟩
  simp
  refine LN.use (fun m E A' => A' = A2 ∧ E.get 1 = .int .i64 L.length ∧ E.get 6 = .int .i64 20) 0
    ⟨rfl, by simp [e1], by simp [e6]⟩ ?_
  rintro m E A3 hwB hnB ⟨rfl, e1, e6⟩
  simp [e1, e6, h21]
  exact DN.of ⟨L', p, h1, k1, n1⟩
theorem sort_ok {A : AH} {ob : Option Nat} {v cv : Value} {L : List Int} (h : Lq A 3 1 ob v (ints L)) (hL : L.length < 20) (f : FuncId)
    (hf : ∀ (A1 : AH) (x y : Int), Ko A A1 ob → x ∈ L → y ∈ L → ACall Tryz.prog f [.int .i64 x, .int .i64 y, cv] A1 fun v A' => (∃ n, v = .int .i64 n) ∧ A' = A1) :
    ACall Tryz.prog 117 [v, .func (.func f) #[] #[cv]] A fun _ A' => ∃ L', L'.Perm L ∧ Lq A' 3 1 ob v (ints L') ∧ Ko A A' ob ∧ A'.next = A.next := by
  have hobt := h.sl
  obtain ⟨a, c, rfl, -⟩ := hobt
  rw [ints_len] at h
  refine code117.call (by simp) fun hwf => ?_
  unfold c117
  simp
  refine CN.use (stab_ok h hL f hf) ?_
  rintro _ A2 hw2 hn2 ⟨L', p, h1, k1, n1⟩
  simp
  exact DN.of ⟨L', p, by simpa using h1, k1, n1⟩
def Lk0 : Lk := ⟨0, 0, 0, 0, 0⟩
def lk (ks : List Lk) (i : Nat) : Lk := ks.getD i Lk0
theorem lk_eq {ks : List Lk} {i : Nat} (h : i < ks.length) : lk ks i = ks[i] := by simp [lk, List.getD, h]
def outsN (ks : List Lk) (x : Int) (k : Nat) : List Int := ((List.range k).filter fun i => decide ((lk ks i).f = x)).map Int.ofNat
theorem outsN_succ (ks : List Lk) (x : Int) (k : Nat) : outsN ks x (k + 1) = outsN ks x k ++ if (lk ks k).f = x then [(k : Int)] else [] := by
  unfold outsN
  rw [List.range_succ, List.filter_append, List.map_append]
  by_cases h : (lk ks k).f = x <;> simp [h]
theorem outsN_mem {ks : List Lk} {x i : Int} {k : Nat} : i ∈ outsN ks x k ↔ ∃ j : Nat, j < k ∧ i = j ∧ (lk ks j).f = x := by
  unfold outsN
  simp only [List.mem_map, List.mem_filter, List.mem_range, decide_eq_true_eq]
  constructor
  · rintro ⟨j, ⟨h1, h2⟩, rfl⟩; exact ⟨j, h1, rfl, h2⟩
  · rintro ⟨j, h1, rfl, h2⟩; exact ⟨j, ⟨h1, h2⟩, rfl⟩
theorem lks_at {A : AH} {a : Option Addr} {ks : List Lk} (h : Sl A 79 5 a (ks.map Lk.enc)) {i : Nat} (hi : i < ks.length) :
    ∃ b o cs, ∃ q : TypeId × Bool, a = some ⟨b, o, none⟩ ∧ A.get b = some (.row cs q.1 q.2) ∧ o + i * 5 + 5 ≤ cs.length ∧ (cs.drop (o + i * 5)).take 5 = (lk ks i).enc ∧ cs[o + i * 5]? = some (.int .i64 (lk ks i).f) ∧ cs[o + i * 5 + 1]? = some (.int .i64 (lk ks i).t) ∧ cs[o + i * 5 + 3]? = some (.int .i64 (lk ks i).m) := by
  have hobt := h.at (i := i) (by simpa using hi)
  obtain ⟨b, o, cs, q, h1, h2, h3, h4⟩ := hobt
  rw [List.getElem_map, ← lk_eq hi] at h4
  refine ⟨b, o, cs, q, h1, h2, h3, h4, ?_, ?_, ?_⟩
  · have := at_cell (i := 0) h4 (by omega); simpa [Lk.enc] using this
  · have := at_cell (i := 1) h4 (by omega); simpa [Lk.enc] using this
  · have := at_cell (i := 3) h4 (by omega); simpa [Lk.enc] using this
theorem outs1_ok {A : AH} {a : Option Addr} {c p : Nat} {ks : List Lk} (h : Sl A 79 5 a (ks.map Lk.enc)) (hb : A.get p = some (.row [.slice a ks.length c] 80 false)) {x y : Nat} (hx : x < ks.length) (hy : y < ks.length) :
    ACall Tryz.prog 118 [.int .i64 x, .int .i64 y, .pointer (some ⟨p, 0, none⟩)] A fun v A' => (∃ n, v = .int .i64 n) ∧ A' = A := by
  have hobt := lks_at h hx
  obtain ⟨b, o, cs, q, rfl, h2, h3, -, -, h4, -⟩ := hobt
  have hobt := lks_at h hy
  obtain ⟨b', o', cs', q', hab, h2', h3', -, -, h4', -⟩ := hobt
  injection hab with hab
  injection hab with hb1 hb2 _
  subst hb1 hb2
  rw [h2] at h2'
  injection h2' with h2'
  injection h2' with h2' _ _
  subst h2'
  refine code118.call (by simp) fun hwf => ?_
  unfold c118
  simp [hb, hx, hy, h2, h4, h4']
  refine CN.use (compare_ok _ _ A) ?_
  rintro _ _ - - ⟨rfl, rfl⟩
  simp
  exact DN.of ⟨⟨_, rfl⟩, rfl⟩
theorem outs_ok {A : AH} {a : Option Addr} {c : Nat} {ks : List Lk} (h : Sl A 79 5 a (ks.map Lk.enc)) (x : Int) (hn : ks.length ≤ 1000) (hs : (outsN ks x ks.length).length < 20) :
    ACall Tryz.prog 107 [.slice a ks.length c, .int .i64 x] A fun v A' => ∃ ob L', L'.Perm (outsN ks x ks.length) ∧ Lq A' 3 1 ob v (ints L') ∧ Fresh A.next ob ∧ Ext A A' := by
  refine code107.call (by simp) fun hwf => ?_
  unfold c107
  simp
  have hx0 := Ext.alloc A (.row [.slice a ks.length c] 80 false)
  refine LN.use (fun m E A' => ∃ (k : Nat) (ob : Option Nat) (v : Value), m + k = ks.length ∧ Ext A A' ∧ A.next + 1 ≤ A'.next ∧ A'.get A.next = some (.row [.slice a ks.length c] 80 false) ∧ Lq A' 3 1 ob v (ints (outsN ks x k)) ∧ Fresh (A.next + 1) ob ∧ E.get 1 = .int .i64 x ∧ E.get 2 = .pointer (some ⟨A.next, 0, none⟩) ∧ E.get 5 = v ∧ E.get 8 = .slice a ks.length c ∧ E.get 9 = .int .i64 ks.length ∧ E.get 10 = .int .i64 k) ks.length
    ⟨0, none, _, by omega, hx0, by simp, AH.get_new _ _, Lq.nil _ _ _, Fresh.no _, by simp, by simp, by simp, by simp, by simp, by simp⟩ ?_
  rintro m E A1 hw1 hn1 ⟨k, ob, v, hk, x1, n1, b1, q1, f1, e1, e2, e5, e8, e9, e10⟩
  have hsl := h.ext hwf x1
  by_cases hlt : (k : Int) < ks.length
  · obtain ⟨b, o, cs, q, ha, g2, g3, g4, -, -, -⟩ := lks_at hsl (i := k) (by omega)
    have hks : k < ks.length := by omega
    have hl : (lk ks k).enc.length = 5 := rfl
    have hoc : ∀ y ∈ (lk ks k).enc, oneB y = true := List.all_eq_true.1 (rfl : (lk ks k).enc.all oneB = true)
    have hne : A.next ≠ A1.next := by omega
    have h00 : (lk ks k).enc[0] = .int .i64 (lk ks k).f := rfl
    have hb1 : A.next < A1.next := by omega
    have x2 := x1.app (by omega) (.row (lk ks k).enc 79 false)
    have q2 : Lq (A1.alloc (.row (lk ks k).enc 79 false)) 3 1 ob v (ints (outsN ks x k)) := q1.kept fun b hb => by have := q1.lt hw1 hb; rw [AH.get_alloc, if_neg (by omega)]
    have b2 : (A1.alloc (.row (lk ks k).enc 79 false)).get A.next = some (.row [.slice a ks.length c] 80 false) := by rw [AH.get_alloc, if_neg hne]; exact b1
    have hw2 := AH.wf_alloc hw1 (.row (lk ks k).enc 79 false)
    have hst := outsN_succ ks x k
    by_cases hf : (lk ks k).f = x
    · rw [if_pos hf] at hst
      have hle : (outsN ks x k).length ≤ k := by
        unfold outsN; rw [List.length_map]; exact Nat.le_trans (List.length_filter_le _ _) (by simp)
      have hobt := q2.push (y := 8) hw2 (r := [.int .i64 k]) ⟨rfl, rfl⟩ (by omega) (by omega) (by simp; omega) (by simp; omega)
      obtain ⟨v', A2, ob', p1, p2, p3, p4, p5⟩ := hobt
      simp only [AH.next_alloc] at p1 p3 p4 p5
      subst ha
      have hobt := q1.sl
      obtain ⟨a', c', rfl, -⟩ := hobt
      simp only [ints_len] at p1
      simp [e1, e2, e5, e8, e9, e10, hlt, hks, g2, g3, g4, hl, h00, hf, AH.get_alloc, AH.get_set, p1]
      refine ⟨hoc, ?_⟩
      refine NX.of ⟨m - 1, by omega, k + 1, ob', v', by omega, fun b' hb' => ?_, by omega, ?_, by rw [hst]; unfold ints at p2 ⊢; rw [List.map_append]; exact p2, ?_, by simp [e1], by simp [e2], by simp, by simp [e8], by simp [e9], by simp [i64_in (x := (k : Int) + 1) (by omega) (by omega)]⟩
      · rw [p3 b' (by omega) (fun e => by have := f1 b' e; omega)]; exact x2 b' hb'
      · rw [p3 A.next (by omega) (fun e => by have := f1 _ e; omega)]; exact b2
      · rcases p4 with rfl | rfl
        · exact f1
        · exact Fresh.yes (by omega)
    · rw [if_neg hf, List.append_nil] at hst
      subst ha
      simp [e1, e2, e5, e8, e9, e10, hlt, hks, g2, g3, g4, hl, h00, hf, AH.get_alloc, AH.get_set]
      refine ⟨hoc, ?_⟩
      exact NX.of ⟨m - 1, by omega, k + 1, ob, v, by omega, x2, by simp; omega, b2, by rw [hst]; exact q2, f1, by simp [e1], by simp [e2], by simp [e5], by simp [e8], by simp [e9], by simp [i64_in (x := (k : Int) + 1) (by omega) (by omega)]⟩
  · obtain rfl : k = ks.length := by omega
    simp [e2, e5, e9, e10]
    refine CN.use (sort_ok q1 hs 118 (fun A2 i j hk hi hj => ?_)) ?_
    · obtain ⟨i, hi1, rfl, -⟩ := outsN_mem.1 hi
      have hobt := outsN_mem.1 hj
      obtain ⟨j, hj1, rfl, -⟩ := hobt
      refine outs1_ok (c := c) (h.kept fun b o y ha hy => ?_) ?_ hi1 hj1
      · have hbl := hwf _ _ hy
        rw [hk b (by omega) (fun e => by have := f1 b e; omega)]
        exact x1 b hbl
      · rw [hk A.next (by omega) (fun e => by have := f1 _ e; omega)]; exact b1
    · rintro _ A2 hw2 hn2 ⟨L', p2, q2, k2, n2⟩
      simp [e5]
      refine DN.of ⟨ob, L', p2, q2, fun b hb => by have := f1 b hb; omega, fun b hb => ?_⟩
      rw [k2 b (by omega) (fun e => by have := f1 b e; omega)]; exact x1 b hb
def same (ks : List Lk) (j : Nat) (f t : Int) : Prop := (lk ks j).f = f ∧ (lk ks j).t = t
theorem find_ok {A : AH} {a : Option Addr} {c : Nat} {ks : List Lk} (h : Sl A 79 5 a (ks.map Lk.enc)) (hn : ks.length ≤ 1000000) (f t : Int) :
    ACall Tryz.prog 73 [.slice a ks.length c, .int .i64 f, .int .i64 t] A fun v A' => A' = A ∧ ∃ r : Int, v = .int .i64 r ∧ ((r = -1 ∧ ∀ j, j < ks.length → ¬ same ks j f t) ∨ ∃ j : Nat, r = j ∧ j < ks.length ∧ same ks j f t ∧ ∀ i, i < j → ¬ same ks i f t) := by
  refine code73.call (by simp) fun hwf => ?_
  unfold c73
  simp
  refine LN.use (fun m E A' => ∃ k : Nat, m + k = ks.length ∧ A' = A ∧ E.get 0 = .slice a ks.length c ∧ E.get 1 = .int .i64 f ∧ E.get 2 = .int .i64 t ∧ E.get 7 = .int .i64 k ∧ ∀ i, i < k → ¬ same ks i f t) ks.length
    ⟨0, by omega, rfl, by simp, by simp, by simp, by simp, fun i h => by omega⟩ ?_
  rintro m E A1 hw1 hn1 ⟨k, hk, rfl, e0, e1, e2, e7, hno⟩
  by_cases hlt : k < ks.length
  · obtain ⟨b, o, cs, q, ha, g2, g3, g4, g5, g6, -⟩ := lks_at h hlt
    subst ha
    have hi : IntKind.i64.wrap ((k : Int) + 1) = (k : Int) + 1 := i64_in (by omega) (by omega)
    have hnx : ∀ (hs : ¬ same ks k f t), ∀ i, i < k + 1 → ¬ same ks i f t := fun hs i hi => by
      by_cases e : i = k
      · rw [e]; exact hs
      · exact hno i (by omega)
    by_cases hf : (lk ks k).f = f
    · by_cases ht : (lk ks k).t = t
      · simp [e0, e1, e2, e7, hlt, g2, g5, g6, hf, ht]
        exact DN.of ⟨rfl, _, rfl, Or.inr ⟨k, rfl, hlt, ⟨hf, ht⟩, hno⟩⟩
      · simp [e0, e1, e2, e7, hlt, g2, g5, g6, hf, ht]
        exact NX.of ⟨m - 1, by omega, k + 1, by omega, rfl, by simp [e0], by simp [e1], by simp [e2], by simp [hi], hnx fun hs => ht hs.2⟩
    · simp [e0, e1, e2, e7, hlt, g2, g5, g6, hf]
      exact NX.of ⟨m - 1, by omega, k + 1, by omega, rfl, by simp [e0], by simp [e1], by simp [e2], by simp [hi], hnx fun hs => hf hs.1⟩
  · simp [e0, e7, hlt]
    exact DN.of ⟨rfl, _, rfl, Or.inl ⟨rfl, fun j hj => hno j (by omega)⟩⟩
def hasL (l : List Int) (x : Int) : Bool := decide (x ∈ l)
theorem has_ok {A : AH} {a : Option Addr} {c : Nat} {l : List Int} (h : Sl A 3 1 a (ints l)) (hl : l.length ≤ 1000000) (x : Int) :
    ACall Tryz.prog 75 [.slice a l.length c, .int .i64 x] A fun v A' => v = .bool (hasL l x) ∧ A' = A := by
  refine code75.call (by simp) fun hwf => ?_
  unfold c75
  simp
  refine LN.use (fun m E A' => ∃ k : Nat, m + k = l.length ∧ A' = A ∧ E.get 0 = .slice a l.length c ∧ E.get 1 = .int .i64 x ∧ E.get 5 = .int .i64 k ∧ x ∉ l.take k) l.length
    ⟨0, by omega, rfl, by simp, by simp, by simp, by simp⟩ ?_
  rintro m E A1 hw1 hn1 ⟨k, hk, rfl, e0, e1, e5, hno⟩
  by_cases hlt : k < l.length
  · obtain ⟨b, o, cs, ro, ha, g1, g2⟩ := h.one (Go.AI.ints_at (l := l) (i := k) hlt)
    subst ha
    have hi : IntKind.i64.wrap ((k : Int) + 1) = (k : Int) + 1 := i64_in (by omega) (by omega)
    by_cases hx : l[k] = x
    · simp [e0, e1, e5, hlt, g1, g2, hx]
      exact DN.of ⟨by congr 1; symm; simp only [hasL, decide_eq_true_eq]; rw [← hx]; exact List.getElem_mem hlt, rfl⟩
    · simp [e0, e1, e5, hlt, g1, g2, hx]
      refine NX.of ⟨m - 1, by omega, k + 1, by omega, rfl, by simp [e0], by simp [e1], by simp [hi], ?_⟩
      rw [List.take_succ_eq_append_getElem hlt]
      simp only [List.mem_append, List.mem_singleton, not_or]
      exact ⟨hno, fun e => hx e.symm⟩
  · simp [e0, e5, hlt]
    rw [List.take_of_length_le (by omega)] at hno
    exact DN.of ⟨by simp [hasL, hno], rfl⟩
def badL (n : Int) (ks : List Lk) (k : Nat) : Prop := (∃ j, j < k ∧ same ks j (lk ks k).f (lk ks k).t) ∨ (lk ks k).f < 0 ∨ n ≤ (lk ks k).f ∨ (lk ks k).t < 0 ∨ n ≤ (lk ks k).t ∨ (lk ks k).f = (lk ks k).t ∨ (lk ks k).m < 1 ∨ 65535 < (lk ks k).m
def goodN (n : Int) (ks : List Lk) : Prop := 1 ≤ n ∧ n ≤ 16 ∧ ks.length ≤ 64 ∧ ∀ k, k < ks.length → ¬ badL n ks k
def ChkP (n : Int) (ks : List Lk) (r : Int) : Prop := (r = 0 ∧ goodN n ks) ∨ (r = 3 ∧ 1 ≤ n ∧ n ≤ 16 ∧ 64 < ks.length) ∨ (r = 2 ∧ (¬ (1 ≤ n ∧ n ≤ 16) ∨ (ks.length ≤ 64 ∧ ∃ k, k < ks.length ∧ badL n ks k)))
theorem ChkP.zero {n r : Int} {ks : List Lk} (h : ChkP n ks r) : r = 0 ↔ goodN n ks := by
  rcases h with ⟨h1, h2⟩ | ⟨h1, h2, h3, h4⟩ | ⟨h1, h2⟩
  · exact ⟨fun _ => h2, fun _ => h1⟩
  · exact ⟨fun e => by omega, fun g => by have := g.2.2.1; omega⟩
  · refine ⟨fun e => by omega, fun g => ?_⟩
    rcases h2 with h2 | ⟨_, k, hk, hb⟩
    · exact absurd ⟨g.1, g.2.1⟩ h2
    · exact absurd hb (g.2.2.2 k hk)
theorem rcheck_ok {A : AH} {a : Option Addr} {c : Nat} {ks : List Lk} (h : Sl A 79 5 a (ks.map Lk.enc)) (n : Int) :
    ACall Tryz.prog 37 [.int .i64 n, .slice a ks.length c] A fun v A' => Ext A A' ∧ ∃ r, v = .int .i64 r ∧ ChkP n ks r := by
  refine code37.call (by simp) fun hwf => ?_
  unfold c37
  simp
  by_cases h1 : n < 1
  · simp [h1]
    exact DN.of ⟨Ext.refl A, _, rfl, Or.inr (Or.inr ⟨rfl, Or.inl (by omega)⟩)⟩
  by_cases h2 : 16 < n
  · simp [h1, h2]
    exact DN.of ⟨Ext.refl A, _, rfl, Or.inr (Or.inr ⟨rfl, Or.inl (by omega)⟩)⟩
  by_cases h3 : 64 < ks.length
  · have h3' : (64 : Int) < ks.length := by omega
    simp [h1, h2, h3']
    exact DN.of ⟨Ext.refl A, _, rfl, Or.inr (Or.inl ⟨rfl, by omega, by omega, h3⟩)⟩
  have h3' : ¬ (64 : Int) < ks.length := by omega
  simp [h1, h2, h3']
  refine LN.use (fun m E A' => ∃ k : Nat, m + k = ks.length ∧ Ext A A' ∧ A.next ≤ A'.next ∧ E.get 0 = .int .i64 n ∧ E.get 1 = .slice a ks.length c ∧ E.get 5 = .int .i64 k ∧ ∀ i, i < k → ¬ badL n ks i) ks.length
    ⟨0, by omega, Ext.refl A, Nat.le_refl _, by simp, by simp, by simp, fun i h => by omega⟩ ?_
  rintro m E A1 hw1 hn1 ⟨k, hk, x1, n1, e0, e1, e5, hno⟩
  have hsl := h.ext hwf x1
  by_cases hlt : k < ks.length
  · obtain ⟨b, o, cs, q, ha, g2, g3, g4, g5, g6, -⟩ := lks_at hsl hlt
    subst ha
    have hl : (lk ks k).enc.length = 5 := rfl
    have hoc : ∀ y ∈ (lk ks k).enc, oneB y = true := List.all_eq_true.1 (rfl : (lk ks k).enc.all oneB = true)
    have h00 : (lk ks k).enc[0] = .int .i64 (lk ks k).f := rfl
    have h01 : (lk ks k).enc[1] = .int .i64 (lk ks k).t := rfl
    have h03 : (lk ks k).enc[3] = .int .i64 (lk ks k).m := rfl
    have x2 := x1.app n1 (.row (lk ks k).enc 79 false)
    have hs2 := h.ext hwf x2
    have hi : IntKind.i64.wrap ((k : Int) + 1) = (k : Int) + 1 := i64_in (by omega) (by omega)
    have hbad : ∀ hb : badL n ks k, ChkP n ks 2 := fun hb => Or.inr (Or.inr ⟨rfl, Or.inr ⟨by omega, k, hlt, hb⟩⟩)
    by_cases b1 : (lk ks k).f < 0
    · simp [e0, e1, e5, hlt, g2, g3, g4, hl, h00, h01, h03, AH.get_alloc, AH.get_set, b1]
      exact ⟨hoc, DN.of ⟨x2, _, rfl, hbad (by unfold badL; omega)⟩⟩
    by_cases b2 : n ≤ (lk ks k).f
    · simp [e0, e1, e5, hlt, g2, g3, g4, hl, h00, h01, h03, AH.get_alloc, AH.get_set, b1, b2]
      exact ⟨hoc, DN.of ⟨x2, _, rfl, hbad (by unfold badL; omega)⟩⟩
    by_cases b3 : (lk ks k).t < 0
    · simp [e0, e1, e5, hlt, g2, g3, g4, hl, h00, h01, h03, AH.get_alloc, AH.get_set, b1, b2, b3]
      exact ⟨hoc, DN.of ⟨x2, _, rfl, hbad (by unfold badL; omega)⟩⟩
    by_cases b4 : n ≤ (lk ks k).t
    · simp [e0, e1, e5, hlt, g2, g3, g4, hl, h00, h01, h03, AH.get_alloc, AH.get_set, b1, b2, b3, b4]
      exact ⟨hoc, DN.of ⟨x2, _, rfl, hbad (by unfold badL; omega)⟩⟩
    by_cases b5 : (lk ks k).f = (lk ks k).t
    · simp [e0, e1, e5, hlt, g2, g3, g4, hl, h00, h01, h03, AH.get_alloc, AH.get_set, b1, b2, b3, b4, b5]
      exact ⟨hoc, DN.of ⟨x2, _, rfl, hbad (by unfold badL; omega)⟩⟩
    by_cases b6 : (lk ks k).m < 1
    · simp [e0, e1, e5, hlt, g2, g3, g4, hl, h00, h01, h03, AH.get_alloc, AH.get_set, b1, b2, b3, b4, b5, b6]
      exact ⟨hoc, DN.of ⟨x2, _, rfl, hbad (by unfold badL; omega)⟩⟩
    by_cases b7 : 65535 < (lk ks k).m
    · simp [e0, e1, e5, hlt, g2, g3, g4, hl, h00, h01, h03, AH.get_alloc, AH.get_set, b1, b2, b3, b4, b5, b6, b7]
      exact ⟨hoc, DN.of ⟨x2, _, rfl, hbad (by unfold badL; omega)⟩⟩
    simp [e0, e1, e5, hlt, g2, g3, g4, hl, h00, h01, h03, AH.get_alloc, AH.get_set, b1, b2, b3, b4, b5, b6, b7]
    refine ⟨hoc, CN.use (find_ok (c := c) hs2 (by omega) _ _) ?_⟩
    rintro _ A3 hw3 hn3 ⟨rfl, r, rfl, hr⟩
    by_cases hrk : r = k
    · simp [hrk, e5]
      refine NX.of ⟨m - 1, by omega, k + 1, by omega, x2, by simp; omega, by simp [e0], by simp [e1], by simp [hi], fun i hi' hb => ?_⟩
      by_cases e : i = k
      · subst e
        rcases hr with ⟨hr, _⟩ | ⟨j, hj, _, _, hm⟩
        · omega
        · obtain rfl : j = i := by omega
          rcases hb with ⟨j', hj', hs⟩ | hb
          · exact hm j' hj' hs
          · omega
      · exact hno i (by omega) hb
    · simp [hrk, e5]
      refine DN.of ⟨x2, _, rfl, hbad (Or.inl ?_)⟩
      rcases hr with ⟨hr, hm⟩ | ⟨j, hj, hjl, hs, hm⟩
      · exact absurd ⟨rfl, rfl⟩ (hm k hlt)
      · refine ⟨j, ?_, hs⟩
        by_cases hjk : j < k
        · exact hjk
        · by_cases hjk2 : j = k
          · exact absurd (by rw [hj, hjk2]) hrk
          · exact absurd ⟨rfl, rfl⟩ (hm k (by omega))
  · simp [e1, e5, hlt]
    exact DN.of ⟨x1, _, rfl, Or.inl ⟨rfl, by omega, by omega, by omega, fun i hi => hno i (by omega)⟩⟩
@[simp] theorem mkm1 (A : AH) : (aMakeMap A).1 = .map (some A.next) := (rfl)
@[simp] theorem mkm2 (A : AH) : (aMakeMap A).2 = A.alloc (.mp []) := (rfl)
def endK (f t : Int) : Value := .agg #[.int .i64 f, .int .i64 t]
def endsE (ks : List Lk) (k : Nat) : List (Value × Value) := (List.range k).map fun i => (endK (lk ks i).f (lk ks i).t, .int .i64 i)
theorem endsE_succ (ks : List Lk) (k : Nat) : endsE ks (k + 1) = endsE ks k ++ [(endK (lk ks k).f (lk ks k).t, .int .i64 k)] := by
  unfold endsE; rw [List.range_succ, List.map_append]; rfl
theorem end_eq (A : AH) (f t f' t' : Int) : aEq Tryz.prog A 20 197 (endK f t) (endK f' t') = some (decide (f = f' ∧ t = t')) := by
  unfold endK
  simp
theorem find_none (A : AH) (f t : Int) : ∀ (l : List (Value × Value)) (i : Nat), (∀ e ∈ l, ∃ f' t', e.1 = endK f' t' ∧ ¬ (f = f' ∧ t = t')) → aFind Tryz.prog A 197 (endK f t) l i = some none
  | [], i, h => rfl
  | e :: l, i, h => by
    have hobt := h e List.mem_cons_self
    obtain ⟨f', t', he, hn⟩ := hobt
    simp only [aFind, he, end_eq, hn, decide_false]
    exact find_none A f t l (i + 1) fun e he => h e (List.mem_cons_of_mem _ he)
theorem find_some (A : AH) (f t : Int) : ∀ (l : List (Value × Value)) (i : Nat), (∀ e ∈ l, ∃ f' t', e.1 = endK f' t') → (∃ e ∈ l, e.1 = endK f t) → ∃ q, aFind Tryz.prog A 197 (endK f t) l i = some (some q)
  | [], i, _, h => by obtain ⟨x, hx, _⟩ := h; cases hx
  | e :: l, i, ha, h => by
    have hobt := ha e List.mem_cons_self
    obtain ⟨f', t', he⟩ := hobt
    simp only [aFind, he, end_eq]
    by_cases hs : f = f' ∧ t = t'
    · simp [hs]
    · simp only [hs, decide_false]
      refine find_some A f t l (i + 1) (fun e he => ha e (List.mem_cons_of_mem _ he)) ?_
      obtain ⟨y, hy, h1⟩ := h
      rcases List.mem_cons.1 hy with rfl | hy
      · rw [he] at h1
        simp [endK] at h1
        exact absurd ⟨h1.1.symm, h1.2.symm⟩ hs
      · exact ⟨y, hy, h1⟩
theorem key_ok (f t : Int) : aKey Tryz.prog 20 197 (endK f t) = true ∧ (Tryz.prog.underlying 197).isSome = true := by
  refine ⟨?_, by rw [Tryz.underlying197]; rfl⟩
  unfold aKey endK
  rw [Tryz.underlying197]
  simp [aKeyAll, aKey, Tryz.underlying3]
theorem look_no {A : AH} {b : Nat} {es : List (Value × Value)} {f t : Int} (hb : A.get b = some (.mp es)) (h : ∀ e ∈ es, ∃ f' t', e.1 = endK f' t' ∧ ¬ (f = f' ∧ t = t')) :
    aLookup Tryz.prog 195 (.map (some b)) (endK f t) true A = some (.tuple #[.int .i64 0, .bool false]) ∧ ∀ v, aMapSet Tryz.prog 195 (.map (some b)) (endK f t) v A = some (A.set b (.mp (es ++ [(endK f t, v)]))) := by
  have hf := find_none A f t es 0 h
  constructor
  · unfold aLookup
    simp only [mo195, hb, ze3]
    rw [if_pos (key_ok f t), hf]
    rfl
  · intro v
    unfold aMapSet
    simp only [mo195, hb]
    rw [if_pos (key_ok f t), hf]
theorem look_yes {A : AH} {b : Nat} {es : List (Value × Value)} {f t : Int} (hb : A.get b = some (.mp es)) (ha : ∀ e ∈ es, ∃ f' t', e.1 = endK f' t') (h : ∃ e ∈ es, e.1 = endK f t) :
    ∃ w, aLookup Tryz.prog 195 (.map (some b)) (endK f t) true A = some (.tuple #[w, .bool true]) := by
  have hobt := find_some A f t es 0 ha h
  obtain ⟨q, hq⟩ := hobt
  refine ⟨q.2, ?_⟩
  unfold aLookup
  simp only [mo195, hb, ze3]
  rw [if_pos (key_ok f t), hq]
  rfl
theorem node_ok {A : AH} {p : Nat} {n : Int} (hb : A.get p = some (.row [.int .i64 n] 3 false)) (x : Int) : ACall Tryz.prog 101 [.int .i64 x, .pointer (some ⟨p, 0, none⟩)] A fun v A' => v = .bool (decide (0 ≤ x ∧ x < n)) ∧ A' = A := by
  refine code101.call (by simp) fun hwf => ?_
  unfold c101
  by_cases h1 : 0 ≤ x
  · simp [h1, hb]
    exact DN.of ⟨by simp [h1], rfl⟩
  · simp [h1]
    exact DN.of ⟨by simp [h1], rfl⟩
theorem check_ok {A : AH} {a : Option Addr} {c : Nat} {ks : List Lk} (h : Sl A 79 5 a (ks.map Lk.enc)) (n : Int) :
    ACall Tryz.prog 91 [.int .i64 n, .slice a ks.length c] A fun v A' => Ext A A' ∧ ∃ r, v = .int .i64 r ∧ ChkP n ks r := by
  refine code91.call (by simp) fun hwf => ?_
  unfold c91
  have x0 := Ext.alloc A (.row [.int .i64 n] 3 false)
  by_cases h1 : n < 1
  · simp [h1, AH.get_alloc]
    exact DN.of ⟨x0, _, rfl, Or.inr (Or.inr ⟨rfl, Or.inl (by omega)⟩)⟩
  by_cases h2 : 16 < n
  · simp [h1, h2, AH.get_alloc]
    exact DN.of ⟨x0, _, rfl, Or.inr (Or.inr ⟨rfl, Or.inl (by omega)⟩)⟩
  by_cases h3 : 64 < ks.length
  · have h3' : (64 : Int) < ks.length := by omega
    simp [h1, h2, h3', AH.get_alloc]
    exact DN.of ⟨x0, _, rfl, Or.inr (Or.inl ⟨rfl, by omega, by omega, h3⟩)⟩
  have h3' : ¬ (64 : Int) < ks.length := by omega
  simp [h1, h2, h3', AH.get_alloc]
  refine LN.use (fun m E A' => ∃ k : Nat, m + k = ks.length ∧ Ext A A' ∧ A.next + 2 ≤ A'.next ∧ A'.get A.next = some (.row [.int .i64 n] 3 false) ∧ A'.get (A.next + 1) = some (.mp (endsE ks k)) ∧ E.get 5 = .func (.func 101) #[] #[.pointer (some ⟨A.next, 0, none⟩)] ∧ E.get 6 = .map (some (A.next + 1)) ∧ E.get 25 = .slice a ks.length c ∧ E.get 26 = .int .i64 ks.length ∧ E.get 27 = .int .i64 k ∧ ∀ i, i < k → ¬ badL n ks i) ks.length
    ⟨0, by omega, x0.app (by simp) _, by simp, by simp [AH.get_alloc], by simp [AH.get_alloc]; rfl, by simp, by simp, by simp, by simp, by simp, fun i h => by omega⟩ ?_
  rintro m E A1 hw1 hn1 ⟨k, hk, x1, n1, b1, b2, e5, e6, e25, e26, e27, hno⟩
  have hsl := h.ext hwf x1
  by_cases hlt : k < ks.length
  · obtain ⟨b, o, cs, q, ha, g2, g3, g4, g5, g6, -⟩ := lks_at hsl hlt
    subst ha
    have hl : (lk ks k).enc.length = 5 := rfl
    have hoc : ∀ y ∈ (lk ks k).enc, oneB y = true := List.all_eq_true.1 (rfl : (lk ks k).enc.all oneB = true)
    have h00 : (lk ks k).enc[0] = .int .i64 (lk ks k).f := rfl
    have h01 : (lk ks k).enc[1] = .int .i64 (lk ks k).t := rfl
    have h03 : (lk ks k).enc[3] = .int .i64 (lk ks k).m := rfl
    have hi : IntKind.i64.wrap ((k : Int) + 1) = (k : Int) + 1 := i64_in (by omega) (by omega)
    have hbad : ∀ hb : badL n ks k, ChkP n ks 2 := fun hb => Or.inr (Or.inr ⟨rfl, Or.inr ⟨by omega, k, hlt, hb⟩⟩)
    have hn2 : A.next ≠ A1.next := by omega
    have hn3 : A.next ≠ A1.next + 1 := by omega
    have hn4 : A.next + 1 ≠ A1.next := by omega
    have hn5 : A.next ≠ A1.next := by omega
    have hM : (((A1.alloc (.row (lk ks k).enc 79 false)).alloc (.row [.int .i64 0, .int .i64 0] 197 false)).set (A1.next + 1) (.row [.int .i64 (lk ks k).f, .int .i64 (lk ks k).t] 197 false)).get (A.next + 1) = some (.mp (endsE ks k)) := by
      rw [AH.get_set, if_neg (by omega), AH.get_alloc, if_neg (by simp; omega), AH.get_alloc, if_neg (by omega)]; exact b2
    have hM2 : (((A1.alloc (.row (lk ks k).enc 79 false)).alloc (.row [.int .i64 0, .int .i64 0] 197 false)).set (A1.next + 1) (.row [.int .i64 (lk ks k).f, .int .i64 (lk ks k).t] 197 false)).get A.next = some (.row [.int .i64 n] 3 false) := by
      rw [AH.get_set, if_neg (by omega), AH.get_alloc, if_neg (by simp; omega), AH.get_alloc, if_neg (by omega)]; exact b1
    have x2 := ((x1.app (by omega) (.row (lk ks k).enc 79 false)).app (by simp; omega) (.row [.int .i64 0, .int .i64 0] 197 false)).setnew (c := A1.next + 1) (by omega) (.row [.int .i64 (lk ks k).f, .int .i64 (lk ks k).t] 197 false)
    have hends : ∀ e ∈ endsE ks k, ∃ f' t', e.1 = endK f' t' := fun e he => by
      unfold endsE at he
      have hobt := List.mem_map.1 he
      obtain ⟨i, _, rfl⟩ := hobt
      exact ⟨_, _, rfl⟩
    by_cases htw : ∃ j, j < k ∧ same ks j (lk ks k).f (lk ks k).t
    · have hlk := look_yes hM hends (f := (lk ks k).f) (t := (lk ks k).t) (by
        obtain ⟨j, hj, h1, h2⟩ := htw
        refine ⟨(endK (lk ks j).f (lk ks j).t, .int .i64 j), ?_, by rw [h1, h2]⟩
        unfold endsE
        exact List.mem_map.2 ⟨j, List.mem_range.2 hj, rfl⟩)
      obtain ⟨w, hw⟩ := hlk
      unfold endK at hw
      simp [e5, e6, e25, e26, e27, hlt, g2, g3, g4, hl, h00, h01, h03, AH.get_alloc, AH.get_set, hw]
      refine ⟨hoc, ?_⟩
      exact DN.of ⟨x2, _, rfl, hbad (Or.inl htw)⟩
    · have hlk := look_no hM (f := (lk ks k).f) (t := (lk ks k).t) (by
        intro e he
        unfold endsE at he
        have hobt := List.mem_map.1 he
        obtain ⟨i, hi, rfl⟩ := hobt
        refine ⟨_, _, rfl, fun hs => htw ⟨i, List.mem_range.1 hi, hs.1.symm, hs.2.symm⟩⟩)
      obtain ⟨hw, hw2⟩ := hlk
      unfold endK at hw hw2
      simp [e5, e6, e25, e26, e27, hlt, g2, g3, g4, hl, h00, h01, h03, AH.get_alloc, AH.get_set, hw]
      refine ⟨hoc, CN.use (node_ok hM2 _) ?_⟩
      rintro _ _ - - ⟨rfl, rfl⟩
      by_cases b1 : (lk ks k).f < 0 ∨ n ≤ (lk ks k).f
      · have b1' : ¬ (0 ≤ (lk ks k).f ∧ (lk ks k).f < n) := by omega
        simp [b1', AH.get_alloc, AH.get_set, hl, h00, h01, h03]
        exact DN.of ⟨x2, _, rfl, hbad (by unfold badL; omega)⟩
      have b1' : (0 ≤ (lk ks k).f ∧ (lk ks k).f < n) := by omega
      simp [b1', AH.get_alloc, AH.get_set, hl, h00, h01, h03, e5]
      refine CN.use (node_ok hM2 _) ?_
      rintro _ _ - - ⟨rfl, rfl⟩
      by_cases b3 : (lk ks k).t < 0 ∨ n ≤ (lk ks k).t
      · have b3' : ¬ (0 ≤ (lk ks k).t ∧ (lk ks k).t < n) := by omega
        simp [b3', AH.get_alloc, AH.get_set, hl, h00, h01, h03]
        exact DN.of ⟨x2, _, rfl, hbad (by unfold badL; omega)⟩
      have b3' : (0 ≤ (lk ks k).t ∧ (lk ks k).t < n) := by omega
      by_cases b5 : (lk ks k).f = (lk ks k).t
      · simp [b3', AH.get_alloc, AH.get_set, hl, h00, h01, h03, b5]
        rw [b5] at x2
        exact DN.of ⟨x2, _, rfl, hbad (by unfold badL; omega)⟩
      by_cases b6 : (lk ks k).m < 1
      · simp [b3', AH.get_alloc, AH.get_set, hl, h00, h01, h03, b5, b6]
        exact DN.of ⟨x2, _, rfl, hbad (by unfold badL; omega)⟩
      by_cases b7 : 65535 < (lk ks k).m
      · simp [b3', AH.get_alloc, AH.get_set, hl, h00, h01, h03, b5, b6, b7]
        exact DN.of ⟨x2, _, rfl, hbad (by unfold badL; omega)⟩
      simp [b3', AH.get_alloc, AH.get_set, hl, h00, h01, h03, b5, b6, b7, hw2, e6, e26, e27]
      refine NX.of ⟨m - 1, by omega, k + 1, by omega, x2.setnew (by omega) _, by simp; omega, ?_, ?_, by simp [e5], by simp [e6], by simp [e25], by simp [e26], by simp [hi], fun i hi' hb => ?_⟩
      · rw [AH.get_set, if_neg (by omega)]; exact hM2
      · rw [AH.get_set, if_pos rfl, endsE_succ]; rfl
      · by_cases e : i = k
        · subst e
          rcases hb with hb | hb
          · exact htw hb
          · omega
        · exact hno i (by omega) hb
  · simp [e26, e27, hlt]
    exact DN.of ⟨x1, _, rfl, Or.inl ⟨rfl, by omega, by omega, by omega, fun i hi => hno i (by omega)⟩⟩
end Go.Proofs.YtnlopamlmojbgaaGreat.AC
/- Ways through a network, without the program. -/
namespace Go.Proofs.YtnlopamlmojbgaaGreat.AC
open Go Go.AI Go.Proofs Go.Proofs.YtnlopamlmojbgaaGreat.AQ
set_option linter.unusedVariables false
theorem cmpL_le_trans : ∀ {a b c : List Int}, cmpL a b ≤ 0 → cmpL b c ≤ 0 → cmpL a c ≤ 0
  | [], _, [], _, _ => by simp [cmpL]
  | [], _, _ :: _, _, _ => by simp [cmpL]
  | _ :: _, [], _, h, _ => by simp [cmpL] at h
  | _ :: _, _ :: _, [], _, h => by simp [cmpL] at h
  | x :: xs, y :: ys, z :: zs, h1, h2 => by
    have ih := @cmpL_le_trans xs ys zs
    unfold cmpL cmpI at h1 h2 ⊢
    repeat' split at h1
    all_goals repeat' split at h2
    all_goals repeat' split
    all_goals first | omega | (refine ih (by omega) (by omega))
theorem cmpL_snoc (x : Int) : ∀ {a b : List Int}, a.length = b.length → cmpL (a ++ [x]) (b ++ [x]) = cmpL a b
  | [], [], _ => by simp [cmpL, cmpI]
  | [], _ :: _, h => by simp at h
  | _ :: _, [], h => by simp at h
  | y :: ys, z :: zs, h => by
    simp only [List.cons_append, cmpL, cmpL_snoc x (a := ys) (b := zs) (by simpa using h)]
theorem betB_iff {c c' : Int} {l l' : List Int} : betB c l c' l' = true ↔ c < c' ∨ (c = c' ∧ (l.length < l'.length ∨ (l.length = l'.length ∧ cmpL l l' < 0))) := by
  unfold betB
  split
  · simp; omega
  · split
    · simp; omega
    · simp; omega
def leB (c : Int) (l : List Int) (c' : Int) (l' : List Int) : Prop := betB c' l' c l = false
theorem leB_iff {c c' : Int} {l l' : List Int} : leB c l c' l' ↔ c < c' ∨ (c = c' ∧ (l.length < l'.length ∨ (l.length = l'.length ∧ cmpL l l' ≤ 0))) := by
  unfold leB
  rw [← Bool.not_eq_true, betB_iff, cmpL_neg l l']
  omega
theorem leB.cost {c c' : Int} {l l' : List Int} (h : leB c l c' l') : c ≤ c' := by rw [leB_iff] at h; omega
theorem leB.of_cost {c c' : Int} {l l' : List Int} (h : c < c') : leB c l c' l' := by rw [leB_iff]; exact Or.inl h
theorem leB.of_bet {c c' : Int} {l l' : List Int} (h : betB c l c' l' = true) : leB c l c' l' := by rw [betB_iff] at h; rw [leB_iff]; omega
theorem leB.refl (c : Int) (l : List Int) : leB c l c l := by rw [leB_iff]; have := cmpL_zero.2 (rfl : l = l); omega
theorem leB.trans {c c' c'' : Int} {l l' l'' : List Int} (h1 : leB c l c' l') (h2 : leB c' l' c'' l'') : leB c l c'' l'' := by
  rw [leB_iff] at *
  have := @cmpL_le_trans l l' l''
  omega
theorem leB.anti {c c' : Int} {l l' : List Int} (h1 : leB c l c' l') (h2 : leB c' l' c l) : c = c' ∧ l = l' := by
  rw [leB_iff] at *
  rw [cmpL_neg l l'] at h2
  exact ⟨by omega, cmpL_zero.1 (by omega)⟩
theorem leB.snoc {c c' m x : Int} {l l' : List Int} : leB (c + m) (l ++ [x]) (c' + m) (l' ++ [x]) ↔ leB c l c' l' := by
  rw [leB_iff, leB_iff]
  by_cases h : l.length = l'.length
  · rw [cmpL_snoc x h]; simp
  · simp; try omega
inductive Wk (ks : List Lk) (s : Int) : Int → List Int → Int → Prop where
  | one : Wk ks s s [s] 0
  | snoc (u : Int) (l : List Int) (c : Int) (i : Nat) (h : Wk ks s u l c) (hi : i < ks.length) (hf : (lk ks i).f = u) : Wk ks s (lk ks i).t (l ++ [(lk ks i).t]) (c + (lk ks i).m)
theorem goodN.link {n : Int} {ks : List Lk} (h : goodN n ks) {i : Nat} (hi : i < ks.length) : 0 ≤ (lk ks i).f ∧ (lk ks i).f < n ∧ 0 ≤ (lk ks i).t ∧ (lk ks i).t < n ∧ (lk ks i).f ≠ (lk ks i).t ∧ 1 ≤ (lk ks i).m ∧ (lk ks i).m ≤ 65535 := by
  have := h.2.2.2 i hi
  unfold badL at this
  omega
section
variable {n s : Int} {ks : List Lk}
theorem Wk.ne {v c : Int} {l : List Int} (h : Wk ks s v l c) : l ≠ [] := by cases h <;> simp
theorem Wk.last {v c : Int} {l : List Int} (h : Wk ks s v l c) : l.getLast? = some v := by cases h <;> simp
theorem Wk.head {v c : Int} {l : List Int} (h : Wk ks s v l c) : l.head? = some s := by
  induction h with
  | one => rfl
  | snoc u l c i h hi hf ih =>
    cases l with
    | nil => simp at ih
    | cons x xs => simpa using ih
theorem Wk.cost {v c : Int} {l : List Int} (hg : goodN n ks) (h : Wk ks s v l c) : 0 ≤ c ∧ (l.length : Int) ≤ c + 1 := by
  induction h with
  | one => simp
  | snoc u l c i h hi hf ih => have := hg.link hi; simp; omega
theorem Wk.up {v c : Int} {l : List Int} (hg : goodN n ks) (h : Wk ks s v l c) : c + 65535 ≤ l.length * 65535 := by
  induction h with
  | one => simp
  | snoc u l c i h hi hf ih => have := hg.link hi; simp; omega
theorem Wk.rng {v c : Int} {l : List Int} (hg : goodN n ks) (hs : 0 ≤ s ∧ s < n) (h : Wk ks s v l c) : ∀ x ∈ l, 0 ≤ x ∧ x < n := by
  induction h with
  | one => intro x hx; simp at hx; omega
  | snoc u l c i h hi hf ih =>
    intro x hx
    have := hg.link hi
    rcases List.mem_append.1 hx with hx | hx
    · exact ih x hx
    · simp at hx; omega
theorem nodup_len : ∀ (n : Nat) (l : List Int), l.Nodup → (∀ x ∈ l, 0 ≤ x ∧ x < n) → l.length ≤ n
  | 0, l, _, h => by
    cases l with
    | nil => simp
    | cons x xs => have := h x (by simp); omega
  | n + 1, l, hd, h => by
    have h1 := nodup_len n (l.erase n) (hd.erase _) (fun x hx => by
      have hm := (hd.mem_erase_iff).1 hx
      have := h x hm.2
      have := hm.1
      omega)
    by_cases hm : (n : Int) ∈ l
    · rw [List.length_erase_of_mem hm] at h1; omega
    · rw [List.erase_of_not_mem hm] at h1; omega
structure Wy where
  l : List Int
  c : Int
  d : Bool
structure Best (n : Int) (ks : List Lk) (s : Int) (w : Int → Wy) : Prop where
  path : ∀ v, 0 ≤ v → v < n → 0 ≤ (w v).c → Wk ks s v (w v).l (w v).c ∧ (w v).l.Nodup
  none : ∀ v, 0 ≤ v → v < n → (w v).c < 0 → (w v).c = -1 ∧ (w v).l = []
  least : ∀ v l c, Wk ks s v l c → 0 ≤ (w v).c ∧ leB (w v).c (w v).l c l
theorem Best.same {w w' : Int → Wy} (h : Best n ks s w) (h' : Best n ks s w') {v : Int} (h0 : 0 ≤ v) (h1 : v < n) : (w v).c = (w' v).c ∧ (w v).l = (w' v).l := by
  by_cases hc : 0 ≤ (w v).c
  · obtain ⟨hw, -⟩ := h.path v h0 h1 hc
    have hobt := h'.least v _ _ hw
    obtain ⟨hc', hl'⟩ := hobt
    have hobt := h'.path v h0 h1 hc'
    obtain ⟨hw', -⟩ := hobt
    have hobt := h.least v _ _ hw'
    obtain ⟨-, hl⟩ := hobt
    exact hl.anti hl'
  · by_cases hc' : 0 ≤ (w' v).c
    · obtain ⟨hw', -⟩ := h'.path v h0 h1 hc'
      exact absurd (h.least v _ _ hw').1 hc
    · have a := h.none v h0 h1 (by omega)
      have b := h'.none v h0 h1 (by omega)
      exact ⟨by omega, by rw [a.2, b.2]⟩
theorem Best.closed {w : Int → Wy} (hg : goodN n ks) (h : Best n ks s w) {i : Nat} (hi : i < ks.length) (hc : 0 ≤ (w (lk ks i).f).c) : 0 ≤ (w (lk ks i).t).c ∧ leB (w (lk ks i).t).c (w (lk ks i).t).l ((w (lk ks i).f).c + (lk ks i).m) ((w (lk ks i).f).l ++ [(lk ks i).t]) := by
  have hl := hg.link hi
  exact h.least _ _ _ (.snoc _ _ _ i (h.path _ hl.1 hl.2.1 hc).1 hi rfl)
theorem least_of {w : Int → Wy} (h0 : 0 ≤ (w s).c ∧ leB (w s).c (w s).l 0 [s]) (hcl : ∀ i, i < ks.length → 0 ≤ (w (lk ks i).f).c → 0 ≤ (w (lk ks i).t).c ∧ leB (w (lk ks i).t).c (w (lk ks i).t).l ((w (lk ks i).f).c + (lk ks i).m) ((w (lk ks i).f).l ++ [(lk ks i).t])) :
    ∀ v l c, Wk ks s v l c → 0 ≤ (w v).c ∧ leB (w v).c (w v).l c l := by
  intro v l c h
  induction h with
  | one => exact h0
  | snoc u l c i h hi hf ih =>
    subst hf
    have hobt := hcl i hi ih.1
    obtain ⟨h1, h2⟩ := hobt
    exact ⟨h1, h2.trans (leB.snoc.2 ih.2)⟩
end
end Go.Proofs.YtnlopamlmojbgaaGreat.AC
/- The nearest first, without the program. -/
namespace Go.Proofs.YtnlopamlmojbgaaGreat.AC
open Go Go.AI Go.Proofs Go.Proofs.YtnlopamlmojbgaaGreat.AQ
set_option linter.unusedVariables false
def upd (w : Int → Wy) (v : Int) (x : Wy) : Int → Wy := fun u => if u = v then x else w u
theorem upd_at (w : Int → Wy) (v : Int) (x : Wy) : upd w v x v = x := by simp [upd]
theorem upd_ne {w : Int → Wy} {v u : Int} {x : Wy} (h : u ≠ v) : upd w v x u = w u := by simp [upd, h]
structure DI (n s : Int) (ks : List Lk) (w : Int → Wy) (q : List It) (P : Nat → Prop) : Prop where
  one : 0 ≤ (w s).c ∧ leB (w s).c (w s).l 0 [s]
  path : ∀ v, 0 ≤ v → v < n → 0 ≤ (w v).c → Wk ks s v (w v).l (w v).c ∧ (w v).l.Nodup ∧ ∀ x ∈ (w v).l, x ≠ v → (w x).d = true
  none : ∀ v, 0 ≤ v → v < n → (w v).c < 0 → (w v).c = -1 ∧ (w v).l = [] ∧ (w v).d = false
  ord : ∀ u v, 0 ≤ u → u < n → 0 ≤ v → v < n → (w u).d = true → (w v).d = false → 0 ≤ (w v).c → (w u).c ≤ (w v).c
  clo : ∀ i, i < ks.length → ¬ P i → (w (lk ks i).f).d = true → 0 ≤ (w (lk ks i).t).c ∧ leB (w (lk ks i).t).c (w (lk ks i).t).l ((w (lk ks i).f).c + (lk ks i).m) ((w (lk ks i).f).l ++ [(lk ks i).t])
  que : ∀ v, 0 ≤ v → v < n → (w v).d = false → 0 ≤ (w v).c → ∃ x ∈ q, x.n = v ∧ x.c = (w v).c
  qin : ∀ x ∈ q, 0 ≤ x.n ∧ x.n < n ∧ 0 ≤ (w x.n).c ∧ ((w x.n).d = false → (w x.n).c ≤ x.c)
section
variable {n s : Int} {ks : List Lk} {w : Int → Wy} {q q' : List It} {P : Nat → Prop}
theorem DI.perm (h : DI n s ks w q P) (hp : q'.Perm q) : DI n s ks w q' P :=
  ⟨h.one, h.path, h.none, h.ord, h.clo, fun v h0 h1 h2 h3 => by obtain ⟨x, hx, hv⟩ := h.que v h0 h1 h2 h3; exact ⟨x, hp.mem_iff.2 hx, hv⟩, fun x hx => h.qin x (hp.mem_iff.1 hx)⟩
def takes (w : Int → Wy) (to : Int) (l : List Int) (c : Int) : Bool := !((w to).d || (decide (0 ≤ (w to).c) && !betB c l (w to).c (w to).l))
theorem takes_no {to : Int} {l : List Int} {c : Int} : takes w to l c = false ↔ (w to).d = true ∨ ((w to).d = false ∧ 0 ≤ (w to).c ∧ leB (w to).c (w to).l c l) := by
  unfold takes leB
  cases (w to).d <;> simp
theorem takes_yes {to : Int} {l : List Int} {c : Int} : takes w to l c = true ↔ (w to).d = false ∧ ((w to).c < 0 ∨ betB c l (w to).c (w to).l = true) := by
  unfold takes
  cases (w to).d <;> simp
theorem DI.keep (hg : goodN n ks) (h : DI n s ks w q P) {i : Nat} (hi : i < ks.length) (hu : (w (lk ks i).f).d = true) (hmax : ∀ v, 0 ≤ v → v < n → (w v).d = true → (w v).c ≤ (w (lk ks i).f).c)
    (ht : takes w (lk ks i).t ((w (lk ks i).f).l ++ [(lk ks i).t]) ((w (lk ks i).f).c + (lk ks i).m) = false) : DI n s ks w q (fun j => P j ∧ j ≠ i) := by
  refine ⟨h.one, h.path, h.none, h.ord, fun j hj hP hd => ?_, h.que, h.qin⟩
  by_cases e : j = i
  · subst e
    have hl := hg.link hi
    rcases takes_no.1 ht with h1 | ⟨h1, h2, h3⟩
    · have hc : 0 ≤ (w (lk ks j).t).c := by
        by_cases hh : 0 ≤ (w (lk ks j).t).c
        · exact hh
        · have := (h.none _ hl.2.2.1 hl.2.2.2.1 (by omega)).2.2
          rw [h1] at this; cases this
      refine ⟨hc, leB.of_cost ?_⟩
      have := hmax _ hl.2.2.1 hl.2.2.2.1 h1
      omega
    · exact ⟨h2, h3⟩
  · exact h.clo j hj (fun hp => hP ⟨hp, e⟩) hd
theorem DI.take (hg : goodN n ks) (h : DI n s ks w q P) {i : Nat} (hi : i < ks.length) (hu : (w (lk ks i).f).d = true) (hmax : ∀ v, 0 ≤ v → v < n → (w v).d = true → (w v).c ≤ (w (lk ks i).f).c)
    (ht : takes w (lk ks i).t ((w (lk ks i).f).l ++ [(lk ks i).t]) ((w (lk ks i).f).c + (lk ks i).m) = true) {x : It} (hxn : x.n = (lk ks i).t) (hxc : x.c = (w (lk ks i).f).c + (lk ks i).m) :
    DI n s ks (upd w (lk ks i).t ⟨(w (lk ks i).f).l ++ [(lk ks i).t], (w (lk ks i).f).c + (lk ks i).m, false⟩) (x :: q) (fun j => P j ∧ j ≠ i) := by
  have hl := hg.link hi
  have hu0 : 0 ≤ (w (lk ks i).f).c := by
    by_cases hh : 0 ≤ (w (lk ks i).f).c
    · exact hh
    · have := (h.none _ hl.1 hl.2.1 (by omega)).2.2
      rw [hu] at this; cases this
  have hobt := takes_yes.1 ht
  obtain ⟨hd, hb⟩ := hobt
  have hobt := h.path _ hl.1 hl.2.1 hu0
  obtain ⟨p1, p2, p3⟩ := hobt
  have hnew : ∀ y ∈ (w (lk ks i).f).l, (w y).d = true := fun y hy => by
    by_cases e : y = (lk ks i).f
    · rw [e]; exact hu
    · exact p3 y hy e
  have hnot : (lk ks i).t ∉ (w (lk ks i).f).l := fun hm => by have := hnew _ hm; rw [hd] at this; cases this
  have hle : 0 ≤ (w (lk ks i).t).c → leB ((w (lk ks i).f).c + (lk ks i).m) ((w (lk ks i).f).l ++ [(lk ks i).t]) (w (lk ks i).t).c (w (lk ks i).t).l := fun h0 => by
    rcases hb with hb | hb
    · omega
    · exact leB.of_bet hb
  have hwk := Wk.snoc _ _ _ i p1 hi rfl
  have hdd : ∀ y, (w y).d = true → (upd w (lk ks i).t ⟨(w (lk ks i).f).l ++ [(lk ks i).t], (w (lk ks i).f).c + (lk ks i).m, false⟩ y).d = true := fun y hy => by
    by_cases e : y = (lk ks i).t
    · rw [e, hd] at hy; cases hy
    · rw [upd_ne e]; exact hy
  have hsame : ∀ y, (w y).d = true → upd w (lk ks i).t ⟨(w (lk ks i).f).l ++ [(lk ks i).t], (w (lk ks i).f).c + (lk ks i).m, false⟩ y = w y := fun y hy => by
    by_cases e : y = (lk ks i).t
    · rw [e, hd] at hy; cases hy
    · rw [upd_ne e]
  have hback : ∀ y, (upd w (lk ks i).t ⟨(w (lk ks i).f).l ++ [(lk ks i).t], (w (lk ks i).f).c + (lk ks i).m, false⟩ y).d = true → (w y).d = true := fun y hy => by
    by_cases e : y = (lk ks i).t
    · rw [e, upd_at] at hy; cases hy
    · rw [upd_ne e] at hy; exact hy
  refine ⟨?_, fun v h0 h1 h2 => ?_, fun v h0 h1 h2 => ?_, fun u v u0 u1 v0 v1 d1 d2 h2 => ?_, fun j hj hP hdj => ?_, fun v h0 h1 h2 h3 => ?_, fun y hy => ?_⟩
  · by_cases e : s = (lk ks i).t
    · rw [e, upd_at]
      have h1 := h.one
      rw [e] at h1
      exact ⟨by simp only []; omega, (hle h1.1).trans h1.2⟩
    · rw [upd_ne e]; exact h.one
  · by_cases e : v = (lk ks i).t
    · subst e
      rw [upd_at]
      refine ⟨hwk, ?_, fun y hy hne => ?_⟩
      · simp only []
        rw [List.nodup_append]
        refine ⟨p2, by simp, fun a ha b hb => ?_⟩
        simp at hb
        rw [hb]; intro e2; rw [e2] at ha; exact hnot ha
      · rcases List.mem_append.1 hy with hy | hy
        · exact hdd y (hnew y hy)
        · simp at hy; exact absurd hy hne
    · rw [upd_ne e] at h2 ⊢
      have hobt := h.path v h0 h1 h2
      obtain ⟨g1, g2, g3⟩ := hobt
      exact ⟨g1, g2, fun y hy hne => hdd y (g3 y hy hne)⟩
  · by_cases e : v = (lk ks i).t
    · rw [e, upd_at] at h2; simp only [] at h2; omega
    · rw [upd_ne e] at h2 ⊢; exact h.none v h0 h1 h2
  · have hdu := hback u d1
    rw [hsame u hdu]
    by_cases e : v = (lk ks i).t
    · rw [e, upd_at]
      have := hmax u u0 u1 hdu
      simp only []; omega
    · rw [upd_ne e] at d2 h2 ⊢
      exact h.ord u v u0 u1 v0 v1 hdu d2 h2
  · have hdf := hback _ hdj
    rw [hsame _ hdf]
    by_cases e : j = i
    · subst e
      rw [upd_at]
      exact ⟨by simp only []; omega, leB.refl _ _⟩
    · have h5 := h.clo j hj (fun hp => hP ⟨hp, e⟩) hdf
      by_cases e2 : (lk ks j).t = (lk ks i).t
      · rw [e2] at h5 ⊢
        rw [upd_at]
        exact ⟨by simp only []; omega, (hle h5.1).trans h5.2⟩
      · rw [upd_ne e2]; exact h5
  · by_cases e : v = (lk ks i).t
    · subst e
      rw [upd_at]
      exact ⟨x, List.mem_cons_self, hxn, hxc⟩
    · rw [upd_ne e] at h2 h3 ⊢
      have hobt := h.que v h0 h1 h2 h3
      obtain ⟨y, hy, hv⟩ := hobt
      exact ⟨y, List.mem_cons_of_mem _ hy, hv⟩
  · rcases List.mem_cons.1 hy with rfl | hy
    · rw [hxn, upd_at]
      exact ⟨hl.2.2.1, hl.2.2.2.1, by simp only []; omega, fun _ => by simp only []; omega⟩
    · obtain ⟨g1, g2, g3, g4⟩ := h.qin y hy
      by_cases e : y.n = (lk ks i).t
      · rw [e] at g3 g4 ⊢
        rw [upd_at]
        have := (hle g3).cost
        have := g4 hd
        exact ⟨hl.2.2.1, hl.2.2.2.1, by simp only []; omega, fun _ => by simp only []; omega⟩
      · rw [upd_ne e]; exact ⟨g1, g2, g3, g4⟩
theorem DI.skip {x : It} (h : DI n s ks w (x :: q) P) (hd : (w x.n).d = true) : DI n s ks w q P :=
  ⟨h.one, h.path, h.none, h.ord, h.clo, fun v h0 h1 h2 h3 => by
    have hobt := h.que v h0 h1 h2 h3
    obtain ⟨y, hy, hv⟩ := hobt
    rcases List.mem_cons.1 hy with rfl | hy
    · rw [hv.1, h2] at hd; cases hd
    · exact ⟨y, hy, hv⟩, fun y hy => h.qin y (List.mem_cons_of_mem _ hy)⟩
def sett (w : Int → Wy) (u : Int) : Int → Wy := upd w u ⟨(w u).l, (w u).c, true⟩
theorem DI.settle {x : It} (h : DI n s ks w (x :: q) (fun _ => False)) (hd : (w x.n).d = false) (hm : ∀ y ∈ x :: q, leI x y) :
    DI n s ks (sett w x.n) q (fun i => (lk ks i).f = x.n) ∧ ∀ v, 0 ≤ v → v < n → (sett w x.n v).d = true → (sett w x.n v).c ≤ (sett w x.n x.n).c := by
  have hobt := h.qin x List.mem_cons_self
  obtain ⟨x0, x1, x2, x3⟩ := hobt
  have hxc := x3 hd
  have hl : ∀ v, (sett w x.n v).l = (w v).l := fun v => by
    unfold sett; by_cases e : v = x.n
    · rw [e, upd_at]
    · rw [upd_ne e]
  have hc : ∀ v, (sett w x.n v).c = (w v).c := fun v => by
    unfold sett; by_cases e : v = x.n
    · rw [e, upd_at]
    · rw [upd_ne e]
  have hdd : ∀ v, v ≠ x.n → (sett w x.n v).d = (w v).d := fun v e => by unfold sett; rw [upd_ne e]
  have hdx : (sett w x.n x.n).d = true := by unfold sett; rw [upd_at]
  have hup : ∀ v, (w v).d = true → (sett w x.n v).d = true := fun v hv => by
    by_cases e : v = x.n
    · rw [e]; exact hdx
    · rw [hdd v e]; exact hv
  have hleast : ∀ v, 0 ≤ v → v < n → (w v).d = false → 0 ≤ (w v).c → (w x.n).c ≤ (w v).c := fun v h0 h1 h2 h3 => by
    have hobt := h.que v h0 h1 h2 h3
    obtain ⟨y, hy, hv⟩ := hobt
    have := hm y hy
    rw [le_iff] at this
    omega
  refine ⟨⟨by rw [hc, hl]; exact h.one, fun v h0 h1 h2 => ?_, fun v h0 h1 h2 => ?_, fun u v u0 u1 v0 v1 d1 d2 h2 => ?_, fun i hi hP hdi => ?_, fun v h0 h1 h2 h3 => ?_, fun y hy => ?_⟩, fun v h0 h1 h2 => ?_⟩
  · rw [hc] at h2; rw [hc, hl]
    have hobt := h.path v h0 h1 h2
    obtain ⟨g1, g2, g3⟩ := hobt
    exact ⟨g1, g2, fun y hy hne => hup y (g3 y hy hne)⟩
  · rw [hc] at h2; rw [hc, hl]
    have e : v ≠ x.n := fun e => by rw [e] at h2; omega
    rw [hdd v e]; exact h.none v h0 h1 h2
  · rw [hc] at h2; rw [hc, hc]
    have ev : v ≠ x.n := fun e => by rw [e, hdx] at d2; cases d2
    rw [hdd v ev] at d2
    by_cases eu : u = x.n
    · rw [eu]; exact hleast v v0 v1 d2 h2
    · rw [hdd u eu] at d1; exact h.ord u v u0 u1 v0 v1 d1 d2 h2
  · have e : (lk ks i).f ≠ x.n := hP
    rw [hdd _ e] at hdi
    rw [hc, hc, hl, hl]
    exact h.clo i hi (fun h => h) hdi
  · rw [hc] at h3 ⊢
    have ev : v ≠ x.n := fun e => by rw [e, hdx] at h2; cases h2
    rw [hdd v ev] at h2
    have hobt := h.que v h0 h1 h2 h3
    obtain ⟨y, hy, hv⟩ := hobt
    rcases List.mem_cons.1 hy with rfl | hy
    · exact absurd hv.1.symm ev
    · exact ⟨y, hy, hv⟩
  · obtain ⟨g1, g2, g3, g4⟩ := h.qin y (List.mem_cons_of_mem _ hy)
    rw [hc]
    refine ⟨g1, g2, g3, fun hf => ?_⟩
    have ev : y.n ≠ x.n := fun e => by rw [e, hdx] at hf; cases hf
    rw [hdd _ ev] at hf
    exact g4 hf
  · rw [hc, hc]
    by_cases e : v = x.n
    · rw [e]; exact Int.le_refl _
    · rw [hdd v e] at h2; exact h.ord v x.n h0 h1 x0 x1 h2 hd x2
theorem DI.done (hg : goodN n ks) (h : DI n s ks w [] (fun _ => False)) : Best n ks s w := by
  have hd : ∀ v, 0 ≤ v → v < n → 0 ≤ (w v).c → (w v).d = true := fun v h0 h1 h2 => by
    cases hv : (w v).d with
    | true => rfl
    | false => obtain ⟨x, hx, _⟩ := h.que v h0 h1 hv h2; cases hx
  exact ⟨fun v h0 h1 h2 => ⟨(h.path v h0 h1 h2).1, (h.path v h0 h1 h2).2.1⟩, fun v h0 h1 h2 => ⟨(h.none v h0 h1 h2).1, (h.none v h0 h1 h2).2.1⟩,
    least_of h.one fun i hi hc => h.clo i hi (fun h => h) (hd _ (hg.link hi).1 (hg.link hi).2.1 hc)⟩
def w0 : Int → Wy := fun _ => ⟨[], -1, false⟩
theorem DI.start (hs : 0 ≤ s ∧ s < n) {x : It} (hx : x.n = s ∧ x.c = 0) : DI n s ks (upd w0 s ⟨[s], 0, false⟩) [x] (fun _ => False) := by
  have hdn : ∀ v, (upd w0 s ⟨[s], 0, false⟩ v).d = false := fun v => by
    by_cases e : v = s
    · rw [e, upd_at]
    · rw [upd_ne e]; rfl
  refine ⟨by rw [upd_at]; exact ⟨Int.le_refl 0, leB.refl _ _⟩, fun v h0 h1 h2 => ?_, fun v h0 h1 h2 => ?_, fun u v _ _ _ _ d1 => (by rw [hdn] at d1; exact absurd d1 (by simp)), fun i _ _ hd => (by rw [hdn] at hd; exact absurd hd (by simp)), fun v h0 h1 h2 h3 => ?_, fun y hy => ?_⟩
  · by_cases e : v = s
    · subst e; rw [upd_at]; exact ⟨.one, by simp, fun y hy hne => by simp at hy; exact absurd hy hne⟩
    · rw [upd_ne e] at h2; simp [w0] at h2
  · by_cases e : v = s
    · rw [e, upd_at] at h2; simp at h2
    · rw [upd_ne e]; exact ⟨rfl, rfl, rfl⟩
  · by_cases e : v = s
    · subst e; rw [upd_at]; exact ⟨x, by simp, hx.1, hx.2⟩
    · rw [upd_ne e] at h3; simp [w0] at h3
  · simp at hy; subst hy
    rw [hx.1, upd_at]
    exact ⟨hs.1, hs.2, Int.le_refl 0, fun _ => by simp only []; omega⟩
def un (ks : List Lk) (w : Int → Wy) : Nat := ((List.range ks.length).filter fun i => !(w (lk ks i).f).d).length
theorem filter_two {α : Type} (p r : α → Bool) (hr : ∀ a, r a = true → p a = true) : ∀ l : List α, (l.filter fun a => p a && !r a).length + (l.filter r).length = (l.filter p).length
  | [] => rfl
  | a :: l => by
    have ih := filter_two p r hr l
    have := hr a
    simp only [List.filter_cons]
    cases hp : p a <;> cases hq : r a <;> simp [hp, hq] at this ⊢ <;> omega
theorem un_sett {u : Int} (hd : (w u).d = false) : un ks (sett w u) + (outsN ks u ks.length).length = un ks w := by
  have h := filter_two (fun i => !(w (lk ks i).f).d) (fun i => decide ((lk ks i).f = u)) (fun i hi => by simp at hi; simp [hi, hd]) (List.range ks.length)
  unfold un outsN
  rw [List.length_map, ← h]
  congr 2
  apply List.filter_congr
  intro i _
  unfold sett upd
  by_cases e : (lk ks i).f = u <;> simp [e]
theorem un_le : un ks w ≤ ks.length := by unfold un; exact Nat.le_trans (List.length_filter_le _ _) (by simp)
end
end Go.Proofs.YtnlopamlmojbgaaGreat.AC
/- The best ways of so many links, without the program. -/
namespace Go.Proofs.YtnlopamlmojbgaaGreat.AC
open Go Go.AI Go.Proofs Go.Proofs.YtnlopamlmojbgaaGreat.AQ
set_option linter.unusedVariables false
structure BH (n : Int) (ks : List Lk) (s : Int) (H : Nat) (v : Int) (x : Wy) : Prop where
  path : 0 ≤ x.c → Wk ks s v x.l x.c ∧ x.l.Nodup ∧ x.l.length ≤ H + 1
  none : x.c < 0 → x.c = -1 ∧ x.l = []
  least : ∀ l c, Wk ks s v l c → l.length ≤ H + 1 → 0 ≤ x.c ∧ leB x.c x.l c l
section
variable {n s : Int} {ks : List Lk} {H : Nat} {v : Int}
theorem BH.same {x y : Wy} (h : BH n ks s H v x) (h' : BH n ks s H v y) : x.c = y.c ∧ x.l = y.l := by
  by_cases hc : 0 ≤ x.c
  · obtain ⟨hw, -, hl⟩ := h.path hc
    have hobt := h'.least _ _ hw hl
    obtain ⟨hc', hle'⟩ := hobt
    have hobt := h'.path hc'
    obtain ⟨hw', -, hl'⟩ := hobt
    have hobt := h.least _ _ hw' hl'
    obtain ⟨-, hle⟩ := hobt
    exact hle.anti hle'
  · by_cases hc' : 0 ≤ y.c
    · obtain ⟨hw', -, hl'⟩ := h'.path hc'
      exact absurd (h.least _ _ hw' hl').1 hc
    · have a := h.none (by omega)
      have b := h'.none (by omega)
      exact ⟨by omega, by rw [a.2, b.2]⟩
structure GI (n s : Int) (ks : List Lk) (h : Nat) (w : Int → Wy) : Prop where
  bh : ∀ v, 0 ≤ v → v < n → BH n ks s h v (w v)
  up : ∀ v, 0 ≤ v → v < n → 0 ≤ (w v).c → ∀ x ∈ (w v).l, 0 ≤ (w x).c ∧ (w x).c ≤ (w v).c
theorem GI.start (hs : 0 ≤ s ∧ s < n) : GI n s ks 0 (upd w0 s ⟨[s], 0, false⟩) := by
  refine ⟨fun v h0 h1 => ⟨fun h2 => ?_, fun h2 => ?_, fun l c hw hl => ?_⟩, fun v h0 h1 h2 x hx => ?_⟩
  · by_cases e : v = s
    · subst e; rw [upd_at]; exact ⟨.one, by simp, by simp⟩
    · rw [upd_ne e] at h2; simp [w0] at h2
  · by_cases e : v = s
    · rw [e, upd_at] at h2; simp at h2
    · rw [upd_ne e]; exact ⟨rfl, rfl⟩
  · cases hw with
    | one => rw [upd_at]; exact ⟨Int.le_refl 0, leB.refl _ _⟩
    | snoc u l c i h hi hf =>
      have := h.ne
      simp at hl
      exact absurd hl this
  · by_cases e : v = s
    · subst e
      rw [upd_at] at hx ⊢
      simp at hx
      rw [hx, upd_at]; simp
    · rw [upd_ne e] at h2; simp [w0] at h2
structure GR (n s : Int) (ks : List Lk) (h : Nat) (w o : Int → Wy) (i : Nat) : Prop where
  path : ∀ v, 0 ≤ v → v < n → 0 ≤ (o v).c → Wk ks s v (o v).l (o v).c ∧ (o v).l.Nodup ∧ (o v).l.length ≤ h + 2 ∧ ∀ x ∈ (o v).l, 0 ≤ (o x).c ∧ (o x).c ≤ (o v).c
  none : ∀ v, 0 ≤ v → v < n → (o v).c < 0 → (o v).c = -1 ∧ (o v).l = []
  le : ∀ v, 0 ≤ (w v).c → 0 ≤ (o v).c ∧ leB (o v).c (o v).l (w v).c (w v).l
  c : ∀ j, j < i → 0 ≤ (w (lk ks j).f).c → 0 ≤ (o (lk ks j).t).c ∧ leB (o (lk ks j).t).c (o (lk ks j).t).l ((w (lk ks j).f).c + (lk ks j).m) ((w (lk ks j).f).l ++ [(lk ks j).t])
variable {h : Nat} {w o : Int → Wy} {i : Nat}
theorem GR.start (hw : GI n s ks h w) : GR n s ks h w w 0 :=
  ⟨fun v h0 h1 h2 => ⟨((hw.bh v h0 h1).path h2).1, ((hw.bh v h0 h1).path h2).2.1, by have := ((hw.bh v h0 h1).path h2).2.2; omega, hw.up v h0 h1 h2⟩, fun v h0 h1 => (hw.bh v h0 h1).none, fun v hv => ⟨hv, leB.refl _ _⟩, fun j hj => by omega⟩
theorem GR.done (hg : goodN n ks) (hs : 0 ≤ s ∧ s < n) (hw : GI n s ks h w) (hr : GR n s ks h w o ks.length) : GI n s ks (h + 1) o := by
  refine ⟨fun v h0 h1 => ⟨fun hc => ?_, hr.none v h0 h1, fun l c hk hl => ?_⟩, fun v h0 h1 h2 => (hr.path v h0 h1 h2).2.2.2⟩
  · have := hr.path v h0 h1 hc; exact ⟨this.1, this.2.1, this.2.2.1⟩
  · cases hk with
    | one =>
      have h1 := (hw.bh s hs.1 hs.2).least _ _ .one (by simp)
      have h2 := hr.le s h1.1
      exact ⟨h2.1, h2.2.trans h1.2⟩
    | snoc u l c i hk hi hf =>
      subst hf
      have hl' := hg.link hi
      simp at hl
      have h1 := (hw.bh _ hl'.1 hl'.2.1).least _ _ hk hl
      have h2 := hr.c i hi h1.1
      exact ⟨h2.1, h2.2.trans (leB.snoc.2 h1.2)⟩
theorem GR.no (hr : GR n s ks h w o i) (hc : (w (lk ks i).f).c < 0) : GR n s ks h w o (i + 1) :=
  ⟨hr.path, hr.none, hr.le, fun j hj hc' => by
    by_cases e : j = i
    · subst e; omega
    · exact hr.c j (by omega) hc'⟩
theorem GR.back (hg : goodN n ks) (hw : GI n s ks h w) (hr : GR n s ks h w o i) (hi : i < ks.length) (hc : 0 ≤ (w (lk ks i).f).c) (hm : (lk ks i).t ∈ (w (lk ks i).f).l) : GR n s ks h w o (i + 1) := by
  have hl := hg.link hi
  refine ⟨hr.path, hr.none, hr.le, fun j hj hc' => ?_⟩
  by_cases e : j = i
  · subst e
    have h1 := hw.up _ hl.1 hl.2.1 hc _ hm
    have h2 := hr.le _ h1.1
    have := h2.2.cost
    exact ⟨h2.1, leB.of_cost (by omega)⟩
  · exact hr.c j (by omega) hc'
theorem GR.stay (hr : GR n s ks h w o i) (hc : 0 ≤ (o (lk ks i).t).c) (hb : leB (o (lk ks i).t).c (o (lk ks i).t).l ((w (lk ks i).f).c + (lk ks i).m) ((w (lk ks i).f).l ++ [(lk ks i).t])) : GR n s ks h w o (i + 1) :=
  ⟨hr.path, hr.none, hr.le, fun j hj hc' => by
    by_cases e : j = i
    · subst e; exact ⟨hc, hb⟩
    · exact hr.c j (by omega) hc'⟩
theorem GR.better (hg : goodN n ks) (hw : GI n s ks h w) (hr : GR n s ks h w o i) (hi : i < ks.length) (hc : 0 ≤ (w (lk ks i).f).c) (hm : (lk ks i).t ∉ (w (lk ks i).f).l)
    (hb : (o (lk ks i).t).c < 0 ∨ betB ((w (lk ks i).f).c + (lk ks i).m) ((w (lk ks i).f).l ++ [(lk ks i).t]) (o (lk ks i).t).c (o (lk ks i).t).l = true) :
    GR n s ks h w (upd o (lk ks i).t ⟨(w (lk ks i).f).l ++ [(lk ks i).t], (w (lk ks i).f).c + (lk ks i).m, false⟩) (i + 1) := by
  have hl := hg.link hi
  have hobt := (hw.bh _ hl.1 hl.2.1).path hc
  obtain ⟨p1, p2, p3⟩ := hobt
  have hle : 0 ≤ (o (lk ks i).t).c → leB ((w (lk ks i).f).c + (lk ks i).m) ((w (lk ks i).f).l ++ [(lk ks i).t]) (o (lk ks i).t).c (o (lk ks i).t).l := fun h0 => by
    rcases hb with hb | hb
    · omega
    · exact leB.of_bet hb
  refine ⟨fun v h0 h1 h2 => ?_, fun v h0 h1 h2 => ?_, fun v hv => ?_, fun j hj hc' => ?_⟩
  · by_cases e : v = (lk ks i).t
    · subst e
      rw [upd_at]
      refine ⟨.snoc _ _ _ i p1 hi rfl, ?_, by simp; omega, fun x hx => ?_⟩
      · simp only []
        rw [List.nodup_append]
        refine ⟨p2, by simp, fun a ha b hb => ?_⟩
        simp at hb
        rw [hb]; intro e2; rw [e2] at ha; exact hm ha
      · by_cases e : x = (lk ks i).t
        · rw [e, upd_at]; simp only []; omega
        · rw [upd_ne e]
          rcases List.mem_append.1 hx with hx | hx
          · have h3 := hw.up _ hl.1 hl.2.1 hc x hx
            have h4 := hr.le x h3.1
            have := h4.2.cost
            exact ⟨h4.1, by simp only []; omega⟩
          · simp at hx; exact absurd hx e
    · rw [upd_ne e] at h2 ⊢
      have hobt := hr.path v h0 h1 h2
      obtain ⟨g1, g2, g3, g4⟩ := hobt
      refine ⟨g1, g2, g3, fun x hx => ?_⟩
      have h3 := g4 x hx
      by_cases e2 : x = (lk ks i).t
      · subst e2
        rw [upd_at]
        have := (hle h3.1).cost
        simp only []; omega
      · rw [upd_ne e2]; exact h3
  · by_cases e : v = (lk ks i).t
    · rw [e, upd_at] at h2; simp only [] at h2; omega
    · rw [upd_ne e] at h2 ⊢; exact hr.none v h0 h1 h2
  · have h3 := hr.le v hv
    by_cases e : v = (lk ks i).t
    · subst e
      rw [upd_at]
      exact ⟨by simp only []; omega, (hle h3.1).trans h3.2⟩
    · rw [upd_ne e]; exact h3
  · by_cases e : j = i
    · subst e
      rw [upd_at]
      exact ⟨by simp only []; omega, leB.refl _ _⟩
    · have h3 := hr.c j (by omega) hc'
      by_cases e : (lk ks j).t = (lk ks i).t
      · rw [e] at h3 ⊢
        rw [upd_at]
        exact ⟨by simp only []; omega, (hle h3.1).trans h3.2⟩
      · rw [upd_ne e]; exact h3
end
end Go.Proofs.YtnlopamlmojbgaaGreat.AC
/- Nodes come to by so many links, the nearest first, without the program. -/
namespace Go.Proofs.YtnlopamlmojbgaaGreat.AC
open Go Go.AI Go.Proofs Go.Proofs.YtnlopamlmojbgaaGreat.AQ
set_option linter.unusedVariables false
abbrev PB := Int → Int → Wy
abbrev PD := Int → Int → Bool
def upd2 (B : PB) (v h : Int) (x : Wy) : PB := fun u g => if u = v ∧ g = h then x else B u g
theorem upd2_at (B : PB) (v h : Int) (x : Wy) : upd2 B v h x v h = x := by simp [upd2]
theorem upd2_ne {B : PB} {v h u g : Int} {x : Wy} (e : ¬ (u = v ∧ g = h)) : upd2 B v h x u g = B u g := by simp only [upd2]; rw [if_neg e]
def don2 (D : PD) (v h : Int) : PD := fun u g => if u = v ∧ g = h then true else D u g
theorem don2_at (D : PD) (v h : Int) : don2 D v h v h = true := by simp [don2]
theorem don2_ne {D : PD} {v h u g : Int} (e : ¬ (u = v ∧ g = h)) : don2 D v h u g = D u g := by simp only [don2]; rw [if_neg e]
structure LI (n s : Int) (ks : List Lk) (H : Int) (B : PB) (D : PD) (q : List It) (P : Nat → Prop) (ph : Int) : Prop where
  st : 0 ≤ (B s 0).c ∧ leB (B s 0).c (B s 0).l 0 [s]
  path : ∀ v h, 0 ≤ (B v h).c → 0 ≤ v ∧ v < n ∧ 0 ≤ h ∧ h ≤ H ∧ Wk ks s v (B v h).l (B v h).c ∧ (B v h).l.Nodup ∧ ((B v h).l.length : Int) = h + 1 ∧ ∀ (j : Nat) (hj : j < (B v h).l.length), 0 ≤ (B (B v h).l[j] j).c ∧ (B (B v h).l[j] j).c ≤ (B v h).c
  none : ∀ v h, (B v h).c < 0 → (B v h).c = -1 ∧ (B v h).l = []
  dn : ∀ v h, D v h = true → 0 ≤ (B v h).c ∧ h < H
  ord : ∀ u g v h, D u g = true → D v h = false → 0 ≤ (B v h).c → h < H → (B u g).c ≤ (B v h).c
  clo : ∀ i, i < ks.length → ∀ g, D (lk ks i).f g = true → ¬ (P i ∧ g = ph) → (lk ks i).t ∈ (B (lk ks i).f g).l ∨ (0 ≤ (B (lk ks i).t (g + 1)).c ∧ leB (B (lk ks i).t (g + 1)).c (B (lk ks i).t (g + 1)).l ((B (lk ks i).f g).c + (lk ks i).m) ((B (lk ks i).f g).l ++ [(lk ks i).t]))
  que : ∀ v h, D v h = false → 0 ≤ (B v h).c → h < H → ∃ x ∈ q, x.n = v ∧ x.h = h ∧ x.c = (B v h).c
  qin : ∀ x ∈ q, 0 ≤ (B x.n x.h).c ∧ (D x.n x.h = false → (B x.n x.h).c ≤ x.c)
section
variable {n s H : Int} {ks : List Lk} {B : PB} {D : PD} {q q' : List It} {P P' : Nat → Prop} {ph : Int}
theorem LI.perm (h : LI n s ks H B D q P ph) (hp : q'.Perm q) : LI n s ks H B D q' P ph :=
  ⟨h.st, h.path, h.none, h.dn, h.ord, h.clo, fun v g h1 h2 h3 => by obtain ⟨x, hx, hv⟩ := h.que v g h1 h2 h3; exact ⟨x, hp.mem_iff.2 hx, hv⟩, fun x hx => h.qin x (hp.mem_iff.1 hx)⟩
theorem LI.weak (h : LI n s ks H B D q P ph) {ph' : Int} (hp : ∀ i, i < ks.length → ∀ g, P i ∧ g = ph → P' i ∧ g = ph') : LI n s ks H B D q P' ph' :=
  ⟨h.st, h.path, h.none, h.dn, h.ord, fun i hi g hd hn => h.clo i hi g hd fun hh => hn (hp i hi g hh), h.que, h.qin⟩
def tak2 (B : PB) (v h : Int) (l : List Int) (c : Int) : Bool := decide ((B v h).c < 0) || betB c l (B v h).c (B v h).l
theorem tak2_no {v h c : Int} {l : List Int} : tak2 B v h l c = false ↔ 0 ≤ (B v h).c ∧ leB (B v h).c (B v h).l c l := by
  unfold tak2 leB
  cases betB c l (B v h).c (B v h).l <;> simp
theorem tak2_yes {v h c : Int} {l : List Int} : tak2 B v h l c = true ↔ (B v h).c < 0 ∨ betB c l (B v h).c (B v h).l = true := by
  unfold tak2
  cases betB c l (B v h).c (B v h).l <;> simp
theorem LI.back (h : LI n s ks H B D q P ph) {i : Nat} (hm : (lk ks i).t ∈ (B (lk ks i).f ph).l) : LI n s ks H B D q (fun j => P j ∧ j ≠ i) ph :=
  ⟨h.st, h.path, h.none, h.dn, h.ord, fun j hj g hd hn => by
    by_cases e : j = i ∧ g = ph
    · obtain ⟨rfl, rfl⟩ := e; exact Or.inl hm
    · exact h.clo j hj g hd fun hh => hn ⟨⟨hh.1, fun e2 => e ⟨e2, hh.2⟩⟩, hh.2⟩, h.que, h.qin⟩
theorem LI.keep (h : LI n s ks H B D q P ph) {i : Nat} (ht : tak2 B (lk ks i).t (ph + 1) ((B (lk ks i).f ph).l ++ [(lk ks i).t]) ((B (lk ks i).f ph).c + (lk ks i).m) = false) : LI n s ks H B D q (fun j => P j ∧ j ≠ i) ph :=
  ⟨h.st, h.path, h.none, h.dn, h.ord, fun j hj g hd hn => by
    by_cases e : j = i ∧ g = ph
    · obtain ⟨rfl, rfl⟩ := e; exact Or.inr (tak2_no.1 ht)
    · exact h.clo j hj g hd fun hh => hn ⟨⟨hh.1, fun e2 => e ⟨e2, hh.2⟩⟩, hh.2⟩, h.que, h.qin⟩
theorem LI.take (hg : goodN n ks) (h : LI n s ks H B D q P ph) {i : Nat} (hi : i < ks.length) (hu : D (lk ks i).f ph = true) (hmax : ∀ v g, D v g = true → (B v g).c ≤ (B (lk ks i).f ph).c) (hm : (lk ks i).t ∉ (B (lk ks i).f ph).l)
    (ht : tak2 B (lk ks i).t (ph + 1) ((B (lk ks i).f ph).l ++ [(lk ks i).t]) ((B (lk ks i).f ph).c + (lk ks i).m) = true) {x : It} (hxn : x.n = (lk ks i).t) (hxh : x.h = ph + 1) (hxc : x.c = (B (lk ks i).f ph).c + (lk ks i).m) :
    LI n s ks H (upd2 B (lk ks i).t (ph + 1) ⟨(B (lk ks i).f ph).l ++ [(lk ks i).t], (B (lk ks i).f ph).c + (lk ks i).m, false⟩) D (x :: q) (fun j => P j ∧ j ≠ i) ph := by
  have hl := hg.link hi
  have hobt := h.dn _ _ hu
  obtain ⟨hu0, huH⟩ := hobt
  have hobt := h.path _ _ hu0
  obtain ⟨-, -, p3, p4, p5, p6, p7, p8⟩ := hobt
  have hb := tak2_yes.1 ht
  have hle : 0 ≤ (B (lk ks i).t (ph + 1)).c → leB ((B (lk ks i).f ph).c + (lk ks i).m) ((B (lk ks i).f ph).l ++ [(lk ks i).t]) (B (lk ks i).t (ph + 1)).c (B (lk ks i).t (ph + 1)).l := fun h0 => by
    rcases hb with hb | hb
    · omega
    · exact leB.of_bet hb
  have hnd : D (lk ks i).t (ph + 1) = false := by
    cases hd : D (lk ks i).t (ph + 1) with
    | false => rfl
    | true =>
      have h1 := (h.dn _ _ hd).1
      have h2 := hmax _ _ hd
      have := (hle h1).cost
      omega
  have hsame : ∀ v g, D v g = true → upd2 B (lk ks i).t (ph + 1) ⟨(B (lk ks i).f ph).l ++ [(lk ks i).t], (B (lk ks i).f ph).c + (lk ks i).m, false⟩ v g = B v g := fun v g hv => by
    refine upd2_ne fun e => ?_
    rw [e.1, e.2, hnd] at hv; cases hv
  have hdown : ∀ v g, 0 ≤ (B v g).c → 0 ≤ (upd2 B (lk ks i).t (ph + 1) ⟨(B (lk ks i).f ph).l ++ [(lk ks i).t], (B (lk ks i).f ph).c + (lk ks i).m, false⟩ v g).c ∧ (upd2 B (lk ks i).t (ph + 1) ⟨(B (lk ks i).f ph).l ++ [(lk ks i).t], (B (lk ks i).f ph).c + (lk ks i).m, false⟩ v g).c ≤ (B v g).c := fun v g h0 => by
    by_cases e : v = (lk ks i).t ∧ g = ph + 1
    · rw [e.1, e.2] at h0 ⊢
      rw [upd2_at]
      have := (hle h0).cost
      simp only []; omega
    · rw [upd2_ne e]; omega
  refine ⟨?_, fun v g h0 => ?_, fun v g h0 => ?_, fun v g hd => ?_, fun u g' v g d1 d2 h0 h1 => ?_, fun j hj g hd hn => ?_, fun v g d1 h0 h1 => ?_, fun y hy => ?_⟩
  · rw [upd2_ne (by omega)]; exact h.st
  · by_cases e : v = (lk ks i).t ∧ g = ph + 1
    · obtain ⟨rfl, rfl⟩ := e
      rw [upd2_at]
      refine ⟨hl.2.2.1, hl.2.2.2.1, by omega, by omega, .snoc _ _ _ i p5 hi rfl, ?_, by simp; omega, fun j hj => ?_⟩
      · simp only []
        rw [List.nodup_append]
        refine ⟨p6, by simp, fun a ha b hb => ?_⟩
        simp at hb
        rw [hb]; intro e2; rw [e2] at ha; exact hm ha
      · simp only [List.length_append, List.length_singleton] at hj
        by_cases ej : j < (B (lk ks i).f ph).l.length
        · simp only [List.getElem_append_left ej]
          rw [upd2_ne (by omega)]
          have := p8 j ej
          omega
        · have e1 : (((B (lk ks i).f ph).l ++ [(lk ks i).t])[j]'(by simp; omega)) = (lk ks i).t := by
            rw [List.getElem_append_right (by omega)]; simp
          simp only [e1]
          rw [show (j : Int) = ph + 1 by omega, upd2_at]
          simp only []; omega
    · rw [upd2_ne e] at h0 ⊢
      have hobt := h.path v g h0
      obtain ⟨g1, g2, g3, g4, g5, g6, g7, g8⟩ := hobt
      refine ⟨g1, g2, g3, g4, g5, g6, g7, fun j hj => ?_⟩
      have h3 := g8 j hj
      have h4 := hdown _ _ h3.1
      exact ⟨h4.1, by omega⟩
  · by_cases e : v = (lk ks i).t ∧ g = ph + 1
    · rw [e.1, e.2, upd2_at] at h0; simp only [] at h0; omega
    · rw [upd2_ne e] at h0 ⊢; exact h.none v g h0
  · rw [hsame v g hd]; exact h.dn v g hd
  · rw [hsame u g' d1]
    by_cases e : v = (lk ks i).t ∧ g = ph + 1
    · rw [e.1, e.2, upd2_at]
      have := hmax u g' d1
      simp only []; omega
    · rw [upd2_ne e] at h0 ⊢; exact h.ord u g' v g d1 d2 h0 h1
  · rw [hsame _ _ hd]
    by_cases e : j = i ∧ g = ph
    · obtain ⟨rfl, rfl⟩ := e
      refine Or.inr ?_
      rw [upd2_at]
      exact ⟨by simp only []; omega, leB.refl _ _⟩
    · rcases h.clo j hj g hd fun hh => hn ⟨⟨hh.1, fun e2 => e ⟨e2, hh.2⟩⟩, hh.2⟩ with h3 | h3
      · exact Or.inl h3
      · refine Or.inr ?_
        by_cases e2 : (lk ks j).t = (lk ks i).t ∧ g + 1 = ph + 1
        · rw [e2.1, e2.2] at h3 ⊢
          rw [upd2_at]
          exact ⟨by simp only []; omega, (hle h3.1).trans h3.2⟩
        · rw [upd2_ne e2]; exact h3
  · by_cases e : v = (lk ks i).t ∧ g = ph + 1
    · obtain ⟨rfl, rfl⟩ := e
      rw [upd2_at]
      exact ⟨x, List.mem_cons_self, hxn, hxh, hxc⟩
    · rw [upd2_ne e] at h0 ⊢
      have hobt := h.que v g d1 h0 h1
      obtain ⟨y, hy, hv⟩ := hobt
      exact ⟨y, List.mem_cons_of_mem _ hy, hv⟩
  · rcases List.mem_cons.1 hy with rfl | hy
    · rw [hxn, hxh, upd2_at]
      exact ⟨by simp only []; omega, fun _ => by simp only []; omega⟩
    · obtain ⟨g1, g2⟩ := h.qin y hy
      have h4 := hdown _ _ g1
      exact ⟨h4.1, fun hd => by have := g2 hd; omega⟩
theorem LI.skip {x : It} (h : LI n s ks H B D (x :: q) P ph) (hd : D x.n x.h = true ∨ H ≤ x.h) : LI n s ks H B D q P ph :=
  ⟨h.st, h.path, h.none, h.dn, h.ord, h.clo, fun v g d1 h0 h1 => by
    have hobt := h.que v g d1 h0 h1
    obtain ⟨y, hy, hv⟩ := hobt
    rcases List.mem_cons.1 hy with rfl | hy
    · rcases hd with hd | hd
      · rw [hv.1, hv.2.1, d1] at hd; cases hd
      · omega
    · exact ⟨y, hy, hv⟩, fun y hy => h.qin y (List.mem_cons_of_mem _ hy)⟩
theorem LI.settle {x : It} (h : LI n s ks H B D (x :: q) (fun _ => False) ph) (hd : D x.n x.h = false) (hH : x.h < H) (hm : ∀ y ∈ x :: q, leI x y) :
    LI n s ks H B (don2 D x.n x.h) q (fun i => (lk ks i).f = x.n) x.h ∧ ∀ v g, don2 D x.n x.h v g = true → (B v g).c ≤ (B x.n x.h).c := by
  have hobt := h.qin x List.mem_cons_self
  obtain ⟨x0, x1⟩ := hobt
  have hxc := x1 hd
  have hup : ∀ v g, D v g = true → don2 D x.n x.h v g = true := fun v g hv => by
    by_cases e : v = x.n ∧ g = x.h
    · rw [e.1, e.2]; exact don2_at _ _ _
    · rw [don2_ne e]; exact hv
  have hback : ∀ v g, don2 D x.n x.h v g = false → ¬ (v = x.n ∧ g = x.h) ∧ D v g = false := fun v g hv => by
    by_cases e : v = x.n ∧ g = x.h
    · rw [e.1, e.2, don2_at] at hv; cases hv
    · rw [don2_ne e] at hv; exact ⟨e, hv⟩
  have hleast : ∀ v g, D v g = false → 0 ≤ (B v g).c → g < H → (B x.n x.h).c ≤ (B v g).c := fun v g h1 h2 h3 => by
    have hobt := h.que v g h1 h2 h3
    obtain ⟨y, hy, hv⟩ := hobt
    have := hm y hy
    rw [le_iff] at this
    omega
  refine ⟨⟨h.st, h.path, h.none, fun v g hv => ?_, fun u g' v g d1 d2 h0 h1 => ?_, fun i hi g hv hn => ?_, fun v g d1 h0 h1 => ?_, fun y hy => ?_⟩, fun v g hv => ?_⟩
  · by_cases e : v = x.n ∧ g = x.h
    · rw [e.1, e.2]; exact ⟨x0, hH⟩
    · rw [don2_ne e] at hv; exact h.dn v g hv
  · obtain ⟨e2, d2⟩ := hback v g d2
    by_cases e : u = x.n ∧ g' = x.h
    · rw [e.1, e.2]; exact hleast v g d2 h0 h1
    · rw [don2_ne e] at d1; exact h.ord u g' v g d1 d2 h0 h1
  · rw [don2_ne hn] at hv
    exact h.clo i hi g hv fun hh => hh.1
  · obtain ⟨e2, d1⟩ := hback v g d1
    have hobt := h.que v g d1 h0 h1
    obtain ⟨y, hy, hv⟩ := hobt
    rcases List.mem_cons.1 hy with rfl | hy
    · exact absurd ⟨hv.1.symm, hv.2.1.symm⟩ e2
    · exact ⟨y, hy, hv⟩
  · obtain ⟨g1, g2⟩ := h.qin y (List.mem_cons_of_mem _ hy)
    exact ⟨g1, fun hf => g2 (hback _ _ hf).2⟩
  · by_cases e : v = x.n ∧ g = x.h
    · rw [e.1, e.2]; exact Int.le_refl _
    · rw [don2_ne e] at hv; exact h.ord v g x.n x.h hv hd x0 hH
theorem LI.done (hg : goodN n ks) (h : LI n s ks H B D [] (fun _ => False) ph) : ∀ v l c, Wk ks s v l c → (l.length : Int) ≤ H + 1 → ∃ g : Nat, (g : Int) + 1 ≤ l.length ∧ 0 ≤ (B v g).c ∧ leB (B v g).c (B v g).l c l := by
  intro v l c hw
  induction hw with
  | one => intro _; exact ⟨0, by simp, h.st⟩
  | snoc u l c i hw hi hf ih =>
    subst hf
    intro hl
    simp only [List.length_append, List.length_singleton] at hl ⊢
    have hli := hg.link hi
    have hobt := ih (by omega)
    obtain ⟨g, h1, h2, h3⟩ := hobt
    have hd : D (lk ks i).f g = true := by
      cases hd : D (lk ks i).f g with
      | true => rfl
      | false =>
        have hobt := h.que _ _ hd h2 (by omega)
        obtain ⟨x, hx, _⟩ := hobt
        cases hx
    rcases h.clo i hi g hd fun hh => hh.1 with h4 | h4
    · obtain ⟨j, hj, hjt⟩ := List.getElem_of_mem h4
      have hobt := h.path _ _ h2
      obtain ⟨-, -, -, -, -, -, g7, g8⟩ := hobt
      have h5 := g8 j hj
      rw [hjt] at h5
      have := h3.cost
      exact ⟨j, by omega, h5.1, leB.of_cost (by omega)⟩
    · refine ⟨g + 1, by omega, ?_⟩
      rw [show ((g + 1 : Nat) : Int) = (g : Int) + 1 from by omega]
      exact ⟨h4.1, h4.2.trans (leB.snoc.2 h3)⟩
def b0 : PB := fun _ _ => ⟨[], -1, false⟩
theorem LI.start (hs : 0 ≤ s ∧ s < n) (hH : 0 ≤ H) {x : It} (hx : x.n = s ∧ x.h = 0 ∧ x.c = 0) : LI n s ks H (upd2 b0 s 0 ⟨[s], 0, false⟩) (fun _ _ => false) [x] (fun _ => False) 0 := by
  refine ⟨by rw [upd2_at]; exact ⟨Int.le_refl 0, leB.refl _ _⟩, fun v g h0 => ?_, fun v g h0 => ?_, fun v g hd => (by cases hd), fun u g v h d1 => (by cases d1), fun i _ g hd => (by cases hd), fun v g _ h0 _ => ?_, fun y hy => ?_⟩
  · by_cases e : v = s ∧ g = 0
    · obtain ⟨rfl, rfl⟩ := e
      rw [upd2_at]
      refine ⟨hs.1, hs.2, by omega, hH, .one, by simp, by simp, fun j hj => ?_⟩
      simp at hj
      subst hj
      simp only [List.getElem_cons_zero]
      rw [show ((0 : Nat) : Int) = 0 from rfl, upd2_at]
      simp
    · rw [upd2_ne e] at h0; simp [b0] at h0
  · by_cases e : v = s ∧ g = 0
    · rw [e.1, e.2, upd2_at] at h0; simp at h0
    · rw [upd2_ne e]; exact ⟨rfl, rfl⟩
  · by_cases e : v = s ∧ g = 0
    · obtain ⟨rfl, rfl⟩ := e
      rw [upd2_at]; exact ⟨x, by simp, hx⟩
    · rw [upd2_ne e] at h0; simp [b0] at h0
  · simp at hy; subst hy
    rw [hx.1, hx.2.1, upd2_at]
    exact ⟨by simp, fun _ => by simp only []; omega⟩
def unH (ks : List Lk) (D : PD) : Nat → Nat
  | 0 => 0
  | H + 1 => unH ks D H + un ks (fun v => ⟨[], 0, D v H⟩)
theorem unH_le : ∀ H : Nat, unH ks D H ≤ H * ks.length
  | 0 => by simp [unH]
  | H + 1 => by
    have := unH_le H
    have := un_le (ks := ks) (w := fun v => ⟨[], 0, D v H⟩)
    simp only [unH, Nat.succ_mul]; omega
theorem un_one {D D' : PD} {h : Int} (hd : ∀ v, D' v h = D v h) : un ks (fun v => ⟨[], 0, D' v h⟩) = un ks (fun v => ⟨[], 0, D v h⟩) := by
  unfold un; congr 1; apply List.filter_congr; intro i _; simp only [hd]
theorem unH_ge {u h : Int} : ∀ H : Nat, (H : Int) ≤ h → unH ks (don2 D u h) H = unH ks D H
  | 0, _ => rfl
  | H + 1, hH => by
    have ih := unH_ge (u := u) (h := h) H (by omega)
    simp only [unH]
    rw [ih, un_one fun v => don2_ne (by omega)]
theorem unH_don {u : Int} {h : Nat} (hd : D u h = false) : ∀ H : Nat, h < H → unH ks (don2 D u h) H + (outsN ks u ks.length).length = unH ks D H
  | 0, hH => by omega
  | H + 1, hH => by
    simp only [unH]
    by_cases e : h = H
    · subst e
      rw [unH_ge h (by omega)]
      have h1 := un_sett (ks := ks) (w := fun v => ⟨[], 0, D v h⟩) (u := u) hd
      have h2 : un ks (fun v => ⟨[], 0, don2 D u h v h⟩) = un ks (sett (fun v => ⟨[], 0, D v h⟩) u) := by
        unfold un; congr 1; apply List.filter_congr; intro i _
        unfold sett upd don2
        by_cases e : (lk ks i).f = u <;> simp [e]
      rw [h2]; omega
    · have ih := unH_don (u := u) hd H (by omega)
      rw [un_one (D := D) (D' := don2 D u h) (h := H) fun v => don2_ne (by omega)]
      omega
end
end Go.Proofs.YtnlopamlmojbgaaGreat.AC
/- Bits of numbers, without the program. -/
namespace Go.Proofs.YtnlopamlmojbgaaGreat.AC
open Go Go.AI Go.Proofs Go.Proofs.YtnlopamlmojbgaaGreat.AQ
set_option linter.unusedVariables false
theorem bv_nat {n x : Nat} (h : x < 2 ^ n) : (BitVec.ofInt n (x : Int)).toNat = x := by
  rw [BitVec.ofInt_natCast, BitVec.toNat_ofNat, Nat.mod_eq_of_lt h]
theorem u32_and {x y : Nat} (hx : x < 4294967296) (hy : y < 4294967296) : IntKind.u32.wrap (((BitVec.ofInt IntKind.u32.bits (x : Int) &&& BitVec.ofInt IntKind.u32.bits (y : Int)).toNat : Nat) : Int) = ((x &&& y : Nat) : Int) := by
  have hb : IntKind.u32.bits = 32 := rfl
  rw [hb, BitVec.toNat_and, bv_nat (by omega), bv_nat (by omega)]
  have : x &&& y < 4294967296 := Nat.lt_of_le_of_lt Nat.and_le_left hx
  rw [IntKind.wrap_u32]; omega
theorem u32_andNot {x y : Nat} (hx : x < 4294967296) (hy : y < 4294967296) : IntKind.u32.wrap (((BitVec.ofInt IntKind.u32.bits (x : Int) &&& ~~~ BitVec.ofInt IntKind.u32.bits (y : Int)).toNat : Nat) : Int) = ((x &&& (4294967295 - y) : Nat) : Int) := by
  have hb : IntKind.u32.bits = 32 := rfl
  rw [hb, BitVec.toNat_and, BitVec.toNat_not, bv_nat (by omega), bv_nat (by omega)]
  rw [show (2 : Nat) ^ 32 - 1 - y = 4294967295 - y from by omega]
  have : x &&& (4294967295 - y) < 4294967296 := Nat.lt_of_le_of_lt Nat.and_le_left hx
  rw [IntKind.wrap_u32]; omega
def comB (x y : Nat) : Bool := decide ((x &&& y) ≠ 0)
def witB (x y : Nat) : Bool := decide ((x &&& (4294967295 - y)) = 0)
theorem bit_hi {x i : Nat} (h : x < 4294967296) (hi : 32 ≤ i) : x.testBit i = false := Nat.testBit_lt_two_pow (Nat.lt_of_lt_of_le h (by
  have : (2 : Nat) ^ 32 ≤ 2 ^ i := Nat.pow_le_pow_right (by omega) hi
  omega))
theorem comB_iff {x y : Nat} (hx : x < 4294967296) : comB x y = true ↔ ∃ i, i < 32 ∧ x.testBit i = true ∧ y.testBit i = true := by
  unfold comB
  rw [decide_eq_true_eq]
  constructor
  · intro h
    have hobt := Nat.exists_testBit_of_ne_zero h
    obtain ⟨i, hi⟩ := hobt
    rw [Nat.testBit_and, Bool.and_eq_true] at hi
    refine ⟨i, ?_, hi⟩
    by_cases hh : i < 32
    · exact hh
    · rw [bit_hi hx (by omega)] at hi; cases hi.1
  · rintro ⟨i, -, h1, h2⟩ h
    have : (x &&& y).testBit i = true := by rw [Nat.testBit_and, h1, h2]; rfl
    rw [h] at this; simp at this
theorem not_bit {y i : Nat} (hy : y < 4294967296) (hi : i < 32) : (4294967295 - y).testBit i = !y.testBit i := by
  have := Nat.testBit_two_pow_sub_succ (x := y) (n := 32) (by omega) i
  rw [show (2 : Nat) ^ 32 - (y + 1) = 4294967295 - y from by omega] at this
  rw [this]; simp [hi]
theorem witB_iff {x y : Nat} (hx : x < 4294967296) (hy : y < 4294967296) : witB x y = true ↔ ∀ i, i < 32 → x.testBit i = true → y.testBit i = true := by
  unfold witB
  rw [decide_eq_true_eq]
  constructor
  · intro h i hi h1
    cases h2 : y.testBit i with
    | true => rfl
    | false =>
      have : (x &&& (4294967295 - y)).testBit i = true := by rw [Nat.testBit_and, h1, not_bit hy hi, h2]; rfl
      rw [h] at this; simp at this
  · intro h
    refine Nat.eq_of_testBit_eq fun i => ?_
    rw [Nat.testBit_and, Nat.zero_testBit]
    by_cases hi : i < 32
    · rw [not_bit hy hi]
      cases h1 : x.testBit i with
      | false => rfl
      | true => rw [h i hi h1]; rfl
    · rw [bit_hi hx (by omega)]; rfl
theorem bit_div {x i : Nat} : x.testBit i = decide (x / 2 ^ i % 2 = 1) := Nat.testBit_eq_decide_div_mod_eq
theorem half {x i : Nat} : x / 2 ^ i / 2 = x / 2 ^ (i + 1) := by rw [Nat.div_div_eq_div_mul, Nat.pow_succ]
structure Wt where
  bw : Nat
  setup : Int
  hold : Int
  any : Nat
  all : Nat
  no : Nat
  deriving DecidableEq
def Wt.enc (w : Wt) : List Value := [.int .u64 w.bw, .int .i64 w.setup, .int .i64 w.hold, .int .u32 w.any, .int .u32 w.all, .int .u32 w.no]
theorem Wt.cells (w : Wt) : w.enc[0]? = some (.int .u64 w.bw) ∧ w.enc[1]? = some (.int .i64 w.setup) ∧ w.enc[2]? = some (.int .i64 w.hold) ∧ w.enc[3]? = some (.int .u32 w.any) ∧ w.enc[4]? = some (.int .u32 w.all) ∧ w.enc[5]? = some (.int .u32 w.no) := ⟨rfl, rfl, rfl, rfl, rfl, rfl⟩
def Wt.wf (w : Wt) : Prop := w.bw < 18446744073709551616 ∧ w.any < 4294967296 ∧ w.all < 4294967296 ∧ w.no < 4294967296
def rightB (w : Wt) : Bool := decide (0 ≤ w.hold ∧ w.hold ≤ w.setup ∧ w.setup ≤ 7)
theorem right_ok (w : Wt) (A : AH) : ACall Tryz.prog 44 [.agg w.enc.toArray] A fun v A' => v = .bool (rightB w) ∧ Ext A A' := by
  refine code44.call (by simp) fun hwf => ?_
  unfold c44
  have x1 := Ext.alloc A (.row w.enc 36 false)
  simp [Wt.enc, AH.get_alloc]
  by_cases h1 : w.setup ≤ 7
  · by_cases h2 : w.hold ≤ w.setup
    · simp [Wt.enc, h1, h2, AH.get_alloc]
      exact DN.of ⟨by simp [rightB, h1, h2], x1⟩
    · simp [Wt.enc, h1, h2, AH.get_alloc]
      exact DN.of ⟨by simp [rightB, h1, h2], x1⟩
  · simp [Wt.enc, h1, AH.get_alloc]
    exact DN.of ⟨by simp [rightB, h1], x1⟩
theorem rright_ok (w : Wt) (A : AH) : ACall Tryz.prog 39 [.agg w.enc.toArray] A fun v A' => v = .bool (rightB w) ∧ Ext A A' := by
  refine code39.call (by simp) fun hwf => ?_
  unfold c39
  have x1 := Ext.alloc A (.row w.enc 36 false)
  simp [Wt.enc, AH.get_alloc]
  by_cases h0 : 0 ≤ w.setup
  rotate_left
  · simp [Wt.enc, h0, AH.get_alloc]
    exact DN.of ⟨by simp [rightB]; omega, x1⟩
  by_cases h1 : w.setup ≤ 7
  rotate_left
  · simp [Wt.enc, h0, h1, AH.get_alloc]
    exact DN.of ⟨by simp [rightB, h1], x1⟩
  by_cases h2 : 0 ≤ w.hold
  · simp [Wt.enc, h0, h1, h2, AH.get_alloc]
    exact DN.of ⟨by simp [rightB, h1, h2], x1⟩
  · simp [Wt.enc, h0, h1, h2, AH.get_alloc]
    exact DN.of ⟨by simp [rightB, h1, h2], x1⟩
def andI (k : IntKind) (a b : Int) : Int := k.wrap ((BitVec.ofInt k.bits a &&& BitVec.ofInt k.bits b).toNat : Nat)
def andNI (k : IntKind) (a b : Int) : Int := k.wrap ((BitVec.ofInt k.bits a &&& ~~~ BitVec.ofInt k.bits b).toNat : Nat)
@[simp] theorem intBin_and (k : IntKind) (a b : Int) : intBin .and k a b = some (.int k (andI k a b)) := (rfl)
@[simp] theorem intBin_andNot (k : IntKind) (a b : Int) : intBin .andNot k a b = some (.int k (andNI k a b)) := (rfl)
theorem and_u32 {x y : Nat} (hx : x < 4294967296) (hy : y < 4294967296) : andI .u32 x y = ((x &&& y : Nat) : Int) := u32_and hx hy
theorem andN_u32 {x y : Nat} (hx : x < 4294967296) (hy : y < 4294967296) : andNI .u32 x y = ((x &&& (4294967295 - y) : Nat) : Int) := u32_andNot hx hy
def allB (w : Wt) (g : Nat) : Bool := (decide (w.any = 0) || comB w.any g) && (witB w.all g && !comB w.no g)
theorem allows_ok (w : Wt) (hw : w.wf) (g : Nat) (hg : g < 4294967296) (A : AH) : ACall Tryz.prog 110 [.agg w.enc.toArray, .int .u32 g] A fun v A' => v = .bool (allB w g) ∧ Ext A A' := by
  obtain ⟨-, w1, w2, w3⟩ := hw
  have hobt := w.cells
  obtain ⟨-, -, -, k3, k4, k5⟩ := hobt
  refine code110.call (by simp) fun hwf => ?_
  unfold c110
  have x1 := Ext.alloc A (.row w.enc 36 false)
  have e1 := and_u32 w1 hg
  have e2 := andN_u32 w2 hg
  have e3 := and_u32 w3 hg
  simp [k3, AH.get_alloc]
  have fin : ∀ (b : Bool) (B : AH), Ext A B → b = allB w g → Value.bool b = .bool (allB w g) ∧ Ext A B := fun b B x h => ⟨by rw [h], x⟩
  unfold allB comB witB at fin
  by_cases h1n : w.any = 0
  · have h1 := eq_true h1n
    by_cases h2 : w.all &&& (4294967295 - g) = 0
    · by_cases h3 : w.no &&& g = 0
      · simp [h1n, e2, e3, h2, h3, k3, k4, k5, AH.get_alloc]; exact DN.of (fin true _ x1 (by simp [h1n, h2, h3]))
      · simp [h1n, e2, e3, h2, h3, k3, k4, k5, AH.get_alloc]; exact DN.of (fin false _ x1 (by simp [h1n, h2, h3]))
    · simp [h1n, e2, e3, h2, k3, k4, k5, AH.get_alloc]; exact DN.of (fin false _ x1 (by simp [h1n, h2]))
  · by_cases h0 : w.any &&& g = 0
    · simp [h1n, e1, h0, k3, k4, k5, AH.get_alloc]; exact DN.of (fin false _ x1 (by simp [h1n, h0]))
    · by_cases h2 : w.all &&& (4294967295 - g) = 0
      · by_cases h3 : w.no &&& g = 0
        · simp [h1n, e1, h0, e2, e3, h2, h3, k3, k4, k5, AH.get_alloc]; exact DN.of (fin true _ x1 (by simp [h1n, h0, h2, h3]))
        · simp [h1n, e1, h0, e2, e3, h2, h3, k3, k4, k5, AH.get_alloc]; exact DN.of (fin false _ x1 (by simp [h1n, h0, h2, h3]))
      · simp [h1n, e1, h0, e2, e3, h2, k3, k4, k5, AH.get_alloc]; exact DN.of (fin false _ x1 (by simp [h1n, h0, h2]))
theorem bit_at {x i : Nat} : (((x / 2 ^ i : Nat) : Int).tmod 2 = 1 ↔ x.testBit i = true) ∧ (((x / 2 ^ i : Nat) : Int).tmod 2 = 0 ↔ x.testBit i = false) := by
  rw [bit_div, decide_eq_true_eq, decide_eq_false_iff_not]
  generalize x / 2 ^ i = y
  rw [show ((y : Int).tmod 2) = ((y % 2 : Nat) : Int) from by rw [Int.tmod_eq_emod_of_nonneg (by omega)]; omega]
  omega
theorem half_i {x i : Nat} (hx : x < 4294967296) : IntKind.u32.wrap (((x / 2 ^ i : Nat) : Int).tdiv 2) = ((x / 2 ^ (i + 1) : Nat) : Int) := by
  rw [← half]
  have : x / 2 ^ i ≤ x := Nat.div_le_self _ _
  generalize x / 2 ^ i = y at this ⊢
  rw [Int.tdiv_eq_ediv_of_nonneg (by omega), IntKind.wrap_u32]
  omega
theorem rcommon_ok (x y : Nat) (hx : x < 4294967296) (hy : y < 4294967296) (A : AH) : ACall Tryz.prog 98 [.int .u32 x, .int .u32 y] A fun v A' => v = .bool (comB x y) ∧ A' = A := by
  refine code98.call (by simp) fun hwf => ?_
  unfold c98
  simp
  refine LN.use (fun m E A' => ∃ k : Nat, m + k = 32 ∧ A' = A ∧ E.get 0 = .int .u32 (x / 2 ^ k : Nat) ∧ E.get 1 = .int .u32 (y / 2 ^ k : Nat) ∧ E.get 5 = .int .i64 k ∧ ∀ j, j < k → ¬ (x.testBit j = true ∧ y.testBit j = true)) 32
    ⟨0, by omega, rfl, by simp, by simp, by simp, fun j h => by omega⟩ ?_
  rintro m E _ - - ⟨k, hk, rfl, E0, E1, E5, hI⟩
  by_cases hlt : (k : Int) < 32
  · have hi : IntKind.i64.wrap ((k : Int) + 1) = ((k + 1 : Nat) : Int) := by rw [i64_in (by omega) (by omega)]; simp
    have h1 := half_i (i := k) hx
    have h2 := half_i (i := k) hy
    have b1 := (bit_at (x := x) (i := k)).1
    have b2 := (bit_at (x := y) (i := k)).1
    generalize hq1 : ((x / 2 ^ k : Nat) : Int) = q1 at E0 h1 b1
    generalize hq2 : ((y / 2 ^ k : Nat) : Int) = q2 at E1 h2 b2
    generalize hr1 : ((x / 2 ^ (k + 1) : Nat) : Int) = r1 at h1
    generalize hr2 : ((y / 2 ^ (k + 1) : Nat) : Int) = r2 at h2
    by_cases c1 : q1.tmod 2 = 1
    · by_cases c2 : q2.tmod 2 = 1
      · simp [E0, E1, E5, hlt, c1, c2]
        exact DN.of ⟨by rw [(comB_iff hx).2 ⟨k, by omega, b1.1 c1, b2.1 c2⟩], rfl⟩
      · simp [E0, E1, E5, hlt, c1, c2, h1, h2, hi]
        refine NX.of ⟨m - 1, by omega, k + 1, by omega, rfl, by simp [hr1], by simp [hr2], by simp, fun j hj hh => ?_⟩
        by_cases e : j = k
        · subst e; exact c2 (b2.2 hh.2)
        · exact hI j (by omega) hh
    · simp [E0, E1, E5, hlt, c1, h1, h2, hi]
      refine NX.of ⟨m - 1, by omega, k + 1, by omega, rfl, by simp [hr1], by simp [hr2], by simp, fun j hj hh => ?_⟩
      by_cases e : j = k
      · subst e; exact c1 (b1.2 hh.1)
      · exact hI j (by omega) hh
  · simp [E5, hlt]
    refine DN.of ⟨?_, rfl⟩
    congr 1
    cases hc : comB x y with
    | false => rfl
    | true => obtain ⟨i, hi, hb⟩ := (comB_iff hx).1 hc; exact absurd hb (hI i (by omega))
theorem rwithin_ok (x y : Nat) (hx : x < 4294967296) (hy : y < 4294967296) (A : AH) : ACall Tryz.prog 99 [.int .u32 x, .int .u32 y] A fun v A' => v = .bool (witB x y) ∧ A' = A := by
  refine code99.call (by simp) fun hwf => ?_
  unfold c99
  simp
  refine LN.use (fun m E A' => ∃ k : Nat, m + k = 32 ∧ A' = A ∧ E.get 0 = .int .u32 (x / 2 ^ k : Nat) ∧ E.get 1 = .int .u32 (y / 2 ^ k : Nat) ∧ E.get 5 = .int .i64 k ∧ ∀ j, j < k → x.testBit j = true → y.testBit j = true) 32
    ⟨0, by omega, rfl, by simp, by simp, by simp, fun j h => by omega⟩ ?_
  rintro m E _ - - ⟨k, hk, rfl, E0, E1, E5, hI⟩
  by_cases hlt : (k : Int) < 32
  · have hi : IntKind.i64.wrap ((k : Int) + 1) = ((k + 1 : Nat) : Int) := by rw [i64_in (by omega) (by omega)]; simp
    have h1 := half_i (i := k) hx
    have h2 := half_i (i := k) hy
    have b1 := (bit_at (x := x) (i := k)).1
    have b2 := (bit_at (x := y) (i := k)).2
    generalize hq1 : ((x / 2 ^ k : Nat) : Int) = q1 at E0 h1 b1
    generalize hq2 : ((y / 2 ^ k : Nat) : Int) = q2 at E1 h2 b2
    generalize hr1 : ((x / 2 ^ (k + 1) : Nat) : Int) = r1 at h1
    generalize hr2 : ((y / 2 ^ (k + 1) : Nat) : Int) = r2 at h2
    by_cases c1 : q1.tmod 2 = 1
    · by_cases c2 : q2.tmod 2 = 0
      · simp [E0, E1, E5, hlt, c1, c2]
        refine DN.of ⟨?_, rfl⟩
        congr 1
        cases hc : witB x y with
        | false => rfl
        | true => have := (witB_iff hx hy).1 hc k (by omega) (b1.1 c1); rw [b2.1 c2] at this; cases this
      · simp [E0, E1, E5, hlt, c1, c2, h1, h2, hi]
        refine NX.of ⟨m - 1, by omega, k + 1, by omega, rfl, by simp [hr1], by simp [hr2], by simp, fun j hj hh => ?_⟩
        by_cases e : j = k
        · subst e
          cases hy2 : y.testBit j with
          | true => rfl
          | false => exact absurd (b2.2 hy2) c2
        · exact hI j (by omega) hh
    · simp [E0, E1, E5, hlt, c1, h1, h2, hi]
      refine NX.of ⟨m - 1, by omega, k + 1, by omega, rfl, by simp [hr1], by simp [hr2], by simp, fun j hj hh => ?_⟩
      by_cases e : j = k
      · subst e; exact absurd (b1.2 hh) c1
      · exact hI j (by omega) hh
  · simp [E5, hlt]
    refine DN.of ⟨?_, rfl⟩
    rw [(witB_iff hx hy).2 fun i hi => hI i (by omega)]
theorem rallows_ok (w : Wt) (hw : w.wf) (g : Nat) (hg : g < 4294967296) (A : AH) : ACall Tryz.prog 85 [.agg w.enc.toArray, .int .u32 g] A fun v A' => v = .bool (allB w g) ∧ Ext A A' := by
  obtain ⟨-, w1, w2, w3⟩ := hw
  have hobt := w.cells
  obtain ⟨-, -, -, k3, k4, k5⟩ := hobt
  refine code85.call (by simp) fun hwf => ?_
  unfold c85
  have x1 := Ext.alloc A (.row w.enc 36 false)
  simp [k3, AH.get_alloc]
  have fin : ∀ (b : Bool) (B : AH), Ext A B → b = allB w g → Value.bool b = .bool (allB w g) ∧ Ext A B := fun b B x h => ⟨by rw [h], x⟩
  unfold allB at fin
  by_cases h1n : w.any = 0
  · have h1 := eq_true h1n
    simp [h1n, k3, k4, k5, AH.get_alloc]
    refine CN.use (rwithin_ok _ _ w2 hg _) ?_
    rintro _ _ - - ⟨rfl, rfl⟩
    cases h2 : witB w.all g with
    | false => simp [h1n]; exact DN.of (fin false _ x1 (by simp [h1n, h2]))
    | true =>
      simp [h1n, k3, k4, k5, AH.get_alloc]
      refine CN.use (rcommon_ok _ _ w3 hg _) ?_
      rintro _ _ - - ⟨rfl, rfl⟩
      simp
      exact DN.of (fin (!comB w.no g) _ x1 (by simp [h1n, h2]))
  · simp [h1n, k3, k4, k5, AH.get_alloc]
    refine CN.use (rcommon_ok _ _ w1 hg _) ?_
    rintro _ _ - - ⟨rfl, rfl⟩
    cases h0 : comB w.any g with
    | false => simp [h1n]; exact DN.of (fin false _ x1 (by simp [h1n, h0]))
    | true =>
      simp [h1n, k3, k4, k5, AH.get_alloc]
      refine CN.use (rwithin_ok _ _ w2 hg _) ?_
      rintro _ _ - - ⟨rfl, rfl⟩
      cases h2 : witB w.all g with
      | false => simp [h1n]; exact DN.of (fin false _ x1 (by simp [h0, h2]))
      | true =>
        simp [h1n, k3, k4, k5, AH.get_alloc]
        refine CN.use (rcommon_ok _ _ w3 hg _) ?_
        rintro _ _ - - ⟨rfl, rfl⟩
        simp
        exact DN.of (fin (!comB w.no g) _ x1 (by simp [h0, h2]))
def addP (x y : Nat) : Nat × Bool := if x + y < 18446744073709551616 then (x + y, true) else (0, false)
theorem add64_ok (x y : Nat) (hx : x < 18446744073709551616) (hy : y < 18446744073709551616) (A : AH) : ACall Tryz.prog 122 [.int .u64 x, .int .u64 y, .int .u64 0] A fun v A' => v = .tuple #[.int .u64 ((x + y) % 18446744073709551616 : Nat), .int .u64 ((x + y) / 18446744073709551616 : Nat)] ∧ A' = A := by
  intro m w args' hR hl
  obtain ⟨a0, a1, a2, rfl⟩ : ∃ a0 a1 a2, args' = #[a0, a1, a2] := by
    have := hl.1
    simp at this
    obtain ⟨l, hl'⟩ : ∃ l, args' = ⟨l⟩ := ⟨args'.toList, rfl⟩
    subst hl'
    match l, this with
    | [a0, a1, a2], _ => exact ⟨a0, a1, a2, rfl⟩
  have h0 : VRel m _ a0 := hl.2 0 _ _ rfl rfl
  have h1 : VRel m _ a1 := hl.2 1 _ _ rfl rfl
  have h2 : VRel m _ a2 := hl.2 2 _ _ rfl rfl
  cases h0
  cases h1
  cases h2
  have hrun : (callFunc 122 #[.int .u64 (x : Int), .int .u64 (y : Int), .int .u64 0]).run Tryz.prog w = .ok (.value (.tuple #[.int .u64 ((x + y) % 18446744073709551616 : Nat), .int .u64 ((x + y) / 18446744073709551616 : Nat)])) w := by
    rw [run_callFunc_extern Tryz.func122 (by kernel_rfl) (by kernel_rfl) (by kernel_rfl) (e := add64Entry) (by kernel_rfl), run_add64 x y 0 (by omega) (by omega) (by omega) (by omega)]
    simp only [Result.andThen]
    congr 5 <;> omega
  refine Or.inr ⟨_, _, hrun, _, A, m, ⟨rfl, rfl⟩, hR, ?_, Step.refl _ _ _⟩
  exact VRel.tuple_iff.2 (LRel.cons (.int _ _) (LRel.cons (.int _ _) (LRel.nil m)))
theorem ladd_ok (x y : Nat) (hx : x < 18446744073709551616) (hy : y < 18446744073709551616) (A : AH) : ACall Tryz.prog 112 [.int .u64 x, .int .u64 y] A fun v A' => v = .tuple #[.int .u64 (addP x y).1, .bool (addP x y).2] ∧ A' = A := by
  refine code112.call (by simp) fun hwf => ?_
  unfold c112
  simp
  refine CN.use (add64_ok x y hx hy A) ?_
  rintro _ _ - - ⟨rfl, rfl⟩
  by_cases h : x + y < 18446744073709551616
  · have h1 : (x + y) / 18446744073709551616 = 0 := by omega
    have h2 : (x + y) % 18446744073709551616 = x + y := by omega
    rw [h1, h2]
    simp
    exact DN.of ⟨by simp [addP, h], rfl⟩
  · have h1 : (x + y) / 18446744073709551616 = 1 := by omega
    rw [h1]
    simp
    exact DN.of ⟨by simp [addP, h], rfl⟩
theorem wrap_u64 (n : Int) : IntKind.u64.wrap n = n % 18446744073709551616 := by simp [IntKind.wrap, IntKind.bits, IntKind.signed]
theorem radd_ok (x y : Nat) (hx : x < 18446744073709551616) (hy : y < 18446744073709551616) (A : AH) : ACall Tryz.prog 86 [.int .u64 x, .int .u64 y] A fun v A' => v = .tuple #[.int .u64 (addP x y).1, .bool (addP x y).2] ∧ A' = A := by
  have h1 : IntKind.u64.wrap (18446744073709551615 - (y : Int)) = ((18446744073709551615 - y : Nat) : Int) := by rw [wrap_u64]; omega
  by_cases h : x + y < 18446744073709551616
  · have h2 : IntKind.u64.wrap ((x : Int) + y) = ((x + y : Nat) : Int) := by rw [wrap_u64]; omega
    have h3 : ¬ ((18446744073709551615 - y : Nat) : Int) < x := by omega
    refine code86.call (by simp) fun hwf => ?_
    unfold c86
    generalize ((18446744073709551615 - y : Nat) : Int) = z at h1 h3
    simp [h1, h2, h3]
    exact DN.of ⟨by simp [addP, h], rfl⟩
  · have h3 : ((18446744073709551615 - y : Nat) : Int) < x := by omega
    refine code86.call (by simp) fun hwf => ?_
    unfold c86
    generalize ((18446744073709551615 - y : Nat) : Int) = z at h1 h3
    simp [h1, h3]
    exact DN.of ⟨by simp [addP, h], rfl⟩
theorem index_ok {A : AH} {a : Option Addr} {c : Nat} {l : List Int} (h : Sl A 3 1 a (ints l)) (hl : l.length ≤ 1000000000) (x : Int) : ACall Tryz.prog 126 [.slice a l.length c, .int .i64 x] A fun v A' => (∃ n : Int, v = .int .i64 n ∧ (0 ≤ n ↔ x ∈ l)) ∧ A' = A := by
  refine code126.call (by simp) fun hwf => ?_
  unfold c126
  simp
  refine LN.use (fun m E A' => ∃ k, m + k = l.length ∧ A' = A ∧ E.get 0 = .slice a l.length c ∧ E.get 1 = .int .i64 x ∧ E.get 7 = .int .i64 l.length ∧ E.get 8 = .int .i64 k ∧ x ∉ l.take k) l.length ⟨0, by simp, rfl, by simp, by simp, by simp, by simp, by simp⟩ ?_
  rintro m E _ - - ⟨k, hk, rfl, e0, e1, e7, e8, hI⟩
  simp [e7, e8]
  split
  · rename_i hlt
    have hobt := h.one (Go.AI.ints_at (l := l) (i := k) (by omega))
    obtain ⟨b, o, cs, ro, rfl, h1, h2⟩ := hobt
    simp [h1, h2, e0, e1, e8, hlt]
    split
    · rename_i he
      exact DN.of ⟨⟨_, rfl, ⟨fun _ => by rw [he]; exact List.getElem_mem _, fun _ => by omega⟩⟩, rfl⟩
    · rename_i he
      exact NX.of ⟨m - 1, by omega, k + 1, by omega, rfl, by simp [e0], by simp [e1], by simp [e7], by simp [i64_in (x := (k : Int) + 1) (by omega) (by omega)], by rw [List.take_succ_eq_append_getElem hlt, List.mem_append, List.mem_singleton]; exact fun e => e.elim hI he⟩
  · rename_i hlt
    rw [List.take_of_length_le (by omega)] at hI
    exact DN.of ⟨⟨_, rfl, by simp [hI]⟩, rfl⟩
theorem contains_ok {A : AH} {a : Option Addr} {c : Nat} {l : List Int} (h : Sl A 3 1 a (ints l)) (hl : l.length ≤ 1000000000) (x : Int) : ACall Tryz.prog 120 [.slice a l.length c, .int .i64 x] A fun v A' => v = .bool (decide (x ∈ l)) ∧ A' = A := by
  refine code120.call (by simp) fun hwf => ?_
  unfold c120
  simp
  refine CN.use (index_ok h hl x) ?_
  rintro _ _ - - ⟨⟨n, rfl, hn⟩, rfl⟩
  simp
  exact DN.of ⟨by simp [hn], rfl⟩
def prE (p : Int × Int) : List Value := [.int .i64 p.1, .int .i64 p.2]
theorem pr_eq (A : AH) (p q : Int × Int) : aBin Tryz.prog A .eql 167 (.agg (prE p).toArray) (.agg (prE q).toArray) = some (.bool (decide (p = q))) := by
  have h := aEq_arr (P := Tryz.prog) (T := 167) (e := 3) (n := 2) (s := 1) Tryz.underlying167 sz3 A 19 (prE p) (prE q)
  refine (aBin_eql_agg A 167 (prE p).toArray (prE q).toArray (by kernel_rfl)).trans ?_
  simp only [Nat.reduceAdd] at h
  rw [h]
  obtain ⟨a, b⟩ := p
  obtain ⟨c, d⟩ := q
  by_cases h1 : a = c
  · by_cases h2 : b = d
    · simp [prE, h1, h2, List.range_succ]
    · simp [prE, h1, h2, List.range_succ]
  · simp [prE, h1, List.range_succ]
theorem pr_build (i j : Int) : aBuild Tryz.prog 167 [(0, .int .i64 i), (1, .int .i64 j)] = some (.agg #[.int .i64 i, .int .i64 j]) := by
  rw [aBuild_arr (P := Tryz.prog) Tryz.underlying167 sz3 ze167]
  rfl
theorem index2_ok {A : AH} {a : Option Addr} {c : Nat} {l : List (Int × Int)} (h : Sl A 167 2 a (l.map prE)) (hl : l.length ≤ 1000000000) (x : Int × Int) : ACall Tryz.prog 127 [.slice a l.length c, .agg (prE x).toArray] A fun v A' => (∃ n : Int, v = .int .i64 n ∧ (0 ≤ n ↔ x ∈ l)) ∧ Ext A A' := by
  refine code127.call (by simp) fun hwf => ?_
  unfold c127
  have x0 := Ext.alloc A (.row (prE x) 167 false)
  have hw0 := AH.wf_alloc hwf (.row (prE x) 167 false)
  simp
  refine LN.use (fun m E A' => ∃ k, m + k = l.length ∧ A' = A.alloc (.row (prE x) 167 false) ∧ E.get 0 = .slice a l.length c ∧ E.get 3 = .pointer (some ⟨A.next, 0, none⟩) ∧ E.get 7 = .int .i64 l.length ∧ E.get 8 = .int .i64 k ∧ x ∉ l.take k) l.length ⟨0, by simp, rfl, by simp, by simp, by simp, by simp, by simp⟩ ?_
  rintro m E _ - - ⟨k, hk, rfl, e0, e3, e7, e8, hI⟩
  by_cases hlt : k < l.length
  · have hlt' : (k : Int) < l.length := by omega
    have hobt := (h.ext hwf x0).at (i := k) (by simpa using hlt)
    obtain ⟨b, o, cs, q, rfl, g1, g2, g3⟩ := hobt
    rw [List.getElem_map] at g3
    have hpl : ∀ p : Int × Int, (prE p).length = 2 := fun _ => rfl
    have ht2 : List.take 2 (prE x) = prE x := rfl
    have hb : b ≠ A.next ∨ b = A.next := by omega
    have hgi : IntKind.i64.wrap ((k : Int) + 1) = ((k + 1 : Nat) : Int) := by rw [i64_in (by omega) (by omega)]; simp
    have heq := pr_eq (A.alloc (.row (prE x) 167 false)) x l[k]
    by_cases he : x = l[k]
    · rw [decide_eq_true he] at heq
      have heq2 := heq
      simp only [AH.get_alloc] at g1
      simp [e0, e3, e7, e8, hlt, hlt', g1, g2, g3, hpl, ht2, heq]
      refine DN.of ⟨⟨_, rfl, fun _ => by rw [he]; exact List.getElem_mem _, fun _ => by omega⟩, x0⟩
    · rw [decide_eq_false he] at heq
      simp only [AH.get_alloc] at g1
      simp [e0, e3, e7, e8, hlt, hlt', g1, g2, g3, hpl, ht2, heq, hgi]
      refine NX.of ⟨m - 1, by omega, k + 1, by omega, rfl, by simp [e0], by simp [e3], by simp [e7], by simp, ?_⟩
      rw [List.take_succ_eq_append_getElem hlt, List.mem_append, List.mem_singleton]
      exact fun e => e.elim hI he
  · have hlt' : ¬ (k : Int) < l.length := by omega
    simp [e7, e8, hlt']
    rw [List.take_of_length_le (by omega)] at hI
    exact DN.of ⟨⟨_, rfl, by simp [hI]⟩, x0⟩
theorem contains2_ok {A : AH} {a : Option Addr} {c : Nat} {l : List (Int × Int)} (h : Sl A 167 2 a (l.map prE)) (hl : l.length ≤ 1000000000) (x : Int × Int) : ACall Tryz.prog 121 [.slice a l.length c, .agg (prE x).toArray] A fun v A' => v = .bool (decide (x ∈ l)) ∧ Ext A A' := by
  refine code121.call (by simp) fun hwf => ?_
  unfold c121
  have x0 := Ext.alloc A (.row (prE x) 167 false)
  have hpl : ∀ p : Int × Int, (prE p).length = 2 := fun _ => rfl
  have ht2 : List.take 2 (prE x) = prE x := rfl
  simp [hpl, ht2]
  refine CN.use (index2_ok (c := c) (h.ext hwf x0) hl x) ?_
  rintro _ A1 - - ⟨⟨n, rfl, hn⟩, x1⟩
  simp
  exact DN.of ⟨by simp [hn], x0.trans (by simp) x1⟩
structure Ow where
  f : Int
  t : Int
  bw : Nat
def Ow.enc (o : Ow) : List Value := [.int .i64 o.f, .int .i64 o.t, .int .u64 o.bw]
structure Adv where
  k : Lk
  seq : Int
  up : Bool
  fr : List Nat
def Adv.enc (x : Adv) : List Value := x.k.enc ++ (.int .i64 x.seq :: .bool x.up :: x.fr.map fun n : Nat => .int .u64 n)
def Adv.wf (x : Adv) : Prop := x.fr.length = 8 ∧ (∀ n ∈ x.fr, n < 18446744073709551616) ∧ 0 ≤ x.k.g ∧ x.k.g < 4294967296
theorem Adv.cells {x : Adv} (h : x.fr.length = 8) : x.enc.length = 15 ∧ x.enc.all oneB = true ∧ List.take 5 x.enc = x.k.enc ∧ x.enc[4]? = some (.int .u32 x.k.g) ∧ x.enc[6]? = some (.bool x.up) ∧ ∀ i, i < 8 → x.enc[7 + i]? = some (.int .u64 (x.fr.getD i 0 : Nat)) := by
  refine ⟨by simp [Adv.enc, Lk.enc, h], by simp [Adv.enc, Lk.enc], rfl, rfl, rfl, fun i hi => ?_⟩
  have : x.enc[7 + i]? = (x.fr.map fun n : Nat => Value.int .u64 n)[i]? := by
    show (x.k.enc ++ (.int .i64 x.seq :: .bool x.up :: x.fr.map fun n : Nat => Value.int .u64 n))[7 + i]? = _
    rw [List.getElem?_append_right (by simp [Lk.enc]; omega)]
    simp only [Lk.enc, List.length_cons, List.length_nil]
    rw [show 7 + i - (0 + 1 + 1 + 1 + 1 + 1) = i + 2 from by omega]
    rfl
  rw [this, List.getElem?_map, List.getElem?_eq_getElem (by omega)]
  simp [List.getD, h, hi]
structure Ask where
  w : Wt
  nn : List Int
  nl : List (Int × Int)
  ow : List Ow
  hops : Int
structure AskM where
  q : Ask
  an : Option Addr
  cn : Nat
  al : Option Addr
  cl : Nat
  ao : Option Addr
  co : Nat
def AskM.enc (a : AskM) : List Value := a.q.w.enc ++ [.slice a.an a.q.nn.length a.cn, .slice a.al a.q.nl.length a.cl, .slice a.ao a.q.ow.length a.co, .int .i64 a.q.hops]
def Ask.wf (a : Ask) : Prop := a.w.wf ∧ (∀ o ∈ a.ow, o.bw < 18446744073709551616) ∧ a.nn.length ≤ 1000 ∧ a.nl.length ≤ 1000 ∧ a.ow.length ≤ 1000
def AskM.ok (A : AH) (e : TypeId) (a : AskM) : Prop := Sl A 3 1 a.an (ints a.q.nn) ∧ Sl A 167 2 a.al (a.q.nl.map prE) ∧ Sl A e 3 a.ao (a.q.ow.map Ow.enc)
theorem AskM.ok.ext {A A' : AH} {e : TypeId} {a : AskM} (h : a.ok A e) (hw : A.wf) (hx : Ext A A') : a.ok A' e := ⟨h.1.ext hw hx, h.2.1.ext hw hx, h.2.2.ext hw hx⟩
theorem AskM.cells (a : AskM) : a.enc.length = 10 ∧ (∀ v ∈ a.enc, oneB v = true) ∧ List.take 6 a.enc = a.q.w.enc ∧ a.enc[0]? = some (.int .u64 a.q.w.bw) ∧ a.enc[1]? = some (.int .i64 a.q.w.setup) ∧ a.enc[6]? = some (.slice a.an a.q.nn.length a.cn) ∧ a.enc[7]? = some (.slice a.al a.q.nl.length a.cl) ∧ a.enc[8]? = some (.slice a.ao a.q.ow.length a.co) ∧ a.enc[9]? = some (.int .i64 a.q.hops) :=
  ⟨rfl, List.all_eq_true.1 (rfl : a.enc.all oneB = true), rfl, rfl, rfl, rfl, rfl, rfl, rfl⟩
theorem Lk.cells (x : Lk) : x.enc.length = 5 ∧ (∀ v ∈ x.enc, oneB v = true) ∧ x.enc[0]? = some (.int .i64 x.f) ∧ x.enc[1]? = some (.int .i64 x.t) ∧ x.enc[3]? = some (.int .i64 x.m) ∧ x.enc[4]? = some (.int .u32 x.g) :=
  ⟨rfl, List.all_eq_true.1 (rfl : x.enc.all oneB = true), rfl, rfl, rfl, rfl⟩
def hasP (f t : Int) : List Ow → Nat → Nat
  | [], n => n
  | o :: l, n => hasP f t l (if o.f = f ∧ o.t = t then max n o.bw else n)
theorem hasP_app (f t : Int) : ∀ (l m : List Ow) (n : Nat), hasP f t (l ++ m) n = hasP f t m (hasP f t l n)
  | [], m, n => rfl
  | o :: l, m, n => by simp only [List.cons_append, hasP, hasP_app f t l m]
theorem hasP_lt (f t : Int) : ∀ (l : List Ow) (n : Nat), n < 18446744073709551616 → (∀ o ∈ l, o.bw < 18446744073709551616) → hasP f t l n < 18446744073709551616
  | [], n, h, _ => h
  | o :: l, n, h, ho => by
    have h1 := ho o (by simp)
    unfold hasP
    refine hasP_lt f t l _ ?_ fun x hx => ho x (by simp [hx])
    split
    · omega
    · exact h
theorem take_snoc {α : Type} {l : List α} {k : Nat} (h : k < l.length) : l.take (k + 1) = l.take k ++ [l[k]] := List.take_succ_eq_append_getElem h
theorem rhas_ok {A : AH} (a : AskM) (h : Sl A 73 3 a.ao (a.q.ow.map Ow.enc)) (hl : a.q.ow.length ≤ 1000) (f t : Int) :
    ACall Tryz.prog 87 [.agg a.enc.toArray, .int .i64 f, .int .i64 t] A fun v A' => v = .int .u64 (hasP f t a.q.ow 0 : Nat) ∧ Ext A A' := by
  have hobt := a.cells
  obtain ⟨-, -, -, -, -, -, -, k8, -⟩ := hobt
  refine code87.call (by simp) fun hwf => ?_
  unfold c87
  have x0 := Ext.alloc A (.row a.enc 67 false)
  simp
  refine LN.use (fun m E A' => ∃ k : Nat, m + k = a.q.ow.length ∧ A' = A.alloc (.row a.enc 67 false) ∧ E.get 1 = .int .i64 f ∧ E.get 2 = .int .i64 t ∧ E.get 3 = .pointer (some ⟨A.next, 0, none⟩) ∧ E.get 7 = .int .u64 (hasP f t (a.q.ow.take k) 0 : Nat) ∧ E.get 8 = .int .i64 k) a.q.ow.length
    ⟨0, by omega, rfl, by simp, by simp, by simp, by simp [hasP], by simp⟩ ?_
  rintro m E _ - - ⟨k, hk, rfl, E1, E2, E3, E7, E8⟩
  by_cases hlt : k < a.q.ow.length
  · have hlt' : (k : Int) < a.q.ow.length := by omega
    have hobt := (h.ext hwf x0).at (i := k) (by simpa using hlt)
    obtain ⟨b, o, cs, q, ha, g1, g2, g3⟩ := hobt
    rw [List.getElem_map] at g3
    simp only [AH.get_alloc] at g1
    have d0 := at_cell (i := 0) g3 (by omega)
    have d1 := at_cell (i := 1) g3 (by omega)
    have d2 := at_cell (i := 2) g3 (by omega)
    simp only [Ow.enc, List.getElem?_cons_zero, List.getElem?_cons_succ, Nat.add_zero] at d0 d1 d2
    have hgi : IntKind.i64.wrap ((k : Int) + 1) = ((k + 1 : Nat) : Int) := by rw [i64_in (by omega) (by omega)]; simp
    have hst : hasP f t (a.q.ow.take (k + 1)) 0 = if a.q.ow[k].f = f ∧ a.q.ow[k].t = t then max (hasP f t (a.q.ow.take k) 0) a.q.ow[k].bw else hasP f t (a.q.ow.take k) 0 := by
      rw [take_snoc hlt, hasP_app]; rfl
    rw [ha] at k8
    by_cases c1 : a.q.ow[k].f = f
    · by_cases c2 : a.q.ow[k].t = t
      · rw [if_pos ⟨c1, c2⟩] at hst
        by_cases c3 : hasP f t (a.q.ow.take k) 0 < a.q.ow[k].bw
        · simp [E1, E2, E3, E7, E8, k8, hlt, hlt', g1, d0, d1, d2, c1, c2, c3, hgi]
          exact NX.of ⟨m - 1, by omega, k + 1, by omega, rfl, by simp [E1], by simp [E2], by simp [E3], by rw [hst, Nat.max_eq_right (by omega)]; simp, by simp⟩
        · simp [E1, E2, E3, E7, E8, k8, hlt, hlt', g1, d0, d1, d2, c1, c2, c3, hgi]
          exact NX.of ⟨m - 1, by omega, k + 1, by omega, rfl, by simp [E1], by simp [E2], by simp [E3], by rw [hst, Nat.max_eq_left (by omega)]; simp, by simp⟩
      · simp [E1, E2, E3, E7, E8, k8, hlt, hlt', g1, d0, d1, d2, c1, c2, hgi]
        exact NX.of ⟨m - 1, by omega, k + 1, by omega, rfl, by simp [E1], by simp [E2], by simp [E3], by rw [hst, if_neg fun e => c2 e.2]; simp [E7], by simp⟩
    · simp [E1, E2, E3, E7, E8, k8, hlt, hlt', g1, d0, d1, d2, c1, hgi]
      exact NX.of ⟨m - 1, by omega, k + 1, by omega, rfl, by simp [E1], by simp [E2], by simp [E3], by rw [hst, if_neg fun e => c1 e.1]; simp [E7], by simp⟩
  · have hlt' : ¬ (k : Int) < a.q.ow.length := by omega
    rw [List.take_of_length_le (by omega)] at E7
    simp [E3, E7, E8, k8, hlt']
    exact DN.of ⟨rfl, x0⟩
theorem phas_ok {A : AH} (a : AskM) (h : Sl A 192 3 a.ao (a.q.ow.map Ow.enc)) (hl : a.q.ow.length ≤ 1000) (x : Lk) :
    ACall Tryz.prog 113 [.agg a.enc.toArray, .agg x.enc.toArray] A fun v A' => v = .int .u64 (hasP x.f x.t a.q.ow 0 : Nat) ∧ Ext A A' := by
  have hobt := a.cells
  obtain ⟨-, -, -, -, -, -, -, k8, -⟩ := hobt
  have hobt := x.cells
  obtain ⟨-, -, l0, l1, -, -⟩ := hobt
  refine code113.call (by simp) fun hwf => ?_
  unfold c113
  have x0 : Ext A ((A.alloc (.row a.enc 162 false)).alloc (.row x.enc 79 false)) := (Ext.alloc A _).app (by simp) _
  simp [k8]
  refine LN.use (fun m E A' => ∃ k : Nat, m + k = a.q.ow.length ∧ Ext A A' ∧ A.next + 2 ≤ A'.next ∧ A'.get (A.next + 1) = some (.row x.enc 79 false) ∧ E.get 3 = .pointer (some ⟨A.next + 1, 0, none⟩) ∧ E.get 5 = .int .u64 (hasP x.f x.t (a.q.ow.take k) 0 : Nat) ∧ E.get 9 = .slice a.ao a.q.ow.length a.co ∧ E.get 10 = .int .i64 a.q.ow.length ∧ E.get 11 = .int .i64 k) a.q.ow.length
    ⟨0, by omega, x0, by simp, by simp [AH.get_alloc], by simp, by simp [hasP], by simp, by simp, by simp⟩ ?_
  rintro m E A1 hw1 - ⟨k, hk, x1, n1, r1, E3, E5, E9, E10, E11⟩
  by_cases hlt : k < a.q.ow.length
  · have hlt' : (k : Int) < a.q.ow.length := by omega
    have hobt := (h.ext hwf x1).at (i := k) (by simpa using hlt)
    obtain ⟨b, o, cs, q, ha, g1, g2, g3⟩ := hobt
    rw [List.getElem_map] at g3
    rw [ha] at E9
    have hgi : IntKind.i64.wrap ((k : Int) + 1) = ((k + 1 : Nat) : Int) := by rw [i64_in (by omega) (by omega)]; simp
    have hst : hasP x.f x.t (a.q.ow.take (k + 1)) 0 = if a.q.ow[k].f = x.f ∧ a.q.ow[k].t = x.t then max (hasP x.f x.t (a.q.ow.take k) 0) a.q.ow[k].bw else hasP x.f x.t (a.q.ow.take k) 0 := by
      rw [take_snoc hlt, hasP_app]; rfl
    have hol : a.q.ow[k].enc.length = 3 := rfl
    have ho0 : a.q.ow[k].enc[0] = .int .i64 a.q.ow[k].f := rfl
    have ho1 : a.q.ow[k].enc[1] = .int .i64 a.q.ow[k].t := rfl
    have ho2 : a.q.ow[k].enc[2] = .int .u64 a.q.ow[k].bw := rfl
    have hoc : ∀ y ∈ a.q.ow[k].enc, oneB y = true := List.all_eq_true.1 (rfl : a.q.ow[k].enc.all oneB = true)
    have n2 : ¬ A.next + 1 = A1.next := by omega
    have x2 := x1.app (by omega) (.row a.q.ow[k].enc 192 false)
    by_cases c1 : a.q.ow[k].f = x.f
    · by_cases c2 : a.q.ow[k].t = x.t
      · rw [if_pos ⟨c1, c2⟩] at hst
        by_cases c3 : hasP x.f x.t (a.q.ow.take k) 0 < a.q.ow[k].bw
        · simp [E3, E5, E9, E10, E11, hlt, hlt', r1, g1, g2, g3, hol, ho0, ho1, ho2, l0, l1, n2, c1, c2, c3, hgi, AH.get_alloc]
          exact ⟨hoc, NX.of ⟨m - 1, by omega, k + 1, by omega, x2, by simp; omega, by rw [AH.get_alloc, if_neg n2]; exact r1, by simp [E3], by rw [hst, Nat.max_eq_right (by omega)]; simp, by simp [E9, ha], by simp [E10], by simp⟩⟩
        · simp [E3, E5, E9, E10, E11, hlt, hlt', r1, g1, g2, g3, hol, ho0, ho1, ho2, l0, l1, n2, c1, c2, c3, hgi, AH.get_alloc]
          exact ⟨hoc, NX.of ⟨m - 1, by omega, k + 1, by omega, x2, by simp; omega, by rw [AH.get_alloc, if_neg n2]; exact r1, by simp [E3], by rw [hst, Nat.max_eq_left (by omega)]; simp, by simp [E9, ha], by simp [E10], by simp⟩⟩
      · simp [E3, E5, E9, E10, E11, hlt, hlt', r1, g1, g2, g3, hol, ho0, ho1, ho2, l0, l1, n2, c1, c2, hgi, AH.get_alloc]
        exact ⟨hoc, NX.of ⟨m - 1, by omega, k + 1, by omega, x2, by simp; omega, by rw [AH.get_alloc, if_neg n2]; exact r1, by simp [E3], by rw [hst, if_neg fun e => c2 e.2]; simp [E5], by simp [E9, ha], by simp [E10], by simp⟩⟩
    · simp [E3, E5, E9, E10, E11, hlt, hlt', r1, g1, g2, g3, hol, ho0, ho1, ho2, l0, l1, n2, c1, hgi, AH.get_alloc]
      exact ⟨hoc, NX.of ⟨m - 1, by omega, k + 1, by omega, x2, by simp; omega, by rw [AH.get_alloc, if_neg n2]; exact r1, by simp [E3], by rw [hst, if_neg fun e => c1 e.1]; simp [E5], by simp [E9, ha], by simp [E10], by simp⟩⟩
  · have hlt' : ¬ (k : Int) < a.q.ow.length := by omega
    rw [List.take_of_length_le (by omega)] at E5
    simp [E5, E10, E11, hlt']
    exact DN.of ⟨rfl, x1⟩
def kepB (a : Ask) (f t : Int) : Bool := decide (f ∈ a.nn) || (decide (t ∈ a.nn) || decide ((f, t) ∈ a.nl))
theorem keeps_ok {A : AH} (a : AskM) {e : TypeId} (h : a.ok A e) (hw : a.q.wf) (x : Lk) : ACall Tryz.prog 111 [.agg a.enc.toArray, .agg x.enc.toArray] A fun v A' => v = .bool (kepB a.q x.f x.t) ∧ Ext A A' := by
  have hobt := a.cells
  obtain ⟨-, -, -, -, -, k6, k7, -, -⟩ := hobt
  have hobt := x.cells
  obtain ⟨-, -, l0, l1, -, -⟩ := hobt
  have w1 := hw.2.2.1
  have w2 := hw.2.2.2.1
  refine code111.call (by simp) fun hwf => ?_
  unfold c111
  have x0 : Ext A ((A.alloc (.row a.enc 162 false)).alloc (.row x.enc 79 false)) := (Ext.alloc A _).app (by simp) _
  have hw0 := AH.wf_alloc (AH.wf_alloc hwf (.row a.enc 162 false)) (.row x.enc 79 false)
  have h0 := h.ext hwf x0
  simp [k6, l0]
  refine CN.use (contains_ok (c := a.cn) h0.1 (by omega) x.f) ?_
  rintro _ _ - - ⟨rfl, rfl⟩
  by_cases c1 : x.f ∈ a.q.nn
  · simp [c1]
    exact DN.of ⟨by simp [kepB, c1], x0⟩
  simp [c1, k6, l1]
  refine CN.use (contains_ok (c := a.cn) h0.1 (by omega) x.t) ?_
  rintro _ _ - - ⟨rfl, rfl⟩
  by_cases c2 : x.t ∈ a.q.nn
  · simp [c1, c2]
    exact DN.of ⟨by simp [kepB, c2], x0⟩
  simp [c1, c2, k7, l0, l1, pr_build]
  have hc2 := contains2_ok (c := a.cl) h0.2.1 (by omega) (x.f, x.t)
  simp only [prE] at hc2
  refine CN.use hc2 ?_
  rintro _ A1 - hn1 ⟨rfl, x1⟩
  simp [c1, c2]
  exact DN.of ⟨by simp [kepB, c1, c2], x0.trans (by simp; omega) x1⟩
def fitB (x : Adv) (a : Ask) : Bool :=
  rightB a.w && (x.up && (allB a.w x.k.g.toNat && (!kepB a x.k.f x.k.t && (!(addP (x.fr.getD a.w.setup.toNat 0) (hasP x.k.f x.k.t a.ow 0)).2 || decide (a.w.bw ≤ (addP (x.fr.getD a.w.setup.toNat 0) (hasP x.k.f x.k.t a.ow 0)).1)))))
set_option maxHeartbeats 1000000 in
theorem pfits_ok {A : AH} (x : Adv) (hx : x.wf) (a : AskM) (h : a.ok A 192) (hw : a.q.wf) : ACall Tryz.prog 102 [.agg x.enc.toArray, .agg a.enc.toArray] A fun v A' => v = .bool (fitB x a.q) ∧ Ext A A' := by
  have hobt := a.cells
  obtain ⟨al, ao, at6, a0, a1, a6, a7, a8, -⟩ := hobt
  have hobt := Adv.cells hx.1
  obtain ⟨xl, xo, xt5, x4, x6, xf⟩ := hobt
  have hobt := x.k.cells
  obtain ⟨kl, ko, k0, k1, k3, k4⟩ := hobt
  obtain ⟨g, hg⟩ : ∃ g : Nat, x.k.g = g := ⟨x.k.g.toNat, by have := hx.2.2; omega⟩
  have hg4 : g < 4294967296 := by have := hx.2.2; omega
  have hgt : x.k.g.toNat = g := by omega
  have hwl : a.q.w.enc.length = 6 := rfl
  have hwo : ∀ v ∈ a.q.w.enc, oneB v = true := List.all_eq_true.1 (rfl : a.q.w.enc.all oneB = true)
  have hhas : hasP x.k.f x.k.t a.q.ow 0 < 18446744073709551616 := hasP_lt _ _ _ _ (by omega) hw.2.1
  have hfr : ∀ i, x.fr.getD i 0 < 18446744073709551616 := fun i => by
    rw [List.getD_eq_getElem?_getD]
    by_cases hi : i < x.fr.length
    · rw [List.getElem?_eq_getElem hi]; exact hx.2.1 _ (List.getElem_mem hi)
    · rw [List.getElem?_eq_none (by omega)]; simp
  refine code102.call (by simp) fun hwf => ?_
  unfold c102
  have y0 : Ext A ((A.alloc (.row x.enc 83 false)).alloc (.row a.enc 162 false)) := (Ext.alloc A _).app (by simp) _
  have hw0 := AH.wf_alloc (AH.wf_alloc hwf (.row x.enc 83 false)) (.row a.enc 162 false)
  rw [hg] at x4
  simp [al, at6]
  refine CN.use (right_ok a.q.w _) ?_
  rintro _ A1 hw1 hn1 ⟨rfl, y1⟩
  simp only [AH.next_alloc] at hn1
  have r1 := y1.get hw0 (AH.get_new _ _)
  have r0 := y1.get hw0 ((AH.get_alloc (A.alloc (.row x.enc 83 false)) (.row a.enc 162 false) A.next).trans ((if_neg (by simp)).trans (AH.get_new _ _)))
  simp only [AH.next_alloc] at r1
  have y01 := y0.trans (by simp; omega) y1
  have n01 : ¬ A.next = A.next + 1 := by omega
  have at10 : List.take 10 a.enc = a.enc := List.take_of_length_le (by omega)
  cases hr : rightB a.q.w with
  | false =>
    simp
    exact DN.of ⟨by simp [fitB, hr], y01⟩
  | true =>
    have hset : 0 ≤ a.q.w.setup ∧ a.q.w.setup < 8 := by have := of_decide_eq_true hr; omega
    obtain ⟨su, hsu⟩ : ∃ su : Nat, a.q.w.setup = su := ⟨a.q.w.setup.toNat, by omega⟩
    have hsut : a.q.w.setup.toNat = su := by omega
    have hsu8 : su < 8 := by omega
    have xfs := xf su hsu8
    rw [hsu] at a1
    have a1g : a.enc[1] = .int .i64 su := by rw [← hsu]; rfl
    have a0g : a.enc[0] = .int .u64 a.q.w.bw := rfl
    have xfg : ∀ hh : 7 + su < x.enc.length, x.enc[7 + su]'hh = .int .u64 (x.fr.getD su 0 : Nat) := fun hh => Option.some.inj ((List.getElem?_eq_getElem hh).symm.trans xfs)
    have hsul : 7 + su < x.enc.length := by omega
    have hsul2 : 7 + su < 15 := by omega
    cases hup : x.up with
    | false =>
      rw [hup] at x6
      simp [r0, r1, x6]
      exact DN.of ⟨by simp [fitB, hr, hup], y01⟩
    | true =>
      rw [hup] at x6
      simp [r0, r1, x6, al, at6, x4]
      refine CN.use (allows_ok a.q.w hw.1 g hg4 _) ?_
      rintro _ A2 hw2 hn2 ⟨rfl, y2⟩
      have r0' := y2.get hw1 r0
      have r1' := y2.get hw1 r1
      have y02 := y01.trans (by omega) y2
      cases hal : allB a.q.w g with
      | false =>
        simp
        exact DN.of ⟨by simp [fitB, hr, hup, hgt, hal], y02⟩
      | true =>
        simp [r0', r1', al, at10, xl, xt5]
        refine CN.use (keeps_ok a (h.ext hwf y02) hw x.k) ?_
        rintro _ A3 hw3 hn3 ⟨rfl, y3⟩
        have r0'' := y3.get hw2 r0'
        have r1'' := y3.get hw2 r1'
        have y03 := y02.trans (by omega) y3
        cases hke : kepB a.q x.k.f x.k.t with
        | true =>
          simp
          exact DN.of ⟨by simp [fitB, hr, hup, hgt, hal, hke], y03⟩
        | false =>
          simp [r0'', r1'', a1g, al, at10, xl, xt5, hsu8, xfg, hsul2]
          refine CN.use (phas_ok a (h.ext hwf y03).2.2 (hw.2.2.2.2) x.k) ?_
          rintro _ A4 hw4 hn4 ⟨rfl, y4⟩
          have r0d := y4.get hw3 r0''
          have r1d := y4.get hw3 r1''
          have y04 := y03.trans (by omega) y4
          simp [r0d, r1d, a1g, al, at10, xl, xt5, hsu8, xfg, hsul2]
          refine CN.use (ladd_ok _ _ (hfr su) hhas _) ?_
          rintro _ _ - - ⟨rfl, rfl⟩
          cases hov : (addP (x.fr.getD su 0) (hasP x.k.f x.k.t a.q.ow 0)).2 with
          | false =>
            simp [r0d, r1d, al, a0g]
            exact DN.of ⟨by have hov' := hov; rw [List.getD_eq_getElem?_getD] at hov'; simp [fitB, hr, hup, hgt, hal, hke, hsut, hov'], y04⟩
          | true =>
            simp [r0d, r1d, al, a0g]
            exact DN.of ⟨by have hov' := hov; rw [List.getD_eq_getElem?_getD] at hov'; simp [fitB, hr, hup, hgt, hal, hke, hsut, hov'], y04⟩
set_option maxHeartbeats 1000000 in
theorem rfits_ok {A : AH} (x : Adv) (hx : x.wf) (a : AskM) (h : a.ok A 73) (hw : a.q.wf) : ACall Tryz.prog 74 [.agg x.enc.toArray, .agg a.enc.toArray] A fun v A' => v = .bool (fitB x a.q) ∧ Ext A A' := by
  have hobt := a.cells
  obtain ⟨al, ao, at6, a0, a1, a6, a7, a8, -⟩ := hobt
  have hobt := Adv.cells hx.1
  obtain ⟨xl, xo, xt5, x4, x6, xf⟩ := hobt
  have hobt := x.k.cells
  obtain ⟨kl, ko, k0, k1, k3, k4⟩ := hobt
  obtain ⟨g, hg⟩ : ∃ g : Nat, x.k.g = g := ⟨x.k.g.toNat, by have := hx.2.2; omega⟩
  have hg4 : g < 4294967296 := by have := hx.2.2; omega
  have hgt : x.k.g.toNat = g := by omega
  have hhas : hasP x.k.f x.k.t a.q.ow 0 < 18446744073709551616 := hasP_lt _ _ _ _ (by omega) hw.2.1
  have w1 := hw.2.2.1
  have w2 := hw.2.2.2.1
  have hfr : ∀ i, x.fr.getD i 0 < 18446744073709551616 := fun i => by
    rw [List.getD_eq_getElem?_getD]
    by_cases hi : i < x.fr.length
    · rw [List.getElem?_eq_getElem hi]; exact hx.2.1 _ (List.getElem_mem hi)
    · rw [List.getElem?_eq_none (by omega)]; simp
  have k0g : x.k.enc[0] = .int .i64 x.k.f := rfl
  have k1g : x.k.enc[1] = .int .i64 x.k.t := rfl
  have k4g : x.k.enc[4] = .int .u32 g := by rw [← hg]; rfl
  have a6g : a.enc[6] = .slice a.an a.q.nn.length a.cn := rfl
  have a7g : a.enc[7] = .slice a.al a.q.nl.length a.cl := rfl
  have a0g : a.enc[0] = .int .u64 a.q.w.bw := rfl
  have at10 : List.take 10 a.enc = a.enc := List.take_of_length_le (by omega)
  refine code74.call (by simp) fun hwf => ?_
  unfold c74
  have y0 : Ext A ((((A.alloc (.row x.enc 132 false)).alloc (.row a.enc 67 false)).alloc (.row [.int .i64 0, .int .i64 0, .int .u64 0, .int .i64 0, .int .u32 0] 79 false)).set (A.next + 1 + 1) (.row x.k.enc 79 false)) := (((Ext.alloc A _).app (by simp) _).app (by simp; omega) _).setnew (by omega) _
  have hw0 : ((((A.alloc (.row x.enc 132 false)).alloc (.row a.enc 67 false)).alloc (.row [.int .i64 0, .int .i64 0, .int .u64 0, .int .i64 0, .int .u32 0] 79 false)).set (A.next + 1 + 1) (.row x.k.enc 79 false)).wf := AH.wf_set (AH.wf_alloc (AH.wf_alloc (AH.wf_alloc hwf _) _) _) (by simp) _
  have p0 : ((((A.alloc (.row x.enc 132 false)).alloc (.row a.enc 67 false)).alloc (.row [.int .i64 0, .int .i64 0, .int .u64 0, .int .i64 0, .int .u32 0] 79 false)).set (A.next + 1 + 1) (.row x.k.enc 79 false)).get A.next = some (.row x.enc 132 false) := by simp [AH.get_alloc, AH.get_set]
  have p1 : ((((A.alloc (.row x.enc 132 false)).alloc (.row a.enc 67 false)).alloc (.row [.int .i64 0, .int .i64 0, .int .u64 0, .int .i64 0, .int .u32 0] 79 false)).set (A.next + 1 + 1) (.row x.k.enc 79 false)).get (A.next + 1) = some (.row a.enc 67 false) := by simp [AH.get_alloc, AH.get_set]
  have p2 : ((((A.alloc (.row x.enc 132 false)).alloc (.row a.enc 67 false)).alloc (.row [.int .i64 0, .int .i64 0, .int .u64 0, .int .i64 0, .int .u32 0] 79 false)).set (A.next + 1 + 1) (.row x.k.enc 79 false)).get (A.next + 1 + 1) = some (.row x.k.enc 79 false) := by simp [AH.get_alloc, AH.get_set]
  simp [al, at6, xl, xt5, kl]
  refine ⟨ko, CN.use (rright_ok a.q.w _) ?_⟩
  rintro _ A1 hw1 hn1 ⟨rfl, y1⟩
  simp only [AH.next_alloc, AH.next_set] at hn1
  have r0 := y1.get hw0 p0
  have r1 := y1.get hw0 p1
  have r2 := y1.get hw0 p2
  have y01 := y0.trans (by simp; omega) y1
  cases hr : rightB a.q.w with
  | false =>
    simp
    exact DN.of ⟨by simp [fitB, hr], y01⟩
  | true =>
    have hset : 0 ≤ a.q.w.setup ∧ a.q.w.setup < 8 := by have := of_decide_eq_true hr; omega
    obtain ⟨su, hsu⟩ : ∃ su : Nat, a.q.w.setup = su := ⟨a.q.w.setup.toNat, by omega⟩
    have hsut : a.q.w.setup.toNat = su := by omega
    have hsu8 : su < 8 := by omega
    have xfs := xf su hsu8
    have a1g : a.enc[1] = .int .i64 su := by rw [← hsu]; rfl
    have xfg : ∀ hh : 7 + su < x.enc.length, x.enc[7 + su]'hh = .int .u64 (x.fr.getD su 0 : Nat) := fun hh => Option.some.inj ((List.getElem?_eq_getElem hh).symm.trans xfs)
    have hsul2 : 7 + su < 15 := by omega
    cases hup : x.up with
    | false =>
      have x6g : x.enc[6]'(by omega) = .bool false := Option.some.inj ((List.getElem?_eq_getElem (by omega)).symm.trans (x6.trans (by rw [hup])))
      simp [r0, r1, x6g, xl]
      exact DN.of ⟨by simp [fitB, hr, hup], y01⟩
    | true =>
      have x6g : x.enc[6]'(by omega) = .bool true := Option.some.inj ((List.getElem?_eq_getElem (by omega)).symm.trans (x6.trans (by rw [hup])))
      simp [r0, r1, r2, x6g, xl, al, at6, kl, k4g]
      refine CN.use (rallows_ok a.q.w hw.1 g hg4 _) ?_
      rintro _ A2 hw2 hn2 ⟨rfl, y2⟩
      have r0' := y2.get hw1 r0
      have r1' := y2.get hw1 r1
      have r2' := y2.get hw1 r2
      have y02 := y01.trans (by omega) y2
      have h2 := h.ext hwf y02
      cases hal : allB a.q.w g with
      | false =>
        simp
        exact DN.of ⟨by simp [fitB, hr, hup, hgt, hal], y02⟩
      | true =>
        simp [r0', r1', r2', al, kl, k0g, a6g]
        refine CN.use (has_ok (c := a.cn) h2.1 (by omega) x.k.f) ?_
        rintro _ A2 - - ⟨rfl, rfl⟩
        by_cases c1 : x.k.f ∈ a.q.nn
        · simp [hasL, c1]
          exact DN.of ⟨by simp [fitB, kepB, hr, hup, hgt, hal, c1], y02⟩
        simp [hasL, c1, r1', r2', al, kl, k1g, a6g]
        refine CN.use (has_ok (c := a.cn) h2.1 (by omega) x.k.t) ?_
        rintro _ A2 - - ⟨rfl, rfl⟩
        by_cases c2 : x.k.t ∈ a.q.nn
        · simp [hasL, c1, c2]
          exact DN.of ⟨by simp [fitB, kepB, hr, hup, hgt, hal, c1, c2], y02⟩
        simp [hasL, c1, c2]
        refine LN.use (fun m E A' => ∃ k : Nat, m + k = a.q.nl.length ∧ A' = A2 ∧ E.get 2 = .pointer (some ⟨A.next, 0, none⟩) ∧ E.get 3 = .pointer (some ⟨A.next + 1, 0, none⟩) ∧ E.get 5 = .pointer (some ⟨A.next + 1 + 1, 0, none⟩) ∧ E.get 6 = .int .i64 k ∧ (x.k.f, x.k.t) ∉ a.q.nl.take k) a.q.nl.length
          ⟨0, by omega, rfl, by simp, by simp, by simp, by simp, by simp⟩ ?_
        rintro m E A2 - - ⟨k, hk, rfl, E2, E3, E5, E6, hI⟩
        by_cases hlt : k < a.q.nl.length
        · have hlt' : (k : Int) < a.q.nl.length := by omega
          have hobt := h2.2.1.at (i := k) (by simpa using hlt)
          obtain ⟨b, o, cs, q, ha, g1, g2, g3⟩ := hobt
          rw [List.getElem_map] at g3
          have d0 := at_cell (i := 0) g3 (by omega)
          have d1 := at_cell (i := 1) g3 (by omega)
          simp only [prE, List.getElem?_cons_zero, List.getElem?_cons_succ, Nat.add_zero] at d0 d1
          have hgi : IntKind.i64.wrap ((k : Int) + 1) = ((k + 1 : Nat) : Int) := by rw [i64_in (by omega) (by omega)]; simp
          rw [ha] at a7g
          have hnx : ∀ hne : ¬ (a.q.nl[k].1 = x.k.f ∧ a.q.nl[k].2 = x.k.t), (x.k.f, x.k.t) ∉ a.q.nl.take (k + 1) := fun hne hm => by
            rw [take_snoc hlt, List.mem_append, List.mem_singleton] at hm
            rcases hm with hm | hm
            · exact hI hm
            · exact hne ⟨by rw [← hm], by rw [← hm]⟩
          by_cases c3 : a.q.nl[k].1 = x.k.f
          · by_cases c4 : a.q.nl[k].2 = x.k.t
            · have hin : (x.k.f, x.k.t) ∈ a.q.nl := by rw [← c3, ← c4]; exact List.getElem_mem hlt
              simp [E3, E5, E6, r1', r2', al, kl, a7g, hlt, hlt', g1, d0, d1, k0g, k1g, c3, c4]
              exact DN.of ⟨by simp [fitB, kepB, hr, hup, hgt, hal, hin], y02⟩
            · simp [E3, E5, E6, r1', r2', al, kl, a7g, hlt, hlt', g1, d0, d1, k0g, k1g, c3, c4, hgi]
              exact NX.of ⟨m - 1, by omega, k + 1, by omega, rfl, by simp [E2], by simp [E3], by simp [E5], by simp, hnx fun e => c4 e.2⟩
          · simp [E3, E5, E6, r1', r2', al, kl, a7g, hlt, hlt', g1, d0, d1, k0g, k1g, c3, hgi]
            exact NX.of ⟨m - 1, by omega, k + 1, by omega, rfl, by simp [E2], by simp [E3], by simp [E5], by simp, hnx fun e => c3 e.1⟩
        · have hlt' : ¬ (k : Int) < a.q.nl.length := by omega
          rw [List.take_of_length_le (by omega)] at hI
          have hke : kepB a.q x.k.f x.k.t = false := by simp [kepB, c1, c2, hI]
          simp [E2, E3, E5, E6, r0', r1', r2', al, a7g, hlt', a1g, at10, xl, kl, k0g, k1g, hsu8, xfg, hsul2]
          refine CN.use (rhas_ok a h2.2.2 hw.2.2.2.2 x.k.f x.k.t) ?_
          rintro _ A4 hw4 hn4 ⟨rfl, y4⟩
          have r0d := y4.get hw2 r0'
          have r1d := y4.get hw2 r1'
          have y04 := y02.trans (by omega) y4
          simp [E2, E3, E5, r0d, r1d, a1g, al, xl, hsu8, xfg, hsul2]
          refine CN.use (radd_ok _ _ (hfr su) hhas _) ?_
          rintro _ _ - - ⟨rfl, rfl⟩
          cases hov : (addP (x.fr.getD su 0) (hasP x.k.f x.k.t a.q.ow 0)).2 with
          | false =>
            simp [E3, r1d, al, a0g]
            exact DN.of ⟨by have hov' := hov; rw [List.getD_eq_getElem?_getD] at hov'; simp [fitB, hr, hup, hgt, hal, hke, hsut, hov'], y04⟩
          | true =>
            simp [E3, r1d, al, a0g]
            exact DN.of ⟨by have hov' := hov; rw [List.getD_eq_getElem?_getD] at hov'; simp [fitB, hr, hup, hgt, hal, hke, hsut, hov'], y04⟩
def fitL (l : List Adv) (a : Ask) : List Lk := (l.filter fun x => fitB x a).map Adv.k
theorem fitL_snoc {l : List Adv} {a : Ask} {k : Nat} (h : k < l.length) : fitL (l.take (k + 1)) a = fitL (l.take k) a ++ if fitB l[k] a then [l[k].k] else [] := by
  unfold fitL
  rw [take_snoc h, List.filter_append, List.map_append]
  cases hb : fitB l[k] a <;> simp [hb]
theorem fitL_len (l : List Adv) (a : Ask) : (fitL l a).length ≤ l.length := by unfold fitL; rw [List.length_map]; exact List.length_filter_le _ _
theorem plinks_ok {A : AH} {al : Option Addr} {cl : Nat} {l : List Adv} (hl : Sl A 83 15 al (l.map Adv.enc)) (hx : ∀ x ∈ l, x.wf) (hn : l.length ≤ 1000) (a : AskM) (h : a.ok A 192) (hw : a.q.wf) :
    ACall Tryz.prog 92 [.slice al l.length cl, .agg a.enc.toArray] A fun v A' => Ext A A' ∧ Own A.next A' 79 5 v ((fitL l a.q).map Lk.enc) := by
  have hobt := a.cells
  obtain ⟨ael, -⟩ := hobt
  have at10 : List.take 10 a.enc = a.enc := List.take_of_length_le (by omega)
  refine code92.call (by simp) fun hwf => ?_
  unfold c92
  have x0 := Ext.alloc A (.row a.enc 162 false)
  simp
  refine LN.use (fun m E A' => ∃ (k : Nat) (u : Value), m + k = l.length ∧ Ext A A' ∧ A.next + 1 ≤ A'.next ∧ A'.get A.next = some (.row a.enc 162 false) ∧ Own (A.next + 1) A' 79 5 u ((fitL (l.take k) a.q).map Lk.enc) ∧ E.get 3 = .pointer (some ⟨A.next, 0, none⟩) ∧ E.get 5 = u ∧ E.get 8 = .slice al l.length cl ∧ E.get 9 = .int .i64 l.length ∧ E.get 10 = .int .i64 k) l.length
    ⟨0, _, by omega, x0, by simp, AH.get_new _ _, Own.nil _ _ _ _, by simp, by simp, by simp, by simp, by simp⟩ ?_
  rintro m E A1 hw1 hn1 ⟨k, u, hk, x1, n1, r1, o1, E3, E5, E8, E9, E10⟩
  by_cases hlt : k < l.length
  · have hlt' : (k : Int) < l.length := by omega
    have hgi : IntKind.i64.wrap ((k : Int) + 1) = ((k + 1 : Nat) : Int) := by rw [i64_in (by omega) (by omega)]; simp
    have hobt := (hl.ext hwf x1).at (i := k) (by simpa using hlt)
    obtain ⟨b, o, cs, q, rfl, g1, g2, g3⟩ := hobt
    rw [List.getElem_map] at g3
    have hxk := hx _ (List.getElem_mem hlt)
    have hobt := Adv.cells hxk.1
    obtain ⟨xl, xo, xt5, -⟩ := hobt
    have xo' := List.all_eq_true.1 xo
    have xt15 : List.take 15 l[k].enc = l[k].enc := List.take_of_length_le (by omega)
    have hst := fitL_snoc (a := a.q) hlt
    have hA0 : ¬ A.next = A1.next := by omega
    have x2 := Ext.alloc A1 (.row l[k].enc 83 false)
    have x02 := x1.trans (by omega) x2
    have hw2 := AH.wf_alloc hw1 (.row l[k].enc 83 false)
    simp [E3, E8, E9, E10, hlt, hlt', r1, g1, g2, g3, xl, xt15, hA0, ael, at10, AH.get_alloc]
    refine ⟨xo', CN.use (pfits_ok l[k] hxk a (h.ext hwf x02) hw) ?_⟩
    rintro _ A2 hw3 hn3 ⟨rfl, x3⟩
    simp only [AH.next_alloc] at hn3
    have o2 := (o1.ext hw1 x2).ext hw2 x3
    have r2 := x3.get hw2 (x2.get hw1 r1)
    have r3 := x3.get hw2 (AH.get_new A1 (.row l[k].enc 83 false))
    have x03 := x02.trans (by simp; omega) x3
    cases hb : fitB l[k] a.q with
    | false =>
      rw [hb] at hst
      simp [E10, hgi]
      exact NX.of ⟨m - 1, by omega, k + 1, u, by omega, x03, by omega, r2, by rw [hst]; simpa using o2, by simp [E3], by simp [E5], by simp [E8], by simp [E9], by simp⟩
    | true =>
      rw [hb] at hst
      have hfl := fitL_len (l.take k) a.q
      rw [List.length_take] at hfl
      have hobt := own_push o2 (y := 40) (r := l[k].k.enc) hw3 (by omega) ⟨rfl, rfl⟩ (by omega) (by omega) (by simp; omega)
      obtain ⟨u', A3, p1, p2, p3, p4⟩ := hobt
      have hobt := own_slm o2
      obtain ⟨a2, c2, rfl, -⟩ := hobt
      have kl : l[k].k.enc.length = 5 := rfl
      have ko : ∀ v ∈ l[k].k.enc, oneB v = true := List.all_eq_true.1 (rfl : l[k].k.enc.all oneB = true)
      simp [E5, E10, r3, xl, xt5, kl, p1, hgi]
      refine NX.of ⟨m - 1, by omega, k + 1, u', by omega, fun c hc => by rw [p4 c (by omega), x03 c hc], by omega, by rw [p4 _ (by omega)]; exact r2, ?_, by simp [E3], by simp, by simp [E8], by simp [E9], by simp⟩
      rw [hst, List.map_append]; exact p2
  · have hlt' : ¬ (k : Int) < l.length := by omega
    rw [List.take_of_length_le (by omega)] at o1
    simp [E5, E9, E10, hlt']
    exact DN.of ⟨x1, o1.low (by omega)⟩
theorem rlinks_ok {A : AH} {al : Option Addr} {cl : Nat} {l : List Adv} (hl : Sl A 132 15 al (l.map Adv.enc)) (hx : ∀ x ∈ l, x.wf) (hn : l.length ≤ 1000) (a : AskM) (h : a.ok A 73) (hw : a.q.wf) :
    ACall Tryz.prog 40 [.slice al l.length cl, .agg a.enc.toArray] A fun v A' => Ext A A' ∧ Own A.next A' 79 5 v ((fitL l a.q).map Lk.enc) := by
  have hobt := a.cells
  obtain ⟨ael, -⟩ := hobt
  have at10 : List.take 10 a.enc = a.enc := List.take_of_length_le (by omega)
  refine code40.call (by simp) fun hwf => ?_
  unfold c40
  have x0 := Ext.alloc A (.row a.enc 67 false)
  simp
  refine LN.use (fun m E A' => ∃ (k : Nat) (u : Value), m + k = l.length ∧ Ext A A' ∧ A.next + 1 ≤ A'.next ∧ A'.get A.next = some (.row a.enc 67 false) ∧ Own (A.next + 1) A' 79 5 u ((fitL (l.take k) a.q).map Lk.enc) ∧ E.get 0 = .slice al l.length cl ∧ E.get 3 = .pointer (some ⟨A.next, 0, none⟩) ∧ E.get 5 = u ∧ E.get 6 = .int .i64 k) l.length
    ⟨0, _, by omega, x0, by simp, AH.get_new _ _, Own.nil _ _ _ _, by simp, by simp, by simp, by simp⟩ ?_
  rintro m E A1 hw1 hn1 ⟨k, u, hk, x1, n1, r1, o1, E0, E3, E5, E6⟩
  by_cases hlt : k < l.length
  · have hlt' : (k : Int) < l.length := by omega
    have hgi : IntKind.i64.wrap ((k : Int) + 1) = ((k + 1 : Nat) : Int) := by rw [i64_in (by omega) (by omega)]; simp
    have hobt := (hl.ext hwf x1).at (i := k) (by simpa using hlt)
    obtain ⟨b, o, cs, q, rfl, g1, g2, g3⟩ := hobt
    rw [List.getElem_map] at g3
    have hxk := hx _ (List.getElem_mem hlt)
    have hobt := Adv.cells hxk.1
    obtain ⟨xl, xo, xt5, -⟩ := hobt
    have hst := fitL_snoc (a := a.q) hlt
    simp [E0, E3, E6, hlt, hlt', r1, g1, g2, g3, ael, at10]
    refine CN.use (rfits_ok l[k] hxk a (h.ext hwf x1) hw) ?_
    rintro _ A2 hw2 hn2 ⟨rfl, x2⟩
    have o2 := o1.ext hw1 x2
    have r2 := x2.get hw1 r1
    have g1' := x2.get hw1 g1
    have x02 := x1.trans (by omega) x2
    cases hb : fitB l[k] a.q with
    | false =>
      rw [hb] at hst
      simp [E6, hgi]
      exact NX.of ⟨m - 1, by omega, k + 1, u, by omega, x02, by omega, r2, by rw [hst]; simpa using o2, by simp [E0], by simp [E3], by simp [E5], by simp⟩
    | true =>
      rw [hb] at hst
      have hfl := fitL_len (l.take k) a.q
      rw [List.length_take] at hfl
      have hobt := own_push o2 (y := 40) (r := l[k].k.enc) hw2 (by omega) ⟨rfl, rfl⟩ (by omega) (by omega) (by simp; omega)
      obtain ⟨u', A3, p1, p2, p3, p4⟩ := hobt
      have hobt := own_slm o2
      obtain ⟨a2, c2, rfl, -⟩ := hobt
      have kl : l[k].k.enc.length = 5 := rfl
      have g35 : List.take 5 (List.drop (o + k * 15) cs) = l[k].k.enc := by
        have := at_head g3 (n := 5) (by omega)
        rw [this, xt5]
      have g25 : o + k * 15 + 5 ≤ cs.length := by omega
      simp [E0, E5, E6, hlt, hlt', g1', g35, g25, kl, p1, hgi]
      refine NX.of ⟨m - 1, by omega, k + 1, u', by omega, fun c hc => by rw [p4 c (by omega), x02 c hc], by omega, by rw [p4 _ (by omega)]; exact r2, ?_, by simp [E0], by simp [E3], by simp, by simp⟩
      rw [hst, List.map_append]; exact p2
  · have hlt' : ¬ (k : Int) < l.length := by omega
    rw [List.take_of_length_le (by omega)] at o1
    simp [E0, E5, E6, hlt']
    exact DN.of ⟨x1, o1.low (by omega)⟩
theorem rall17_ok {A : AH} {al : Option Addr} {cl : Nat} {l : List Adv} (hl : Sl A 132 15 al (l.map Adv.enc)) (hx : ∀ x ∈ l, x.wf) (hn : l.length ≤ 1000) :
    ACall Tryz.prog 38 [.slice al l.length cl] A fun v A' => Ext A A' ∧ Own A.next A' 79 5 v ((l.map Adv.k).map Lk.enc) := by
  refine code38.call (by simp) fun hwf => ?_
  unfold c38
  simp
  refine LN.use (fun m E A' => ∃ (k : Nat) (u : Value), m + k = l.length ∧ Ext A A' ∧ A.next ≤ A'.next ∧ Own A.next A' 79 5 u (((l.take k).map Adv.k).map Lk.enc) ∧ E.get 0 = .slice al l.length cl ∧ E.get 3 = u ∧ E.get 4 = .int .i64 k) l.length
    ⟨0, _, by omega, Ext.refl A, Nat.le_refl _, Own.nil _ _ _ _, by simp, by simp, by simp⟩ ?_
  rintro m E A1 hw1 hn1 ⟨k, u, hk, x1, n1, o1, E0, E3, E4⟩
  by_cases hlt : k < l.length
  · have hlt' : (k : Int) < l.length := by omega
    have hgi : IntKind.i64.wrap ((k : Int) + 1) = ((k + 1 : Nat) : Int) := by rw [i64_in (by omega) (by omega)]; simp
    have hobt := (hl.ext hwf x1).at (i := k) (by simpa using hlt)
    obtain ⟨b, o, cs, q, rfl, g1, g2, g3⟩ := hobt
    rw [List.getElem_map] at g3
    have hxk := hx _ (List.getElem_mem hlt)
    have hobt := Adv.cells hxk.1
    obtain ⟨xl, xo, xt5, -⟩ := hobt
    have hobt := own_push o1 (y := 40) (r := l[k].k.enc) hw1 (by omega) ⟨rfl, rfl⟩ (by omega) (by omega) (by simp; omega)
    obtain ⟨u', A3, p1, p2, p3, p4⟩ := hobt
    have hobt := own_slm o1
    obtain ⟨a2, c2, rfl, -⟩ := hobt
    have kl : l[k].k.enc.length = 5 := rfl
    have g35 : List.take 5 (List.drop (o + k * 15) cs) = l[k].k.enc := by
      have := at_head g3 (n := 5) (by omega)
      rw [this, xt5]
    have g25 : o + k * 15 + 5 ≤ cs.length := by omega
    have hlk : (List.map Adv.k (l.take k)).length = k := by simp; omega
    rw [hlk] at E3 p1
    simp [E0, E3, E4, hlt, hlt', g1, g35, g25, kl, p1, hgi]
    refine NX.of ⟨m - 1, by omega, k + 1, u', by omega, fun c hc => by rw [p4 c (by omega), x1 c hc], by omega, ?_, by simp [E0], by simp, by simp⟩
    rw [take_snoc hlt, List.map_append, List.map_append]; exact p2
  · have hlt' : ¬ (k : Int) < l.length := by omega
    rw [List.take_of_length_le (by omega)] at o1
    simp [E0, E3, E4, hlt']
    exact DN.of ⟨x1, o1⟩
end Go.Proofs.YtnlopamlmojbgaaGreat.AC
