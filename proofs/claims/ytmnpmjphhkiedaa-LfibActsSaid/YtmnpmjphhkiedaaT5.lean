import Derived.Test.YtmnpmjphhkiedaaT4
import Derived.Test.YtmnpmjphhkiedaaPLfibActsx3
namespace Go.Proofs.Ytmnpmjphhkiedaa.LF
open Go.RowKit Go.Proofs.YtmnpmjphhkiedaaW.PrintWords Go.Proofs.YtmnpmjphhkiedaaW.PrintLast Go.Proofs.YtmnpmjphhkiedaaW.PrintMore Go.Proofs.Ytmnpmjphhkiedaa.PLfibActs Go.Proofs.Ytmnpmjphhkiedaa.Lib

/-- A table lies at block tb; its blocks are among F. -/
structure Tab (w : World) (tb : Nat) (F : Nat → Prop) (most : Int) (L T : List S95) : Prop where
  at_ : ∃ vl vt, w.heap[tb]? = some (.cells #[vl, .int .i64 most, vt, .int .i64 most, .bool true] 115 (0, 0)) ∧ Own w vl L ∧ Own w vt T ∧
    (∀ k, vl.ownBlock = some k → F k ∧ vt.ownBlock ≠ some k) ∧ (∀ k, vt.ownBlock = some k → F k)
  ftb : F tb
  m1 : 1 ≤ most
  m2 : most ≤ 64
  gl : Good L
  gt : Good T
  ll : (L.length : Int) ≤ most
  lt : (T.length : Int) ≤ most
theorem Tab.kept {S : Nat → Prop} {a b : World} (h : Chg S a b) {tb : Nat} {F : Nat → Prop} {most : Int} {L T : List S95} (t : Tab a tb F most L T) (hn : ∀ k, F k → ¬ S k) : Tab b tb F most L T := by
  obtain ⟨⟨vl, vt, h1, h2, h3, h4, h5⟩, f, a1, a2, a3, a4, a5, a6⟩ := t
  exact ⟨⟨vl, vt, h.obj h1 (hn _ f), h2.kept h (fun k hk => hn k (h4 k hk).1), h3.kept h (fun k hk => hn k (h5 k hk)), h4, h5⟩, f, a1, a2, a3, a4, a5, a6⟩
theorem Tab.below {a b : World} (h : Below a.heap.size a b) {tb : Nat} {F : Nat → Prop} {most : Int} {L T : List S95} (t : Tab a tb F most L T) : Tab b tb F most L T := t.kept (S := fun _ => False) (.of_below h) (fun _ _ h => h)

theorem good_nil : Good [] := ⟨by simp, fun j h => by simp at h, fun i j _ h => by simp at h⟩

set_option maxHeartbeats 400000 in
theorem good_true (tb : Nat) (w : World) (h : w.cell? ⟨tb, 4, none⟩ = some (.bool true)) :
    Calls Try.prog 56 #[.pointer (some ⟨tb, 0, none⟩)] w fun e w' => e = .returned (.bool true) ∧ w = w' := by
  go_enter Try.func56, Try.ntmps56
  go_wp2
  go_ret
  exact ⟨rfl, rfl⟩

set_option maxHeartbeats 400000 in
theorem new_no (n : Int) (w : World) (h : n < 1 ∨ 64 < n) :
    Calls Try.prog 12 #[.int .i64 n] w fun e w' => e = .returned (.pointer none) ∧ w = w' := by
  rcases h with h | h
  · go_enter Try.func12, Try.ntmps12
    go_wp2
    go_ret
    exact ⟨rfl, rfl⟩
  · have h1 : ¬ n < 1 := by omega
    go_enter Try.func12, Try.ntmps12
    go_wp2
    go_ret
    exact ⟨rfl, rfl⟩

set_option maxHeartbeats 400000 in
theorem new_yes (n : Int) (w : World) (h1 : 1 ≤ n) (h2 : n ≤ 64) :
    Calls Try.prog 12 #[.int .i64 n] w fun e w' => e = .returned (.pointer (some ⟨w.heap.size, 0, none⟩)) ∧ Below w.heap.size w w' ∧ Tab w' w.heap.size (fun k => k = w.heap.size) n [] [] := by
  have h3 : ¬ n < 1 := by omega
  have h4 : ¬ 64 < n := by omega
  go_enter Try.func12, Try.ntmps12
  go_wp2
  go_ret
  refine ⟨rfl, (Below.refl _ _).alloc (Nat.le_refl _) _, ⟨⟨.slice none 0 0, .slice none 0 0, blk_new w _, World.ownsRow_nil _ _ _ _, World.ownsRow_nil _ _ _ _, fun k hk => by simp [Value.ownBlock] at hk, fun k hk => by simp [Value.ownBlock] at hk⟩, rfl, h1, h2, good_nil, good_nil, by simp; omega, by simp; omega⟩⟩

/-- May a label be bound? May an Out be? -/
def bindable (l : Int) : Bool := decide (16 ≤ l) && decide (l ≤ 1048575)
def mayOut (n l : Int) : Bool := decide (0 ≤ n) && decide (n < 16) && (bindable l || l == 3)

set_option maxHeartbeats 400000 in
theorem bindable_any (l : Int) (w : World) :
    Calls Try.prog 57 #[.int .i64 l] w fun e w' => e = .returned (.bool (bindable l)) ∧ w = w' := by
  by_cases h : l < 16
  · go_enter Try.func57, Try.ntmps57
    go_wp2
    go_ret
    exact ⟨by have : decide (16 ≤ l) = false := decide_eq_false (by omega)
              simp [bindable, this], rfl⟩
  · go_enter Try.func57, Try.ntmps57
    go_wp2
    go_ret
    exact ⟨by simp [bindable]; omega, rfl⟩

set_option maxHeartbeats 400000 in
theorem may_any (n l : Int) (w : World) :
    Calls Try.prog 58 #[.agg #[.int .i64 n, .int .i64 l]] w fun e w' => e = .returned (.bool (mayOut n l)) ∧ Below w.heap.size w w' := by
  by_cases h : n < 0
  · go_enter Try.func58, Try.ntmps58
    go_wp2
    go_ret
    exact ⟨by have : decide (0 ≤ n) = false := decide_eq_false (by omega)
              simp [mayOut, this], (Below.refl _ _).alloc (Nat.le_refl _) _⟩
  · by_cases h2 : 16 ≤ n
    · go_enter Try.func58, Try.ntmps58
      go_wp2
      go_ret
      exact ⟨by simp [mayOut]; omega, (Below.refl _ _).alloc (Nat.le_refl _) _⟩
    · cases hb : bindable l with
      | true =>
        have HB := Aside0.mk hb
        clear hb
        go_enter Try.func58, Try.ntmps58
        go_wp2_with (go_at_call 57; refine (bindable_any _ _).mono ?_; rw [HB.out]; rintro e w1 ⟨rfl, rfl⟩)
        go_ret
        exact ⟨by simp [mayOut, HB.out]; omega, (Below.refl _ _).alloc (Nat.le_refl _) _⟩
      | false =>
        have HB := Aside0.mk hb
        clear hb
        go_enter Try.func58, Try.ntmps58
        go_wp2_with (go_at_call 57; refine (bindable_any _ _).mono ?_; rw [HB.out]; rintro e w1 ⟨rfl, rfl⟩)
        go_ret
        exact ⟨by simp [mayOut, HB.out]; omega, (Below.refl _ _).alloc (Nat.le_refl _) _⟩

/-- What Bind and Map make of their rows. -/
def bindL (L : List S95) (most label n l : Int) : List S95 × Int := if bindable label && mayOut n l then putL L most ⟨label, ⟨n, l⟩⟩ else (L, 2)
def mapL (T : List S95) (most tun n l : Int) : List S95 × Int := if decide (1 ≤ tun) && decide (tun ≤ 65535) && mayOut n l then putL T most ⟨tun, ⟨n, l⟩⟩ else (T, 2)

theorem insR_get (L : List S95) (x : S95) (p : Nat) (hp : p ≤ L.length) : ∀ j, r95 (L.take p ++ x :: L.drop p) j = if j < p then r95 L j else if j = p then x else r95 L (j - 1) := by
  intro j
  have hl : (L.take p).length = p := by simp; omega
  simp only [r95, List.getD_eq_getElem?_getD]
  split
  · rw [List.getElem?_append_left (by omega), List.getElem?_take, if_pos (by assumption)]
  · rw [List.getElem?_append_right (by omega), hl]
    split
    · subst_vars; simp
    · obtain ⟨d, hd⟩ : ∃ d, j - p = d + 1 := ⟨j - p - 1, by omega⟩
      rw [hd, List.getElem?_cons_succ, List.getElem?_drop]
      congr 2; omega
theorem good_ins {L : List S95} {x : S95} {p : Nat} (hg : Good L) (hp : p ≤ L.length) (h64 : L.length < 64) (k1 : 0 ≤ x.f0) (k2 : x.f0 ≤ 2000000) (h1 : ∀ j, j < p → (r95 L j).f0 < x.f0) (h2 : p < L.length → x.f0 < (r95 L p).f0) : Good (L.take p ++ x :: L.drop p) := by
  have hlen : (L.take p ++ x :: L.drop p).length = L.length + 1 := by simp; omega
  have hget := insR_get L x p hp
  refine ⟨by omega, fun j hj => ?_, fun i j hij hj => ?_⟩
  · rw [hget]
    split
    · exact hg.2.1 j (by omega)
    · split
      · exact ⟨k1, k2⟩
      · exact hg.2.1 (j - 1) (by omega)
  · rw [hget, hget]
    have hup : ∀ k, p ≤ k → k < L.length → x.f0 < (r95 L k).f0 := fun k hk hkl => by
      have := h2 (by omega)
      by_cases e : k = p
      · rw [e]; exact this
      · have := hg.2.2 p k (by omega) hkl; omega
    repeat' split
    all_goals first | omega | skip
    · exact hg.2.2 i j hij (by omega)
    · exact h1 i (by omega)
    · by_cases e : i < j - 1
      · exact hg.2.2 i (j - 1) e (by omega)
      · omega
    · exact hup (j - 1) (by omega) (by omega)
    · exact hg.2.2 (i - 1) (j - 1) (by omega) (by omega)
theorem good_set {L : List S95} {x : S95} {p : Nat} (hg : Good L) (h : (r95 L p).f0 = x.f0) : Good (L.set p x) := by
  have hget : ∀ j, j < L.length → (r95 (L.set p x) j).f0 = (r95 L j).f0 := fun j hj => by
    simp only [r95, List.getD_eq_getElem?_getD, List.getElem?_set] at h ⊢
    split
    · subst_vars; simp [hj] at h ⊢; exact h.symm
    · rfl
  refine ⟨by rw [List.length_set]; exact hg.1, fun j hj => ?_, fun i j hij hj => ?_⟩
  · rw [List.length_set] at hj; rw [hget j hj]; exact hg.2.1 j hj
  · rw [List.length_set] at hj; rw [hget j hj, hget i (by omega)]; exact hg.2.2 i j hij hj
/-- There is a place for every number. -/
theorem srch_ex (L : List S95) (t : Int) (hg : Good L) : ∃ p y, Srch L t p y := by
  have key : ∀ n, n ≤ L.length → ∃ p, p ≤ n ∧ (∀ j, j < p → (r95 L j).f0 < t) ∧ (∀ j, p ≤ j → j < n → t ≤ (r95 L j).f0) := by
    intro n
    induction n with
    | zero => intro _; exact ⟨0, Nat.le_refl _, fun j h => by omega, fun j h h' => by omega⟩
    | succ n ih =>
      intro hn
      obtain ⟨p, h1, h2, h3⟩ := ih (by omega)
      by_cases hp : p = n
      · subst hp
        by_cases ht : (r95 L p).f0 < t
        · exact ⟨p + 1, Nat.le_refl _, fun j hj => by by_cases e : j = p; (rw [e]; exact ht); exact h2 j (by omega), fun j h h' => by omega⟩
        · exact ⟨p, by omega, h2, fun j h h' => by have : j = p := by omega
                                                   rw [this]; omega⟩
      · refine ⟨p, by omega, h2, fun j hj hjn => ?_⟩
        by_cases e : j < n
        · exact h3 j hj e
        · have a := h3 p (Nat.le_refl _) (by omega)
          have b := hg.2.2 p n (by omega) (by omega)
          have : j = n := by omega
          rw [this]; omega
  obtain ⟨p, h1, h2, h3⟩ := key L.length (Nat.le_refl _)
  exact ⟨p, decide (p < L.length ∧ (r95 L p).f0 = t), h1, by simp, fun _ _ => ⟨h2, h3⟩⟩
theorem putL_good {L : List S95} {most : Int} {x : S95} (hg : Good L) (hm : most ≤ 64) (hl : (L.length : Int) ≤ most) (k1 : 0 ≤ x.f0) (k2 : x.f0 ≤ 2000000) : Good (putL L most x).1 ∧ ((putL L most x).1.length : Int) ≤ most := by
  obtain ⟨p, y, hs⟩ := srch_ex L x.f0 hg
  cases y with
  | true =>
    rw [putL_yes hg hs]
    exact ⟨good_set hg (hs.2.1.1 rfl).2, by simpa using hl⟩
  | false =>
    rw [putL_no hg hs k1 k2]
    split
    · exact ⟨hg, hl⟩
    · obtain ⟨a, b⟩ := hs.2.2 k1 k2
      have hp := hs.1
      refine ⟨good_ins hg hs.1 (by omega) k1 k2 a (fun hpl => ?_), by simp; omega⟩
      have := b p (Nat.le_refl _) hpl
      rcases Int.lt_or_eq_of_le this with h' | h'
      · exact h'
      · exact absurd (hs.2.1.2 ⟨hpl, h'.symm⟩) (by simp)
end Go.Proofs.Ytmnpmjphhkiedaa.LF
