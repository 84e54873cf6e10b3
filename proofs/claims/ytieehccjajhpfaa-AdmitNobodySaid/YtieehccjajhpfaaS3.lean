/-
  What the functions of the program, and those of the law, do.
-/
import Derived.Test.YtieehccjajhpfaaS2
set_option linter.unusedSimpArgs false
set_option linter.unusedVariables false
/- The search. -/
namespace Go.Proofs.Ytieehccjajhpfaa.AC
open Go Go.AI Go.Proofs Go.Proofs.Ytieehccjajhpfaa.AQ
set_option linter.unusedVariables false
theorem SrtE.lt {L : List En} (h : SrtE L) {i j : Nat} (hij : i < j) (hj : j < L.length) : (L[i]).k.bef (L[j]).k = true := List.pairwise_iff_getElem.1 h i j (by omega) hj hij
set_option maxHeartbeats 1000000 in
theorem bsearch_ok {A : AH} {a : Option Addr} {c : Nat} {L : List En} (h : Sl A 63 10 a (L.map En.enc)) (hs : SrtE L) (hn : L.length ≤ 1000) (k : Key) :
    ACall Try.prog 57 [.slice a L.length c, keyV k, .func (.func 58) #[] #[]] A fun v A' => Ext A A' ∧ ∃ p, PosP L k p ∧ v = .tuple #[.int .i64 p, .bool (decide (∃ x, L[p]? = some x ∧ x.k = k))] := by
  refine code57.call (by simp) fun hwf => ?_
  unfold c57
  simp [keyV]
  refine LN.use (fun m E A' => ∃ (i j : Nat), m = j - i ∧ i ≤ j ∧ j ≤ L.length ∧ Ext A A' ∧ A.next + 1 ≤ A'.next ∧ A'.get A.next = some (.row k.enc 23 false) ∧ (∀ t (h : t < L.length), t < i → (L[t]).k.bef k = true) ∧ (∀ t (h : t < L.length), j ≤ t → (L[t]).k.bef k = false) ∧ E.get 0 = .slice a L.length c ∧ E.get 2 = .func (.func 58) #[] #[] ∧ E.get 4 = .pointer (some ⟨A.next, 0, none⟩) ∧ E.get 8 = .int .i64 L.length ∧ E.get 9 = .int .i64 i ∧ E.get 10 = .int .i64 j) L.length
    ⟨0, L.length, by omega, by omega, Nat.le_refl _, Ext.alloc A _, by simp, AH.get_new _ _, fun t _ h => by omega, fun t _ h => by omega, by simp, by simp, by simp, by simp, by simp, by simp⟩ ?_
  rintro m E A1 hw1 hn1 ⟨i, j, rfl, hij, hj, x1, n1, r1, hlo, hhi, E0, E2, E4, E8, E9, E10⟩
  by_cases hlt : i < j
  · have hlt' : (i : Int) < j := by omega
    have hexh : ∃ h : Nat, h = (i + j) / 2 := ⟨_, rfl⟩
    obtain ⟨hh, hhe⟩ := hexh
    have hexs : ∃ h : Nat, h = i + j := ⟨_, rfl⟩
    obtain ⟨sm, hsm⟩ := hexs
    have w1 : IntKind.i64.wrap ((i : Int) + j) = (sm : Int) := by rw [i64_in (by omega) (by omega)]; omega
    have w2 : IntKind.u64.wrap (sm : Int) = (sm : Int) := by rw [wrap64]; omega
    have w3 : shrI .u64 (sm : Int) 1 = (hh : Int) := by rw [half64 sm (by omega), hhe, hsm]
    have w4 : IntKind.i64.wrap (hh : Int) = (hh : Int) := i64_in (by omega) (by omega)
    have w5 := fun a => intBin_shr (k := .u64) (a := a) (b := 1) (by omega)
    have hhl : hh < L.length := by omega
    have hi1 : IntKind.i64.wrap ((hh : Int) + 1) = ((hh + 1 : Nat) : Int) := by rw [i64_in (by omega) (by omega)]; simp
    have hobt := (h.ext hwf x1).at (i := hh) (by simpa using hhl)
    obtain ⟨b, o, cs, q, rfl, g1, g2, g3⟩ := hobt
    rw [List.getElem_map] at g3
    simp [E0, E2, E4, E8, E9, E10, hlt, hlt', w1, w2, w3, w4, w5, hhl, g1, g2, g3, r1]
    refine CN.use (find1_ok (L[hh]'hhl) k _) ?_
    rintro _ A2 hw2 hn2 ⟨rfl, x2⟩
    have x02 := x1.trans (by omega) x2
    have r2 := x2.get hw1 r1
    have hbool := Bool.eq_false_or_eq_true ((L[hh]'hhl).k.bef k)
    have ho := ordI_lt (L[hh]'hhl).k k
    rcases hbool with hl | hl
    · have hl' : ordI (L[hh]'hhl).k k < 0 := ho.2 hl
      have hA : ∀ t (h : t < L.length), t < hh + 1 → (L[t]).k.bef k = true := fun t ht h2 => by
        by_cases e : t = hh
        · subst e; exact hl
        · exact bef_trans (hs.lt (by omega) hhl) hl
      simp [hl', hi1]
      exact NX.of ⟨j - (hh + 1), by omega, hh + 1, j, rfl, by omega, hj, x02, by omega, r2, hA, hhi, by simp [E0], by simp [E2], by simp [E4], by simp [E8], by simp, by simp [E10]⟩
    · have hl' : ¬ ordI (L[hh]'hhl).k k < 0 := fun h => by rw [ho, hl] at h; cases h
      have hB : ∀ t (h : t < L.length), hh ≤ t → (L[t]).k.bef k = false := fun t ht h2 => by
        by_cases e : t = hh
        · subst e; exact hl
        · rw [← Bool.not_eq_true]; intro h3
          rw [bef_trans (hs.lt (by omega) ht) h3] at hl
          cases hl
      simp [hl']
      exact NX.of ⟨hh - i, by omega, i, hh, rfl, by omega, by omega, x02, by omega, r2, hlo, hB, by simp [E0], by simp [E2], by simp [E4], by simp [E8], by simp [E9], by simp⟩
  · have hlt' : ¬ (i : Int) < j := by omega
    obtain rfl : i = j := by omega
    by_cases hin : i < L.length
    · have hin' : (i : Int) < L.length := by omega
      have hobt := (h.ext hwf x1).at (i := i) (by simpa using hin)
      obtain ⟨b, o, cs, q, rfl, g1, g2, g3⟩ := hobt
      rw [List.getElem_map] at g3
      simp [E0, E2, E4, E8, E9, E10, hin, hin', g1, g2, g3, r1]
      refine CN.use (find1_ok (L[i]'hin) k _) ?_
      rintro _ A2 hw2 hn2 ⟨rfl, x2⟩
      have ho := ordI_eq (L[i]'hin).k k
      simp
      refine DN.of ⟨x1.trans (by omega) x2, i, ⟨hj, hlo, hhi⟩, ?_⟩
      congr 3
      simp [List.getElem?_eq_getElem hin, ho]
    · have hin' : ¬ (i : Int) < L.length := by omega
      simp [E8, E9, E10, hin, hin']
      refine DN.of ⟨x1, i, ⟨hj, hlo, hhi⟩, ?_⟩
      simp [List.getElem?_eq_none (show L.length ≤ i by omega)]
end Go.Proofs.Ytieehccjajhpfaa.AC
/- Clones of entries. -/
namespace Go.Proofs.Ytieehccjajhpfaa.AC
open Go Go.AI Go.Proofs Go.Proofs.Ytieehccjajhpfaa.AQ
set_option linter.unusedVariables false
theorem enc_rw (L : List En) : Rw 10 (L.map En.enc) := by
  intro r hr
  have hobt := List.mem_map.1 hr
  obtain ⟨x, -, rfl⟩ := hobt
  exact ⟨rfl, rfl⟩
theorem clonee_ok {A : AH} {a : Option Addr} {c : Nat} {L : List En} (h : Sl A 63 10 a (L.map En.enc)) (hl : L.length ≤ 1000) : ACall Try.prog 42 [.slice a L.length c] A fun v A' => Ext A A' ∧ ∃ ob, Lst A' 63 10 ob v (L.map En.enc) ∧ ∀ b, ob = some b → A.next ≤ b := by
  by_cases ha : a = none
  · subst ha
    have hL : L = [] := by
      cases L with
      | nil => rfl
      | cons x L => obtain ⟨b, o, cs, ro, h1, _⟩ := h.2.2 (by simp); cases h1
    subst hL
    refine code42.call (by simp) fun hwf => ?_
    unfold c42
    simp
    exact DN.of ⟨Ext.refl A, none, Lst.nil _ _ _, by simp⟩
  · refine ACall.wf fun hwf => ?_
    have h0 : Lst (A.alloc (.row [] 63 false)) 63 10 (some A.next) (.slice (some ⟨A.next, 0, none⟩) 0 0) [] := ⟨Rw.nil _, Or.inr ⟨A.next, 0, [], rfl, rfl, by rw [AH.get_new]; rfl, Or.inr ⟨by unfold UNK; omega, by simp, by simp⟩⟩⟩
    have hobt := Lst.app (y := 72) (c := c) h0 (h.ext hwf (Ext.alloc A _)) (by omega) (by omega) (by simp; omega) (by simp; omega)
    obtain ⟨v', A', ob', p1, p2, p3, p4, p5⟩ := hobt
    rw [List.length_map] at p1
    refine code42.call (by simp) fun hwf => ?_
    unfold c42
    simp [ha, p1]
    refine DN.of ⟨fun k hk => ?_, ob', by simpa using p2, fun b hb => ?_⟩
    · rw [p3 k (by simp; omega) (by intro e; injection e with e; omega), AH.get_alloc, if_neg (by omega)]
    · rcases p4 with e | e
      · rw [e] at hb; injection hb with hb; omega
      · rw [e] at hb; injection hb with hb; simp at hb; omega
end Go.Proofs.Ytieehccjajhpfaa.AC
/- Entries in groups of kin, without the program. -/
namespace Go.Proofs.Ytieehccjajhpfaa.AC
open Go Go.AI Go.Proofs Go.Proofs.Ytieehccjajhpfaa.AQ
set_option linter.unusedVariables false
set_option linter.unusedSimpArgs false
theorem kin_iff (a b : Key) : a.kin b = true ↔ a.head = b.head ∧ a.tunnel = b.tunnel ∧ a.tail = b.tail := by simp [Key.kin]
theorem kin_refl (a : Key) : a.kin a = true := by simp [Key.kin]
theorem kin_comm (a b : Key) : a.kin b = b.kin a := by rw [Bool.eq_iff_iff, kin_iff, kin_iff]; omega
theorem kin_cong {a b : Key} (h : a.kin b = true) (c : Key) : a.kin c = b.kin c := by rw [Bool.eq_iff_iff, kin_iff, kin_iff]; rw [kin_iff] at h; omega
theorem kin_cong' {a b : Key} (h : a.kin b = true) (c : Key) : c.kin a = c.kin b := by rw [kin_comm c a, kin_comm c b]; exact kin_cong h c
def gkey : List En → Key
  | [] => ⟨0, 0, 0, 0⟩
  | x :: _ => x.k
def bwG (g : List En) : Nat := g.foldl (fun a x => max a x.w.bw) 0
def holdG : List En → Int
  | [] => 0
  | x :: t => t.foldl (fun a x => min a x.w.hold) x.w.hold
theorem bwG_snoc (g : List En) (x : En) : bwG (g ++ [x]) = max (bwG g) x.w.bw := by simp [bwG]
theorem holdG_snoc (g : List En) (x : En) : holdG (g ++ [x]) = if g = [] then x.w.hold else min (holdG g) x.w.hold := by
  cases g with
  | nil => rfl
  | cons y t => simp [holdG]
theorem gkey_app {g : List En} (h : g ≠ []) (t : List En) : gkey (g ++ t) = gkey g := by cases g with | nil => exact absurd rfl h | cons y g => rfl
theorem gkey_mem {g : List En} (h : g ≠ []) : ∃ x ∈ g, x.k = gkey g := by cases g with | nil => exact absurd rfl h | cons y g => exact ⟨y, List.mem_cons_self, rfl⟩
def gst (out : List (List En)) (x : En) : List (List En) :=
  match out.getLast? with
  | none => [[x]]
  | some g => if (gkey g).kin x.k = true then out.dropLast ++ [g ++ [x]] else out ++ [[x]]
theorem gst_nil (x : En) : gst [] x = [[x]] := rfl
theorem gst_snoc (o : List (List En)) (g : List En) (x : En) : gst (o ++ [g]) x = if (gkey g).kin x.k = true then o ++ [g ++ [x]] else o ++ [g] ++ [[x]] := by simp [gst]
def grp (l : List En) : List (List En) := l.foldl gst []
theorem grp_snoc (l : List En) (x : En) : grp (l ++ [x]) = gst (grp l) x := by simp [grp]
theorem snoc_cases {α : Type} (l : List α) : l = [] ∨ ∃ o x, l = o ++ [x] := by
  rcases List.eq_nil_or_concat l with h | ⟨o, x, h⟩
  · exact Or.inl h
  · exact Or.inr ⟨o, x, by simpa using h⟩
theorem snoc_ind {α : Type} {p : List α → Prop} (h0 : p []) (h1 : ∀ l x, p l → p (l ++ [x])) : ∀ l, p l := by
  intro l
  have : ∀ n (l : List α), l.length = n → p l := by
    intro n
    induction n with
    | zero => intro l hl; rw [List.eq_nil_of_length_eq_zero hl]; exact h0
    | succ n ih =>
      intro l hl
      rcases snoc_cases l with rfl | ⟨o, x, rfl⟩
      · simp at hl
      · exact h1 _ _ (ih _ (by simpa using hl))
  exact this _ l rfl
theorem grp_flat (l : List En) : (grp l).flatten = l := by
  induction l using snoc_ind with
  | h0 => rfl
  | h1 l x ih =>
    rw [grp_snoc]
    rcases snoc_cases (grp l) with h | ⟨o, g, h⟩
    · rw [h] at ih ⊢; simp [gst_nil, ← ih]
    · rw [h] at ih ⊢
      rw [gst_snoc]
      split
      · simp [← ih]
      · simp [← ih]
structure GG (gs : List (List En)) : Prop where
  ne : ∀ g ∈ gs, g ≠ []
  kin : ∀ g ∈ gs, ∀ x ∈ g, (gkey g).kin x.k = true
  apart : gs.Pairwise fun g h => (gkey g).kin (gkey h) = false
theorem GG.nil : GG [] := ⟨by simp, by simp, List.Pairwise.nil⟩
theorem GG.filter {gs : List (List En)} (h : GG gs) (p : List En → Bool) : GG (gs.filter p) :=
  ⟨fun g hg => h.ne g (List.mem_filter.1 hg).1, fun g hg => h.kin g (List.mem_filter.1 hg).1, h.apart.sublist List.filter_sublist⟩
theorem bef_kin {a b c : Key} (h1 : a.bef b = true) (h2 : b.bef c = true) (h : a.kin c = true) : b.kin c = true := by
  rw [bef_iff] at h1 h2; rw [kin_iff] at *; omega
theorem grp_gg {l : List En} (hs : SrtE l) : GG (grp l) := by
  induction l using snoc_ind with
  | h0 => exact GG.nil
  | h1 l x ih =>
    unfold SrtE at hs
    rw [List.pairwise_append] at hs
    obtain ⟨hs1, -, hs2⟩ := hs
    have hx : ∀ y ∈ l, y.k.bef x.k = true := fun y hy => hs2 y hy x (by simp)
    have G := ih hs1
    have hf := grp_flat l
    rw [grp_snoc]
    rcases snoc_cases (grp l) with h | ⟨o, g, h⟩
    · rw [h, gst_nil]
      exact ⟨by simp, by simp [gkey, kin_refl], by simp⟩
    · rw [h] at G hf ⊢
      rw [gst_snoc]
      obtain ⟨g1, g2, g3⟩ := G
      have hg : g ≠ [] := g1 g (by simp)
      rw [List.pairwise_append] at g3
      split
      · rename_i hk
        refine ⟨fun h hh => ?_, fun h hh y hy => ?_, ?_⟩
        · rcases List.mem_append.1 hh with hh | hh
          · exact g1 h (by simp [hh])
          · obtain rfl : h = g ++ [x] := by simpa using hh
            simp
        · rcases List.mem_append.1 hh with hh | hh
          · exact g2 h (by simp [hh]) y hy
          · obtain rfl : h = g ++ [x] := by simpa using hh
            rw [gkey_app hg]
            rcases List.mem_append.1 hy with hy | hy
            · exact g2 g (by simp) y hy
            · obtain rfl : y = x := by simpa using hy
              exact hk
        · rw [List.pairwise_append]
          refine ⟨g3.1, by simp, fun a ha b hb => ?_⟩
          obtain rfl : b = g ++ [x] := by simpa using hb
          rw [gkey_app hg]
          exact g3.2.2 a ha g (by simp)
      · rename_i hk
        rw [Bool.not_eq_true] at hk
        refine ⟨fun h hh => ?_, fun h hh y hy => ?_, ?_⟩
        · rcases List.mem_append.1 hh with hh | hh
          · exact g1 h hh
          · obtain rfl : h = [x] := by simpa using hh
            simp
        · rcases List.mem_append.1 hh with hh | hh
          · exact g2 h hh y hy
          · obtain rfl : h = [x] := by simpa using hh
            obtain rfl : y = x := by simpa using hy
            exact kin_refl _
        · rw [List.pairwise_append, List.pairwise_append]
          refine ⟨⟨g3.1, by simp, g3.2.2⟩, by simp, fun a ha b hb => ?_⟩
          obtain rfl : b = [x] := by simpa using hb
          show (gkey a).kin x.k = false
          rcases List.mem_append.1 ha with ha | ha
          · rw [← Bool.not_eq_true]
            intro hc
            have hsf : List.Pairwise (fun x y => x.k.bef y.k = true) ((o ++ [g]).flatten) := by rw [hf]; exact hs1
            rw [List.pairwise_flatten, List.pairwise_append] at hsf
            have hobt := gkey_mem (g1 a (by simp [ha]))
            obtain ⟨p, hp, ep⟩ := hobt
            have hobt := gkey_mem hg
            obtain ⟨q, hq, eq⟩ := hobt
            have h1 := hsf.2.2.2 a ha g (by simp) p hp q hq
            have hql : q ∈ l := by rw [← hf]; simp [hq]
            have h2 := hx q hql
            rw [← ep] at hc
            have := bef_kin h1 h2 hc
            rw [eq, hk] at this
            cases this
          · obtain rfl : a = g := by simpa using ha
            exact hk
theorem gst_all (o : List (List En)) : ∀ (t h : List En), h ≠ [] → (∀ x ∈ t, (gkey h).kin x.k = true) → t.foldl gst (o ++ [h]) = o ++ [h ++ t] := by
  intro t
  induction t with
  | nil => intro h _ _; simp
  | cons x t ih =>
    intro h hh hx
    rw [List.foldl_cons, gst_snoc, if_pos (hx x (by simp)), ih (h ++ [x]) (by simp) (fun y hy => by rw [gkey_app hh]; exact hx y (by simp [hy]))]
    simp
theorem grp_of {gs : List (List En)} (h : GG gs) : grp gs.flatten = gs := by
  induction gs using snoc_ind with
  | h0 => rfl
  | h1 gs g ih =>
    obtain ⟨g1, g2, g3⟩ := h
    rw [List.pairwise_append] at g3
    have ih' := ih ⟨fun a ha => g1 a (by simp [ha]), fun a ha => g2 a (by simp [ha]), g3.1⟩
    have hg := g1 g (by simp)
    have hk := g2 g (by simp)
    unfold grp at ih' ⊢
    rw [List.flatten_append, List.foldl_append, ih']
    cases g with
    | nil => exact absurd rfl hg
    | cons y t =>
      simp only [List.flatten_cons, List.flatten_nil, List.append_nil, List.foldl_cons]
      have h1 : gst gs y = gs ++ [[y]] := by
        rcases snoc_cases gs with rfl | ⟨o, a, rfl⟩
        · rfl
        · rw [gst_snoc, if_neg]
          have := g3.2.2 a (by simp) (y :: t) (by simp)
          rw [show gkey (y :: t) = y.k from rfl] at this
          rw [this]; simp
      rw [h1, gst_all gs t [y] (by simp) (fun x hx => hk x (by simp [hx]))]
      rfl
/-- What tells the same of all kin. -/
def KinP (q : Key → Bool) : Prop := ∀ a b : Key, a.kin b = true → q a = q b
theorem GG.flat_filter {gs : List (List En)} (h : GG gs) {q : Key → Bool} (hq : KinP q) : (gs.filter fun g => q (gkey g)).flatten = gs.flatten.filter fun y => q y.k := by
  induction gs with
  | nil => rfl
  | cons g gs ih =>
    have ih' := ih ⟨fun a ha => h.ne a (by simp [ha]), fun a ha => h.kin a (by simp [ha]), (List.pairwise_cons.1 h.apart).2⟩
    have hk := h.kin g (by simp)
    rw [List.flatten_cons, List.filter_append, ← ih', List.filter_cons]
    cases hb : q (gkey g) with
    | true =>
      rw [if_pos rfl, List.flatten_cons]
      congr 1
      exact (List.filter_eq_self.2 fun y hy => by rw [← hq _ _ (hk y hy), hb]).symm
    | false =>
      rw [if_neg (by simp)]
      have : g.filter (fun y => q y.k) = [] := List.filter_eq_nil_iff.2 fun y hy => by rw [← hq _ _ (hk y hy), hb]; simp
      rw [this, List.nil_append]
theorem grp_filter {l : List En} (hs : SrtE l) {q : Key → Bool} (hq : KinP q) : grp (l.filter fun y => q y.k) = (grp l).filter fun g => q (gkey g) := by
  have G := grp_gg hs
  have := grp_of (G.filter fun g => q (gkey g))
  rw [G.flat_filter hq, grp_flat] at this
  exact this
def tot (gs : List (List En)) : Nat := (gs.map bwG).sum
/-- An entry, put in its place. -/
def insE (l : List En) (x : En) : List En := l.takeWhile (fun y => y.k.bef x.k) ++ x :: l.dropWhile (fun y => y.k.bef x.k)
theorem tw_filter {α : Type} {p : α → Bool} : ∀ {l : List α}, l.Pairwise (fun a b => p b = true → p a = true) → l.takeWhile p = l.filter p ∧ l.dropWhile p = l.filter fun x => !p x
  | [], _ => ⟨rfl, rfl⟩
  | x :: l, h => by
    rw [List.pairwise_cons] at h
    have hobt := tw_filter h.2
    obtain ⟨h1, h2⟩ := hobt
    cases hp : p x with
    | true => simp [List.takeWhile_cons, List.dropWhile_cons, List.filter_cons, hp, h1, h2]
    | false =>
      have hn : ∀ y ∈ l, p y = false := fun y hy => by
        rw [← Bool.not_eq_true]; intro hy'
        rw [h.1 y hy hy'] at hp; cases hp
      have e1 : l.filter p = [] := List.filter_eq_nil_iff.2 fun y hy => by rw [hn y hy]; simp
      have e2 : (l.filter fun x => !p x) = l := List.filter_eq_self.2 fun y hy => by rw [hn y hy]; rfl
      simp [List.takeWhile_cons, List.dropWhile_cons, List.filter_cons, hp, e1, e2]
theorem insE_filters {l : List En} (hs : SrtE l) (x : En) : insE l x = (l.filter fun y => y.k.bef x.k) ++ x :: l.filter fun y => !y.k.bef x.k := by
  have := tw_filter (p := fun y : En => y.k.bef x.k) (List.Pairwise.imp (fun {a b} hab hb => bef_trans hab hb) hs)
  unfold insE
  rw [this.1, this.2]
theorem insE_filter {l : List En} (hs : SrtE l) {x : En} {q : En → Bool} (hq : q x = true) : insE (l.filter q) x = (insE l x).filter q := by
  rw [insE_filters hs, insE_filters (List.Pairwise.sublist List.filter_sublist hs)]
  simp [List.filter_append, List.filter_cons, hq, List.filter_filter, Bool.and_comm]
theorem insE_pos {l : List En} {x : En} {p : Nat} (h : PosP l x.k p) : l.take p ++ x :: l.drop p = insE l x := by
  obtain ⟨h0, h1, h2⟩ := h
  have ha : ∀ y ∈ l.take p, y.k.bef x.k = true := fun y hy => by
    have hobt := List.mem_iff_getElem.1 hy
    obtain ⟨i, hi, rfl⟩ := hobt
    rw [List.length_take] at hi
    rw [List.getElem_take]
    exact h1 i (by omega) (by omega)
  have hb : (l.drop p).takeWhile (fun y => y.k.bef x.k) = [] ∧ (l.drop p).dropWhile (fun y => y.k.bef x.k) = l.drop p := by
    by_cases hp : p < l.length
    · have := h2 p hp (Nat.le_refl _)
      rw [List.drop_eq_getElem_cons hp, List.takeWhile_cons, List.dropWhile_cons, this]
      exact ⟨rfl, rfl⟩
    · rw [List.drop_eq_nil_of_le (by omega)]; simp
  unfold insE
  conv => rhs; rw [← List.take_append_drop p l]
  rw [List.takeWhile_append_of_pos ha, List.dropWhile_append_of_pos ha, hb.1, hb.2, List.append_nil]
theorem insE_len (l : List En) (x : En) : (insE l x).length = l.length + 1 := by
  unfold insE
  rw [List.length_append, List.length_cons]
  have := congrArg List.length (List.takeWhile_append_dropWhile (p := fun y : En => y.k.bef x.k) (l := l))
  rw [List.length_append] at this
  omega
theorem insE_mem (l : List En) (x y : En) : y ∈ insE l x ↔ y = x ∨ y ∈ l := by
  unfold insE
  rw [List.mem_append, List.mem_cons]
  conv => rhs; rw [← List.takeWhile_append_dropWhile (p := fun y : En => y.k.bef x.k) (l := l), List.mem_append]
  constructor
  · rintro (h | h | h)
    · exact Or.inr (Or.inl h)
    · exact Or.inl h
    · exact Or.inr (Or.inr h)
  · rintro (h | h | h)
    · exact Or.inr (Or.inl h)
    · exact Or.inl h
    · exact Or.inr (Or.inr h)
theorem insE_srt {l : List En} (hs : SrtE l) {x : En} (hx : ∀ y ∈ l, y.k ≠ x.k) : SrtE (insE l x) := by
  rw [insE_filters hs]
  unfold SrtE
  rw [List.pairwise_append, List.pairwise_cons]
  refine ⟨hs.sublist List.filter_sublist, ⟨fun y hy => ?_, hs.sublist List.filter_sublist⟩, fun y hy z hz => ?_⟩
  · obtain ⟨hy, hb⟩ := List.mem_filter.1 hy
    rcases bef_total (hx y hy) with h | h
    · simp [h] at hb
    · exact h
  · obtain ⟨hy, hb⟩ := List.mem_filter.1 hy
    rcases List.mem_cons.1 hz with rfl | hz
    · exact hb
    · obtain ⟨hz, hc⟩ := List.mem_filter.1 hz
      rcases bef_total (hx z hz) with h | h
      · simp [h] at hc
      · exact bef_trans hb h
end Go.Proofs.Ytieehccjajhpfaa.AC
/- Who gives way, without the program. -/
namespace Go.Proofs.Ytieehccjajhpfaa.AC
open Go Go.AI Go.Proofs Go.Proofs.Ytieehccjajhpfaa.AQ
set_option linter.unusedVariables false
set_option linter.unusedSimpArgs false
def wrs (a b : List En) : Bool := decide (holdG b < holdG a ∨ holdG a = holdG b ∧ (bwG b < bwG a ∨ bwG a = bwG b ∧ (gkey b).bef (gkey a) = true))
theorem wrs_iff (a b : List En) : wrs a b = true ↔ (holdG b < holdG a ∨ holdG a = holdG b ∧ (bwG b < bwG a ∨ bwG a = bwG b ∧ (gkey b).bef (gkey a) = true)) := by simp [wrs]
theorem wrs_swo : Sort.SWO wrs := by
  refine ⟨fun x => ?_, fun x y z h1 h2 => ?_, fun x y z h1 h2 => ?_⟩
  · rw [← Bool.not_eq_true, wrs_iff, bef_irr]; simp
  · rw [wrs_iff, bef_iff] at *; omega
  · rw [← Bool.not_eq_true, wrs_iff, bef_iff] at *; omega
theorem wrs_total {a b : List En} (h : gkey a ≠ gkey b) : wrs a b = true ∨ wrs b a = true := by
  rw [wrs_iff, wrs_iff]
  rcases bef_total h with h1 | h1
  · simp only [h1, and_true]; omega
  · simp only [h1, and_true]; omega
def candB (k : Key) (s : Int) (g : List En) : Bool := !(gkey g).kin k && decide (s < holdG g)
def bstS (b : Option (List En)) (g : List En) : Option (List En) :=
  match b with
  | none => some g
  | some c => if wrs g c = true then some g else some c
def bst (l : List (List En)) : Option (List En) := l.foldl bstS none
theorem bst_spec (l : List (List En)) : (l = [] ∧ bst l = none) ∨ ∃ c, bst l = some c ∧ c ∈ l ∧ ∀ g ∈ l, wrs g c = false := by
  induction l using snoc_ind with
  | h0 => exact Or.inl ⟨rfl, rfl⟩
  | h1 l g ih =>
    right
    have e : bst (l ++ [g]) = bstS (bst l) g := by simp [bst]
    rw [e]
    rcases ih with ⟨rfl, h⟩ | ⟨c, h, hc, hl⟩
    · rw [h]
      exact ⟨g, rfl, by simp, fun a ha => by obtain rfl : a = g := by simpa using ha
                                             exact wrs_swo.1 _⟩
    · rw [h]
      by_cases hw : wrs g c = true
      · refine ⟨g, by simp [bstS, hw], by simp, fun a ha => ?_⟩
        rcases List.mem_append.1 ha with ha | ha
        · rw [← Bool.not_eq_true]; intro h3
          have := wrs_swo.2 _ _ _ h3 hw
          rw [hl a ha] at this; cases this
        · obtain rfl : a = g := by simpa using ha
          exact wrs_swo.1 _
      · refine ⟨c, by simp [bstS, hw], by simp [hc], fun a ha => ?_⟩
        rcases List.mem_append.1 ha with ha | ha
        · exact hl a ha
        · obtain rfl : a = g := by simpa using ha
          simpa using hw
def rmv (now f : List En) : List En := now.filter fun y => !y.k.kin (gkey f)
def admL (size : Nat) (k : Key) (s : Int) (x : En) : Nat → List En → Option (List En)
  | 0, _ => none
  | n + 1, now => if tot (grp (insE now x)) ≤ size then some now else
    match bst ((grp now).filter (candB k s)) with
    | none => none
    | some f => admL size k s x n (rmv now f)
def adm (size : Nat) (k : Key) (s : Int) (x : En) (now : List En) : Option (List En) := admL size k s x (now.length + 1) now
theorem bst_mem {l : List (List En)} {c : List En} (h : bst l = some c) : c ∈ l := by
  rcases bst_spec l with ⟨_, h'⟩ | ⟨c', h', hc, _⟩
  · rw [h] at h'; cases h'
  · rw [h] at h'; injection h' with h'; subst h'; exact hc
theorem grp_mem {l g : List En} (h : g ∈ grp l) : ∀ y ∈ g, y ∈ l := fun y hy => by
  rw [← grp_flat l]; exact List.mem_flatten.2 ⟨g, h, hy⟩
theorem gst_ne {o : List (List En)} (h : ∀ g ∈ o, g ≠ []) (x : En) : ∀ g ∈ gst o x, g ≠ [] := by
  rcases snoc_cases o with rfl | ⟨o, a, rfl⟩
  · simp [gst_nil]
  · rw [gst_snoc]
    split
    · intro g hg
      rcases List.mem_append.1 hg with hg | hg
      · exact h g (by simp [hg])
      · obtain rfl : g = a ++ [x] := by simpa using hg
        simp
    · intro g hg
      rcases List.mem_append.1 hg with hg | hg
      · exact h g hg
      · obtain rfl : g = [x] := by simpa using hg
        simp
theorem grp_ne (l : List En) : ∀ g ∈ grp l, g ≠ [] := by
  induction l using snoc_ind with
  | h0 => simp [grp]
  | h1 l x ih => rw [grp_snoc]; exact gst_ne ih x
theorem rmv_lt {now f : List En} {k : Key} {s : Int} (h : bst ((grp now).filter (candB k s)) = some f) : (rmv now f).length < now.length := by
  have hm := (List.mem_filter.1 (bst_mem h)).1
  have hne : f ≠ [] := grp_ne now f hm
  have hobt := gkey_mem hne
  obtain ⟨y, hy, ey⟩ := hobt
  unfold rmv
  rcases Nat.lt_or_ge (now.filter fun y => !y.k.kin (gkey f)).length now.length with h1 | h1
  · exact h1
  · have h2 := List.filter_sublist.eq_of_length_le h1
    have := List.filter_eq_self.1 h2 y (grp_mem hm y hy)
    rw [ey, kin_refl] at this; cases this
theorem admL_fuel (size : Nat) (k : Key) (s : Int) (x : En) : ∀ (n m : Nat) (now : List En), now.length < n → now.length < m → admL size k s x n now = admL size k s x m now := by
  intro n
  induction n with
  | zero => intro m now h; omega
  | succ n ih =>
    intro m now h1 h2
    cases m with
    | zero => omega
    | succ m =>
      simp only [admL]
      split
      · rfl
      · split
        · rfl
        · rename_i f hf
          have := rmv_lt hf
          exact ih m _ (by omega) (by omega)
theorem adm_eq (size : Nat) (k : Key) (s : Int) (x : En) (now : List En) : adm size k s x now = if tot (grp (insE now x)) ≤ size then some now else
    match bst ((grp now).filter (candB k s)) with
    | none => none
    | some f => adm size k s x (rmv now f) := by
  conv => lhs; unfold adm
  simp only [admL]
  split
  · rfl
  · split
    · rfl
    · rename_i f hf
      exact admL_fuel size k s x _ _ _ (rmv_lt hf) (Nat.lt_succ_self _)
theorem adm_some {size : Nat} {k : Key} {s : Int} {x : En} : ∀ (n : Nat) (now r : List En), admL size k s x n now = some r → r.Sublist now ∧ tot (grp (insE r x)) ≤ size := by
  intro n
  induction n with
  | zero => intro now r h; cases h
  | succ n ih =>
    intro now r h
    simp only [admL] at h
    split at h
    · rename_i hf; injection h with h; subst h; exact ⟨List.Sublist.refl _, hf⟩
    · split at h
      · cases h
      · obtain ⟨h1, h2⟩ := ih _ _ h
        exact ⟨h1.trans List.filter_sublist, h2⟩
theorem GG.get {gs : List (List En)} (h : GG gs) {f : List En} (hf : f ∈ gs) : gs.filter (fun g => (gkey g).kin (gkey f)) = [f] := by
  induction gs with
  | nil => cases hf
  | cons g gs ih =>
    have hc := List.pairwise_cons.1 h.apart
    have h' : GG gs := ⟨fun a ha => h.ne a (by simp [ha]), fun a ha => h.kin a (by simp [ha]), hc.2⟩
    rw [List.filter_cons]
    rcases List.mem_cons.1 hf with rfl | hf
    · rw [if_pos (kin_refl _)]
      congr 1
      exact List.filter_eq_nil_iff.2 fun a ha => by rw [kin_comm, hc.1 a ha]; simp
    · rw [if_neg (by rw [hc.1 f hf]; simp)]
      exact ih h' hf
theorem kinp_to (k : Key) : KinP fun y => y.kin k := fun a b h => kin_cong h k
theorem kinp_not (k : Key) : KinP fun y => !y.kin k := fun a b h => by simp [kin_cong h k]
theorem GG.part {l f : List En} (hs : SrtE l) (hf : f ∈ grp l) : l.filter (fun y => y.k.kin (gkey f)) = f := by
  have G := grp_gg hs
  have := G.flat_filter (kinp_to (gkey f))
  rw [grp_flat, G.get hf] at this
  rw [← this]; simp
theorem grp_rmv {l : List En} (hs : SrtE l) (f : List En) : grp (rmv l f) = (grp l).filter fun g => !(gkey g).kin (gkey f) := grp_filter hs (kinp_not (gkey f))
theorem rmv_perm {l f : List En} (hs : SrtE l) (hf : f ∈ grp l) : (f ++ rmv l f).Perm l := by
  have h := List.filter_append_perm (fun y : En => y.k.kin (gkey f)) l
  rw [GG.part hs hf] at h
  exact h
theorem rmv_srt {l : List En} (hs : SrtE l) (f : List En) : SrtE (rmv l f) := hs.sublist List.filter_sublist
theorem insE_rmv {l f : List En} (hs : SrtE l) {x : En} (hx : x.k.kin (gkey f) = false) : insE (rmv l f) x = rmv (insE l x) f := insE_filter hs (by simp [hx])
/-- Which families give way: the new one is none of them. -/
theorem cand_ins {l : List En} (hs : SrtE l) {x : En} (hx : ∀ y ∈ l, y.k ≠ x.k) (s : Int) : (grp (insE l x)).filter (candB x.k s) = (grp l).filter (candB x.k s) := by
  have e : ∀ gs : List (List En), gs.filter (candB x.k s) = (gs.filter fun g => !(gkey g).kin x.k).filter fun g => decide (s < holdG g) := fun gs => by
    rw [List.filter_filter]; congr 1; funext g; rw [candB, Bool.and_comm]
  rw [e, e, ← grp_filter (insE_srt hs hx) (kinp_not x.k), ← grp_filter hs (kinp_not x.k)]
  congr 2
  rw [insE_filters hs]
  rw [List.filter_append, List.filter_cons, if_neg (by simp [kin_refl])]
  have := insE_filters hs x
  rw [← List.filter_append]
  have hp := tw_filter (p := fun y : En => y.k.bef x.k) (List.Pairwise.imp (fun {a b} hab hb => bef_trans hab hb) hs)
  rw [← hp.1, ← hp.2, List.takeWhile_append_dropWhile]
/-- Two lists in one strict order that have the same are the same. -/
theorem perm_sorted {α : Type} {r : α → α → Prop} (hr : ∀ a b, r a b → ¬ r b a) : ∀ {l m : List α}, l.Perm m → l.Pairwise r → m.Pairwise r → l = m
  | [], m, h, _, _ => h.nil_eq
  | x :: l, [], h, _, _ => absurd h.length_eq (by simp)
  | x :: l, y :: m, h, h1, h2 => by
    rw [List.pairwise_cons] at h1 h2
    have hxy : x = y := by
      rcases List.mem_cons.1 (h.subset List.mem_cons_self) with e | hx
      · exact e
      · rcases List.mem_cons.1 (h.symm.subset List.mem_cons_self) with e | hy
        · exact e.symm
        · exact absurd (h1.1 y hy) (hr _ _ (h2.1 x hx))
    subst hxy
    rw [perm_sorted hr h.cons_inv h1.2 h2.2]
def hasK (l : List En) (k : Key) : Bool := l.any fun y => decide (y.k = k)
theorem hasK_iff (l : List En) (k : Key) : hasK l k = true ↔ ∃ y ∈ l, y.k = k := by simp [hasK]
theorem srt_key {l : List En} (hs : SrtE l) {x y : En} (hx : x ∈ l) (hy : y ∈ l) (h : x.k = y.k) : x = y := by
  induction l with
  | nil => cases hx
  | cons a l ih =>
    unfold SrtE at hs
    rw [List.pairwise_cons] at hs
    rcases List.mem_cons.1 hx with e1 | hx1
    · rcases List.mem_cons.1 hy with e2 | hy1
      · rw [e1, e2]
      · have := hs.1 y hy1; rw [← e1, h, bef_irr] at this; cases this
    · rcases List.mem_cons.1 hy with e2 | hy1
      · have := hs.1 x hx1; rw [← e2, h, bef_irr] at this; cases this
      · exact ih hs.2 hx1 hy1
theorem sub_filter {now : List En} : ∀ {l : List En}, now.Sublist l → SrtE l → l.filter (fun y => hasK now y.k) = now := by
  intro l h
  induction h with
  | slnil => intro _; rfl
  | @cons l1 l2 a h ih =>
    intro hs
    unfold SrtE at hs
    rw [List.pairwise_cons] at hs
    rw [List.filter_cons, if_neg, ih hs.2]
    rw [hasK_iff]
    rintro ⟨y, hy, e⟩
    have := hs.1 y (h.subset hy)
    rw [e, bef_irr] at this; cases this
  | @cons_cons l1 l2 a h ih =>
    intro hs
    unfold SrtE at hs
    rw [List.pairwise_cons] at hs
    rw [List.filter_cons, if_pos ((hasK_iff _ _).2 ⟨a, by simp, rfl⟩)]
    congr 1
    conv => rhs; rw [← ih hs.2]
    refine List.filter_congr fun y hy => ?_
    rw [Bool.eq_iff_iff, hasK_iff, hasK_iff]
    constructor
    · rintro ⟨z, hz, e⟩
      rcases List.mem_cons.1 hz with rfl | hz
      · have := hs.1 y hy; rw [e, bef_irr] at this; cases this
      · exact ⟨z, hz, e⟩
    · rintro ⟨z, hz, e⟩; exact ⟨z, by simp [hz], e⟩
/-- The keys that are gone. -/
def goneK (l now : List En) : List Key := (l.filter fun y => !hasK now y.k).map En.k
theorem goneK_srt {l : List En} (hs : SrtE l) (now : List En) : (goneK l now).Pairwise fun a b => a.bef b = true := by
  unfold goneK
  rw [List.pairwise_map]
  exact hs.sublist List.filter_sublist
theorem gone_is {l now : List En} {gone : List Key} (hs : SrtE l) (hn : now.Sublist l) (hp : (gone ++ now.map En.k).Perm (l.map En.k)) : gone.Perm (goneK l now) := by
  have h1 := List.filter_append_perm (fun y : En => !hasK now y.k) l
  have h2 : (l.filter fun y => !!hasK now y.k) = now := by simpa using sub_filter hn hs
  rw [h2] at h1
  have h3 := h1.map En.k
  rw [List.map_append] at h3
  exact (List.perm_append_right_iff _).1 (hp.trans h3.symm)
theorem gone_eq {l now : List En} {gone gone' : List Key} (hs : SrtE l) (hn : now.Sublist l) (hp : (gone ++ now.map En.k).Perm (l.map En.k)) (hq : gone.Perm gone') (ho : gone'.Pairwise fun a b => b.bef a = false) : gone' = goneK l now := by
  have hg := goneK_srt hs now
  have hpm := hq.symm.trans (gone_is hs hn hp)
  have hnd : gone'.Nodup := (hpm.nodup_iff).2 (hg.imp fun {a b} h e => by rw [e, bef_irr] at h; cases h)
  refine perm_sorted (r := fun a b => a.bef b = true) (fun a b h1 h2 => by have := bef_irr a; rw [bef_trans h1 h2] at this; cases this) hpm ?_ hg
  have h2 := ho.and hnd
  refine h2.imp fun {a b} h => ?_
  rcases bef_total h.2 with h3 | h3
  · exact h3
  · rw [h.1] at h3; cases h3
end Go.Proofs.Ytieehccjajhpfaa.AC
/- A family takes a path. -/
namespace Go.Proofs.Ytieehccjajhpfaa.AC
open Go Go.AI Go.Proofs Go.Proofs.Ytieehccjajhpfaa.AQ
set_option linter.unusedVariables false
set_option linter.unusedSimpArgs false
def famC (v : Value) (g : List En) : List Value := [v, .int .u64 (bwG g), .int .i64 (holdG g)]
theorem bw_max (g : List En) (x : En) : (if bwG g < x.w.bw then ((x.w.bw : Nat) : Int) else (bwG g : Nat)) = (bwG (g ++ [x]) : Nat) := by
  rw [bwG_snoc]
  split
  · rw [Nat.max_eq_right (by omega)]
  · rw [Nat.max_eq_left (by omega)]
set_option maxHeartbeats 1000000 in
theorem add_ok {A : AH} {p : Nat} {ob : Option Nat} {v : Value} {g : List En} (x : En) (hp : A.get p = some (.row (famC v g) 88 false)) (hl : Lst A 63 10 ob v (g.map En.enc)) (hne : ob ≠ some p) (hn : g.length ≤ 1000) :
    ACall Try.prog 59 [.pointer (some ⟨p, 0, none⟩), .agg x.enc.toArray] A fun _ A' => ∃ v' ob', A'.get p = some (.row (famC v' (g ++ [x])) 88 false) ∧ Lst A' 63 10 ob' v' ((g ++ [x]).map En.enc) ∧ ob' ≠ some p ∧ (∀ k, k < A.next → k ≠ p → ob ≠ some k → A'.get k = A.get k) ∧ (ob' = ob ∨ ∃ b, ob' = some b ∧ A.next ≤ b) := by
  have hobt := x.cells
  obtain ⟨hxl, hxo, -, hx6, hxt⟩ := hobt
  have hx6' : x.enc[6]? = some (.int .i64 x.w.hold) := rfl
  have hx4' : x.enc[4]? = some (.int .u64 x.w.bw) := rfl
  have hy6 : x.enc[6]'(by rw [hxl]; omega) = .int .i64 x.w.hold := rfl
  have hy4 : x.enc[4]'(by rw [hxl]; omega) = .int .u64 x.w.bw := rfl
  refine ACall.wf fun hwf => ?_
  have hpl : p < A.next := hwf _ _ hp
  have hpn : ¬ A.next = p := by omega
  have hpn' : ¬ p = A.next := by omega
  have hobt := hl.sl
  obtain ⟨a, c, hv, hsl, hab⟩ := hobt
  rw [List.length_map] at hv
  -- the heap behind the first part
  obtain ⟨h0, hh0⟩ : ∃ h0 : Int, h0 = if g = [] then x.w.hold else holdG g := ⟨_, rfl⟩
  obtain ⟨A1, hA1⟩ : ∃ A1, A1 = if g = [] then (A.alloc (.row x.enc 63 false)).set p (.row [v, .int .u64 (bwG g), .int .i64 h0] 88 false) else A.alloc (.row x.enc 63 false) := ⟨_, rfl⟩
  have e1 : A1.get p = some (.row [v, .int .u64 (bwG g), .int .i64 h0] 88 false) := by
    rw [hA1]
    split
    · rw [AH.get_set, if_pos rfl]
    · rename_i hg; rw [AH.get_alloc, if_neg hpn', hp, hh0, if_neg hg]; rfl
  have e2 : A1.get A.next = some (.row x.enc 63 false) := by
    rw [hA1]
    split
    · rw [AH.get_set, if_neg hpn, AH.get_new]
    · rw [AH.get_new]
  have e3 : ∀ k, k < A.next → k ≠ p → A1.get k = A.get k := fun k h1 h2 => by
    rw [hA1]
    split
    · rw [AH.get_set, if_neg h2, AH.get_alloc, if_neg (by omega)]
    · rw [AH.get_alloc, if_neg (by omega)]
  have n1 : A1.next = A.next + 1 := by rw [hA1]; split <;> simp
  have w1 : A1.wf := by
    rw [hA1]
    split
    · exact AH.wf_set (AH.wf_alloc hwf _) (by simp; omega) _
    · exact AH.wf_alloc hwf _
  have l1 : Lst A1 63 10 ob v (g.map En.enc) := hl.kept fun b hb => e3 b (hl.lt hwf hb) (fun e => hne (by rw [hb, e]))
  have hobt := l1.push (y := 72) w1 (r := x.enc) ⟨hxl, List.all_eq_true.2 hxo⟩ (by omega) (by omega) (by rw [List.length_map]; omega) (by rw [List.length_map]; omega)
  obtain ⟨v', A2, ob', p1, p2, p3, p4, p5⟩ := hobt
  have hobt := p2.sl
  obtain ⟨a', c', hv', -⟩ := hobt
  subst hv'
  have g2 : A2.get p = some (.row [v, .int .u64 (bwG g), .int .i64 h0] 88 false) := by rw [p3 p (by omega) hne, e1]
  have obn : ob ≠ some A.next := fun e => by have := hl.lt hwf e; omega
  have g3 : A2.get A.next = some (.row x.enc 63 false) := by rw [p3 A.next (by omega) obn, e2]
  have obp : ob' ≠ some p := by rcases p4 with e | e <;> rw [e]
                                · exact hne
                                · intro e; injection e with e; omega
  have hm : (if x.w.hold < h0 then x.w.hold else h0) = holdG (g ++ [x]) := by
    rw [holdG_snoc, hh0]
    by_cases hg : g = []
    · simp [hg]
    · rw [if_neg hg, if_neg hg]
      split
      · rw [Int.min_eq_right (by omega)]
      · rw [Int.min_eq_left (by omega)]
  have hb := bw_max g x
  subst hv
  rw [n1] at p1
  have fin : ∀ A3 : AH, (∀ k, k ≠ p → A3.get k = A2.get k) → A3.get p = some (.row (famC (.slice a' (g.map En.enc ++ [x.enc]).length c') (g ++ [x])) 88 false) → ∃ v' ob', A3.get p = some (.row (famC v' (g ++ [x])) 88 false) ∧ Lst A3 63 10 ob' v' ((g ++ [x]).map En.enc) ∧ ob' ≠ some p ∧ (∀ k, k < A.next → k ≠ p → ob ≠ some k → A3.get k = A.get k) ∧ (ob' = ob ∨ ∃ b, ob' = some b ∧ A.next ≤ b) := fun A3 q1 q2 =>
    ⟨_, ob', q2, by rw [List.map_append]; exact p2.kept fun b hb => q1 b (fun e => obp (by rw [hb, e])), obp, fun k k1 k2 k3 => by rw [q1 k k2, p3 k (by omega) k3, e3 k k1 k2], p4.imp id fun e => ⟨_, e, by omega⟩⟩
  have hpne : A.next ≠ p := hpn
  by_cases hg : g = []
  · have hlen : g.length = 0 := by rw [hg]; rfl
    rw [if_pos hg] at hh0 hA1
    subst hh0
    rw [hlen] at hA1 p1 e1 g2
    refine code59.call (by simp) fun hwf => ?_
    unfold c59
    simp [famC] at hp
    simp [-AH.set_set, hxl, hxt, hlen, hp, hpn, hpn', hy6, ← hA1, e1, e2, n1]
    simp [-AH.set_set, hxl, hxt, hlen, p1, g2, g3, hpn, hpn', hy4, hy6, hb, hm]
    refine DN.of ?_
    refine fin _ ?_ ?_
    · intro k hk; simp [AH.get_set, hk]
    · simp [famC, hb]; exact ⟨hg, by rw [holdG_snoc, if_pos hg]⟩
  · have hlen : ¬ g.length = 0 := fun e => hg (List.eq_nil_of_length_eq_zero e)
    rw [if_neg hg] at hh0 hA1
    subst hh0
    refine code59.call (by simp) fun hwf => ?_
    unfold c59
    simp [famC] at hp
    simp [-AH.set_set, hxl, hxt, hlen, hg, hp, hpn, hpn', hy6, ← hA1, e1, e2, n1]
    simp [-AH.set_set, hxl, hxt, hlen, hg, p1, g2, g3, hpn, hpn', hy4, hy6, hb, hm]
    refine DN.of ?_
    refine fin _ ?_ ?_
    · intro k hk; simp [AH.get_set, hk]
    · simp [famC, hb, hm]
end Go.Proofs.Ytieehccjajhpfaa.AC
/- Families, made of entries: the memory. -/
namespace Go.Proofs.Ytieehccjajhpfaa.AC
open Go Go.AI Go.Proofs Go.Proofs.Ytieehccjajhpfaa.AQ
set_option linter.unusedVariables false
set_option linter.unusedSimpArgs false
def upd {α : Type} (f : Nat → α) (q : Nat) (y : α) : Nat → α := fun p => if p = q then y else f p
theorem upd_same {α : Type} (f : Nat → α) (q : Nat) (y : α) : upd f q y q = y := if_pos rfl
theorem upd_ne {α : Type} (f : Nat → α) {p q : Nat} (y : α) (h : p ≠ q) : upd f q y p = f p := if_neg h
theorem upd_map {α : Type} (f : Nat → α) {q : Nat} (y : α) {l : List Nat} (h : q ∉ l) : l.map (upd f q y) = l.map f := List.map_congr_left fun p hp => upd_ne f y fun e => h (by rw [← e]; exact hp)
structure FS (n0 : Nat) (A : AH) (ps : List Nat) (G : Nat → List En) (O : Nat → Option Nat) (ob : Option Nat) (v : Value) : Prop where
  l : Lst A 86 1 ob v (ps.map ptrE)
  nd : ps.Nodup
  fm : ∀ p ∈ ps, n0 ≤ p ∧ ∃ fv, A.get p = some (.row (famC fv (G p)) 88 false) ∧ Lst A 63 10 (O p) fv ((G p).map En.enc)
  ob : ∀ b, ob = some b → n0 ≤ b
  oO : ∀ p ∈ ps, ∀ b, O p = some b → n0 ≤ b
  ap : ∀ p ∈ ps, ∀ q ∈ ps, p ≠ q → ∀ b, O p = some b → O q ≠ some b
theorem Lst.ty {A : AH} {e : TypeId} {z : Nat} {ob : Option Nat} {v : Value} {L : List (List Value)} (h : Lst A e z ob v L) {k : Nat} {cs : List Value} {T : TypeId} {ro : Bool} (hk : A.get k = some (.row cs T ro)) (hT : T ≠ e) : ob ≠ some k := by
  intro e
  rcases h.2 with ⟨h1, _⟩ | ⟨b, c, rest, h1, _, h3, _⟩
  · rw [h1] at e; cases e
  · rw [h1] at e; injection e with e; subst e
    rw [h3] at hk; injection hk with hk; injection hk with _ hk _
    exact hT hk.symm
section
variable {n0 : Nat} {A A' : AH} {ps o : List Nat} {G : Nat → List En} {O : Nat → Option Nat} {ob : Option Nat} {v : Value} {q : Nat}
theorem FS.nil (n0 : Nat) (A : AH) (G : Nat → List En) (O : Nat → Option Nat) : FS n0 A [] G O none (.slice none 0 0) :=
  ⟨Lst.nil _ _ _, List.nodup_nil, by simp, by simp, by simp, by simp⟩
theorem FS.ne (h : FS n0 A ps G O ob v) {p : Nat} (hp : p ∈ ps) : ob ≠ some p := by
  have hobt := h.fm p hp
  obtain ⟨_, fv, h1, _⟩ := hobt
  exact Lst.ty h.l h1 (by decide)
theorem FS.one (h : FS n0 A ps G O ob v) {p q : Nat} (hp : p ∈ ps) (hq : q ∈ ps) : O p ≠ some q := by
  have hobt := h.fm p hp
  obtain ⟨_, fv, _, h1⟩ := hobt
  have hobt := h.fm q hq
  obtain ⟨_, fw, h2, _⟩ := hobt
  exact Lst.ty h1 h2 (by decide)
theorem FS.oob (h : FS n0 A ps G O ob v) {p : Nat} (hp : p ∈ ps) {b : Nat} (hb : O p = some b) : ob ≠ some b := by
  have hobt := h.fm p hp
  obtain ⟨_, fv, _, h1⟩ := hobt
  rcases h1.2 with ⟨h2, _⟩ | ⟨b', c, rest, h2, _, h3, _⟩
  · rw [hb] at h2; cases h2
  · rw [hb] at h2; injection h2 with h2; subst h2
    exact Lst.ty h.l h3 (by decide)
theorem FS.ext (h : FS n0 A ps G O ob v) (hw : A.wf) (hk : ∀ k, k < A.next → A'.get k = A.get k) : FS n0 A' ps G O ob v :=
  ⟨h.l.kept fun b hb => hk b (h.l.lt hw hb), h.nd, fun p hp => by
    have hobt := h.fm p hp
    obtain ⟨h1, fv, h2, h3⟩ := hobt
    exact ⟨h1, fv, by rw [hk p (hw _ _ h2)]; exact h2, h3.kept fun b hb => hk b (h3.lt hw hb)⟩, h.ob, h.oO, h.ap⟩
theorem FS.push (h : FS n0 A ps G O ob v) (hw : A.wf) (hn : n0 ≤ A.next) (hl : ps.length ≤ 1000) :
    ∃ v' A' ob', appW 86 1 8 v (.slice (some ⟨A.next + 1, 0, none⟩) 1 1) ((A.alloc (.row (famC (.slice none 0 0) []) 88 false)).alloc (.row (ptrE A.next) 86 false)) = some (v', A') ∧ FS n0 A' (ps ++ [A.next]) (upd G A.next []) (upd O A.next none) ob' v' ∧ (∀ k, k < A.next → ob ≠ some k → A'.get k = A.get k) ∧ A.next + 2 ≤ A'.next := by
  have hwa := AH.wf_alloc hw (.row (famC (.slice none 0 0) []) 88 false)
  have g0 : ∀ k, k < A.next → (A.alloc (.row (famC (.slice none 0 0) []) 88 false)).get k = A.get k := fun k hk => by rw [AH.get_alloc, if_neg (by omega)]
  have h' : Lst (A.alloc (.row (famC (.slice none 0 0) []) 88 false)) 86 1 ob v (ps.map ptrE) := h.l.kept fun b hb => g0 b (h.l.lt hw hb)
  have hobt := h'.push (y := 8) hwa (r := ptrE A.next) ⟨rfl, rfl⟩ (by omega) (by omega) (by rw [List.length_map]; omega) (by rw [List.length_map]; omega)
  obtain ⟨v', A', ob', p1, p2, p3, p4, p5⟩ := hobt
  simp only [AH.next_alloc] at p1 p3 p4 p5
  have hnin : A.next ∉ ps := fun hm => by
    have hobt := h.fm _ hm
    obtain ⟨_, fv, h2, _⟩ := hobt
    have := hw _ _ h2; omega
  have hob : ob ≠ some A.next := fun e => by have := h.l.lt hw e; omega
  have kk : ∀ k, k < A.next → ob ≠ some k → A'.get k = A.get k := fun k hk hkb => by rw [p3 k (by omega) hkb, g0 k hk]
  have gq : A'.get A.next = some (.row (famC (.slice none 0 0) []) 88 false) := by rw [p3 _ (by omega) hob, AH.get_new]
  refine ⟨v', A', ob', p1, ⟨by rw [List.map_append]; exact p2, ?_, fun p hp => ?_, fun b hb => ?_, fun p hp b hb => ?_, fun p hp q hq hpq b hb => ?_⟩, kk, by omega⟩
  · rw [List.nodup_append]
    refine ⟨h.nd, by simp, fun a ha b hb => ?_⟩
    obtain rfl : b = A.next := by simpa using hb
    exact fun e => hnin (e ▸ ha)
  · rcases List.mem_append.1 hp with hp | hp
    · have hpn : p ≠ A.next := fun e => hnin (e ▸ hp)
      have hobt := h.fm p hp
      obtain ⟨h1, fv, h2, h3⟩ := hobt
      rw [upd_ne _ _ hpn, upd_ne _ _ hpn]
      exact ⟨h1, fv, by rw [kk p (hw _ _ h2) (h.ne hp)]; exact h2, h3.kept fun b hb => kk b (h3.lt hw hb) (h.oob hp hb)⟩
    · obtain rfl : p = A.next := by simpa using hp
      rw [upd_same, upd_same]
      exact ⟨hn, _, gq, Lst.nil _ _ _⟩
  · rcases p4 with e | e
    · exact h.ob b (by rw [← e]; exact hb)
    · rw [e] at hb; injection hb with hb; omega
  · rcases List.mem_append.1 hp with hp | hp
    · have hpn : p ≠ A.next := fun e => hnin (e ▸ hp)
      rw [upd_ne _ _ hpn] at hb
      exact h.oO p hp b hb
    · obtain rfl : p = A.next := by simpa using hp
      rw [upd_same] at hb; cases hb
  · rcases List.mem_append.1 hp with hp | hp
    · have hpn : p ≠ A.next := fun e => hnin (e ▸ hp)
      rw [upd_ne _ _ hpn] at hb
      rcases List.mem_append.1 hq with hq | hq
      · have hqn : q ≠ A.next := fun e => hnin (e ▸ hq)
        rw [upd_ne _ _ hqn]
        exact h.ap p hp q hq hpq b hb
      · obtain rfl : q = A.next := by simpa using hq
        rw [upd_same]; simp
    · obtain rfl : p = A.next := by simpa using hp
      rw [upd_same] at hb; cases hb
theorem FS.add {x : En} {v' : Value} {ob' : Option Nat} (h : FS n0 A ps G O ob v) (hw : A.wf) (hn : n0 ≤ A.next) (hq : q ∈ ps) (h1 : A'.get q = some (.row (famC v' (G q ++ [x])) 88 false)) (h2 : Lst A' 63 10 ob' v' ((G q ++ [x]).map En.enc)) (h3 : ∀ k, k < A.next → k ≠ q → O q ≠ some k → A'.get k = A.get k) (h4 : ob' = O q ∨ ∃ b, ob' = some b ∧ A.next ≤ b) :
    FS n0 A' ps (upd G q (G q ++ [x])) (upd O q ob') ob v := by
  refine ⟨h.l.kept fun b hb => h3 b (h.l.lt hw hb) (fun e => h.ne hq (by rw [hb, e])) (fun e => h.oob hq e hb), h.nd, fun p hp => ?_, h.ob, fun p hp b hb => ?_, fun p hp r hr hpr b hb => ?_⟩
  · by_cases e : p = q
    · subst e
      rw [upd_same, upd_same]
      exact ⟨(h.fm p hp).1, v', h1, h2⟩
    · rw [upd_ne _ _ e, upd_ne _ _ e]
      have hobt := h.fm p hp
      obtain ⟨g1, fv, g2, g3⟩ := hobt
      exact ⟨g1, fv, by rw [h3 p (hw _ _ g2) e (h.one hq hp)]; exact g2, g3.kept fun b hb => h3 b (g3.lt hw hb) (fun e2 => h.one hp hq (by rw [hb, e2])) (h.ap p hp q hq e b hb)⟩
  · by_cases e : p = q
    · subst e
      rw [upd_same] at hb
      rcases h4 with h4 | ⟨b', h4, h5⟩
      · rw [h4] at hb; exact h.oO p hp b hb
      · rw [h4] at hb; injection hb with hb; omega
    · rw [upd_ne _ _ e] at hb; exact h.oO p hp b hb
  · by_cases e : p = q
    · subst e
      rw [upd_same] at hb
      rw [upd_ne _ _ (Ne.symm hpr)]
      rcases h4 with h4 | ⟨b', h4, h5⟩
      · rw [h4] at hb; exact h.ap p hp r hr hpr b hb
      · rw [h4] at hb; injection hb with hb; subst hb
        intro e2
        have hobt := h.fm r hr
        obtain ⟨_, fv, _, g3⟩ := hobt
        have := g3.lt hw e2; omega
    · rw [upd_ne _ _ e] at hb
      by_cases e2 : r = q
      · subst e2
        rw [upd_same]
        rcases h4 with h4 | ⟨b', h4, h5⟩
        · rw [h4]; exact h.ap p hp r hr hpr b hb
        · rw [h4]
          intro e3; injection e3 with e3; subst e3
          have hobt := h.fm p hp
          obtain ⟨_, fv, _, g3⟩ := hobt
          have := g3.lt hw hb; omega
      · rw [upd_ne _ _ e2]; exact h.ap p hp r hr hpr b hb
end
end Go.Proofs.Ytieehccjajhpfaa.AC
/- Families, made of entries: the walk. -/
namespace Go.Proofs.Ytieehccjajhpfaa.AC
open Go Go.AI Go.Proofs Go.Proofs.Ytieehccjajhpfaa.AQ
set_option linter.unusedVariables false
set_option linter.unusedSimpArgs false
theorem grp_take {L : List En} {i : Nat} (hi : i < L.length) : grp (L.take (i + 1)) = gst (grp (L.take i)) L[i] := by
  rw [List.take_succ_eq_append_getElem hi, grp_snoc]
theorem grp_len (l : List En) : (grp l).length ≤ l.length := by
  induction l using snoc_ind with
  | h0 => simp [grp]
  | h1 l x ih =>
    rw [grp_snoc]
    rcases snoc_cases (grp l) with h | ⟨o, g, h⟩
    · rw [h]; simp [gst_nil]
    · rw [h] at ih ⊢; rw [gst_snoc]; split <;> simp at ih ⊢ <;> omega
theorem grp_one {l g : List En} (h : g ∈ grp l) : g.length ≤ l.length := by
  have := (List.sublist_flatten_of_mem h).length_le
  rw [grp_flat] at this; exact this
theorem Sl.fst {A : AH} {a : Option Addr} {g : List En} (h : Sl A 63 10 a (g.map En.enc)) (hg : g ≠ []) : ∃ (b o : Nat) (cs : List Value) (q : TypeId × Bool), a = some ⟨b, o, none⟩ ∧ A.get b = some (.row cs q.1 q.2) ∧ o + 10 ≤ cs.length ∧ (cs.drop o).take 4 = (gkey g).enc := by
  cases g with
  | nil => exact absurd rfl hg
  | cons x g =>
    have hobt := h.at (i := 0) (by simp)
    obtain ⟨b, o, cs, q, h1, h2, h3, h4⟩ := hobt
    refine ⟨b, o, cs, q, h1, h2, by omega, ?_⟩
    have := at_head (n := 4) h4 (by omega)
    rw [Nat.zero_mul, Nat.add_zero] at this
    exact this
theorem old_fam {n0 : Nat} {A : AH} {ps : List Nat} {G : Nat → List En} {O : Nat → Option Nat} {ob : Option Nat} {v : Value} {q : Nat} (F : FS n0 A ps G O ob v) (hn : n0 ≤ A.next) (hq : q ∈ ps) (hl : (G q).length ≤ 1000) (x : En) :
    ACall Try.prog 59 [ptrV q, .agg x.enc.toArray] A fun _ A' => ∃ O', FS n0 A' ps (upd G q (G q ++ [x])) O' ob v ∧ ∀ k, k < n0 → A'.get k = A.get k := by
  refine ACall.wf fun hw => ?_
  have hobt := F.fm q hq
  obtain ⟨h0, fv, f1, f2⟩ := hobt
  refine (add_ok (A := A) x f1 f2 (F.one hq hq) hl).mono fun _ A4 _ _ ⟨v', ob', q1, q2, q3, q4, q5⟩ => ?_
  exact ⟨_, F.add hw hn hq q1 q2 q4 q5, fun k hk => q4 k (by omega) (by omega) (fun e => by have := F.oO q hq k e; omega)⟩
theorem new_fam {n0 : Nat} {A : AH} {ps : List Nat} {G : Nat → List En} {O : Nat → Option Nat} {ob : Option Nat} {v : Value} (F : FS n0 A ps G O ob v) (hw : A.wf) (hn : n0 ≤ A.next) (hl : ps.length ≤ 1000) (x : En) {xb : Nat} (hx : A.get xb = some (.row x.enc 63 false)) :
    ∃ A3 b3 o3 sc3 cs3, ∃ q3 : TypeId × Bool, appW 86 1 8 v (.slice (some ⟨A.next + 1, 0, none⟩) 1 1) ((A.alloc (.row [.slice none 0 0, .int .u64 0, .int .i64 0] 88 false)).alloc (.row [.pointer (some ⟨A.next, 0, none⟩)] 86 false)) = some (.slice (some ⟨b3, o3, none⟩) (ps.length + 1) sc3, A3) ∧ A3.get b3 = some (.row cs3 q3.1 q3.2) ∧ cs3[o3 + ps.length]? = some (.pointer (some ⟨A.next, 0, none⟩)) ∧ A3.get xb = some (.row x.enc 63 false) ∧ A.next + 2 ≤ A3.next ∧
    ACall Try.prog 59 [ptrV A.next, .agg x.enc.toArray] A3 fun _ A' => ∃ O' ob', FS n0 A' (ps ++ [A.next]) (upd G A.next [x]) O' ob' (.slice (some ⟨b3, o3, none⟩) (ps.length + 1) sc3) ∧ ∀ k, k < n0 → A'.get k = A.get k := by
  have obx : ob ≠ some xb := Lst.ty F.l hx (by decide)
  have hobt := F.push hw hn hl
  obtain ⟨v3, A3, ob3, p1, F3, p3, p5⟩ := hobt
  have hobt := F3.l.slm
  obtain ⟨sa3, sc3, hv3, hsl3⟩ := hobt
  have hobt := hsl3.one (i := ps.length) (v := ptrV A.next) (by simp [ptrE, ptrV])
  obtain ⟨b3, o3, cs3, q3, rfl, g31, g32⟩ := hobt
  rw [List.length_append, show [A.next].length = 1 from rfl] at hv3
  subst hv3
  have hq3 : A.next ∈ ps ++ [A.next] := by simp
  refine ⟨A3, b3, o3, sc3, cs3, q3, p1, g31, g32, by rw [p3 xb (hw _ _ hx) obx, hx], p5, ?_⟩
  refine (old_fam F3 (by omega) hq3 (by rw [upd_same]; simp) x).mono fun _ A4 _ _ ⟨O', q1, q2⟩ => ?_
  refine ⟨O', ob3, ?_, fun k hk => by rw [q2 k hk, p3 k (by omega) (fun e => by have := F.ob k e; omega)]⟩
  have e : upd (upd G A.next []) A.next (upd G A.next [] A.next ++ [x]) = upd G A.next [x] := by
    funext p; unfold upd; by_cases e : p = A.next <;> simp [e]
  rw [e] at q1; exact q1
set_option maxHeartbeats 2000000 in
theorem families_ok {A : AH} {a : Option Addr} {c : Nat} {L : List En} (h : Sl A 63 10 a (L.map En.enc)) (hn : L.length ≤ 1000) :
    ACall Try.prog 40 [.slice a L.length c] A fun v A' => Ext A A' ∧ ∃ ps G O ob, FS A.next A' ps G O ob v ∧ ps.map G = grp L := by
  refine code40.call (by simp) fun hwf => ?_
  unfold c40
  simp
  refine LN.use (fun m E A' => ∃ (i : Nat) (ps : List Nat) (G : Nat → List En) (O : Nat → Option Nat) (ob : Option Nat) (v : Value), m + i = L.length ∧ Ext A A' ∧ A.next ≤ A'.next ∧ FS A.next A' ps G O ob v ∧ ps.map G = grp (L.take i) ∧ E.get 3 = v ∧ E.get 7 = .slice a L.length c ∧ E.get 8 = .int .i64 L.length ∧ E.get 9 = .int .i64 i) L.length
    ⟨0, [], fun _ => [], fun _ => none, none, _, by omega, Ext.refl A, Nat.le_refl _, FS.nil _ _ _ _, by simp [grp], by simp, by simp, by simp, by simp⟩ ?_
  rintro m E A1 hw1 hn1 ⟨i, ps, G, O, ob, v, hi, x1, -, F, hG, E3, E7, E8, E9⟩
  by_cases hlt : i < L.length
  rotate_left
  · have hlt' : ¬ (i : Int) < L.length := by omega
    simp [E3, E8, E9, hlt, hlt']
    exact DN.of ⟨x1, ps, G, O, ob, F, by rw [hG, List.take_of_length_le (by omega)]⟩
  have hlt' : (i : Int) < L.length := by omega
  have hgi : IntKind.i64.wrap ((i : Int) + 1) = ((i + 1 : Nat) : Int) := by rw [i64_in (by omega) (by omega)]; simp
  have hobt := (h.ext hwf x1).at (i := i) (by simpa using hlt)
  obtain ⟨b, o, cs, q, rfl, g1, g2, g3⟩ := hobt
  rw [List.getElem_map] at g3
  have hobt := (L[i]'hlt).cells
  obtain ⟨hxl, hxo, hx4, -, hxt⟩ := hobt
  have hbl : b < A1.next := hw1 _ _ g1
  have hpl : ps.length ≤ 1000 := by
    have := congrArg List.length hG
    rw [List.length_map] at this
    have h2 := grp_len (L.take i)
    rw [List.length_take] at h2; omega
  -- the heap with the entry
  obtain ⟨x, hx⟩ : ∃ x, x = L[i]'hlt := ⟨_, rfl⟩
  rw [← hx] at g3 hxl hxo hx4 hxt
  obtain ⟨A2, hA2⟩ : ∃ A2, A2 = A1.alloc (.row x.enc 63 false) := ⟨_, rfl⟩
  have w2 : A2.wf := by rw [hA2]; exact AH.wf_alloc hw1 _
  have n2 : A2.next = A1.next + 1 := by rw [hA2]; simp
  have k2 : ∀ k, k < A1.next → A2.get k = A1.get k := fun k hk => by rw [hA2, AH.get_alloc, if_neg (by omega)]
  have r2 : A2.get A1.next = some (.row x.enc 63 false) := by rw [hA2, AH.get_new]
  have F2 : FS A.next A2 ps G O ob v := F.ext hw1 k2
  have x2 : Ext A A2 := fun k hk => by rw [k2 k (by omega), x1 k hk]
  have hob2 : ob ≠ some A1.next := fun e => by have := F.l.lt hw1 e; omega
  have hgt := grp_take hlt
  rw [← hx, ← hG] at hgt
  have hobt := F2.l.slm
  obtain ⟨sa, sc, hv, hsl⟩ := hobt
  -- a new family
  subst hv
  have hwm : IntKind.i64.wrap (-1) = -1 := by decide
  have hw0 : IntKind.i64.wrap 0 = 0 := by decide
  rcases snoc_cases ps with rfl | ⟨o', q, rfl⟩
  · obtain ⟨A3, b3, o3, sc3, cs3, q3, p1, g31, g32, r3, n3, addc⟩ := new_fam F2 w2 (by omega) hpl x r2
    rw [n2] at p1 g32 addc
    simp at p1 g32
    simp [E3, E7, E8, E9, hlt, hlt', g1, g2, g3, hxl, hxt, ← hA2, hwm]
    refine ⟨hxo, ?_⟩
    simp [E3, E7, E8, E9, hlt, hlt', g1, g2, g3, hxl, hxt, ← hA2, hwm, hw0, n2, p1, g31, g32, r3, ptrV]
    refine CN.use addc ?_
    rintro _ A4 hw4 hn4 ⟨O', ob', F4, q2⟩
    simp [E7, E8, E9, hgi]
    refine NX.of ⟨m - 1, by omega, i + 1, _, _, _, _, _, by omega, (fun k hk => by rw [q2 k hk, x2 k hk]), by omega, F4, ?_, by simp, by simp [E7], by simp [E8], by simp⟩
    rw [hgt]
    simp [upd_same, gst_nil]
  · have hq : q ∈ o' ++ [q] := by simp
    have hobt := F2.fm q hq
    obtain ⟨hqn, fv, f1, f2⟩ := hobt
    have hG1 : (o' ++ [q]).map G = o'.map G ++ [G q] := by simp
    have hGne : G q ≠ [] := grp_ne (L.take i) _ (by rw [← hG, hG1]; simp)
    have hGl : (G q).length ≤ 1000 := by
      have := grp_one (l := L.take i) (g := G q) (by rw [← hG, hG1]; simp)
      rw [List.length_take] at this; omega
    have hobt := hsl.one (i := o'.length) (v := ptrV q) (by simp [ptrE, ptrV])
    obtain ⟨b4, o4, cs4, q4', rfl, t1, t2⟩ := hobt
    have hobt := f2.slm
    obtain ⟨fa, fc, rfl, hfs⟩ := hobt
    have hobt := Sl.fst hfs hGne
    obtain ⟨b5, o5, cs5, q5', rfl, u1, u2, u3⟩ := hobt
    have hgl : 0 < (G q).length := List.length_pos_iff.2 hGne
    have hx4' : x.enc.take 4 = x.k.enc := hx4
    have hlen : (o' ++ [q]).length = o'.length + 1 := by simp
    rw [hlen] at hpl E3
    have wl1 : IntKind.i64.wrap (o'.length : Int) = (o'.length : Int) := i64_in (by omega) (by omega)
    have wl2 : IntKind.i64.wrap ((o'.length : Int) + 1) = ((o'.length + 1 : Nat) : Int) := by rw [i64_in (by omega) (by omega)]; simp
    have hnl : ¬ (o'.length : Int) < 0 := by omega
    simp only [famC] at f1
    simp [E3, E7, E8, E9, hlt, hlt', g1, g2, g3, hxl, hxt, ← hA2]
    refine ⟨hxo, ?_⟩
    simp [E3, E7, E8, E9, hlt, hlt', g1, g2, g3, hxl, hxt, ← hA2, wl1, hnl, t1, t2, ptrV, f1, hgl, u1, u2, u3, r2, hx4]
    refine ⟨by omega, by omega, ?_⟩
    refine CN.use (kin_ok (gkey (G q)) x.k A2) ?_
    rintro _ A5 hw5 hn5 ⟨rfl, x5⟩
    have F5 := F2.ext w2 x5
    have r5 := x5.get w2 r2
    have hbool := Bool.eq_false_or_eq_true ((gkey (G q)).kin x.k)
    rcases hbool with hk | hk
    · have t1' := x5.get w2 t1
      simp [E3, E7, E8, E9, hk, hlen, wl1, hnl, t1', t2, r5, hxl, hxt, ptrV]
      refine ⟨by omega, ?_⟩
      refine CN.use (old_fam F5 (by omega) hq hGl x) ?_
      rintro _ A4 hw4 hn4 ⟨O', F4, q2⟩
      simp [E3, E7, E8, E9, hgi]
      refine NX.of ⟨m - 1, by omega, i + 1, _, _, _, _, _, by omega, (fun k hk => by rw [q2 k hk, x5 k (by omega), x2 k hk]), by omega, F4, ?_, by simp [E3], by simp [E7], by simp [E8], by simp⟩
      rw [hgt, hG1, gst_snoc, if_pos hk]
      have hno : q ∉ o' := fun h => by have := F.nd; rw [List.nodup_append] at this; exact this.2.2 q h q (by simp) rfl
      rw [List.map_append, upd_map _ _ hno]
      simp [upd_same]
    · obtain ⟨A3, b3, o3, sc3, cs3, q3, p1, g31, g32, r3, n3, addc⟩ := new_fam F5 hw5 (by omega) (by omega) x r5
      rw [hlen] at p1 g32
      simp [E3, E7, E8, E9, hk, hlen, wl1, wl2, hnl, p1, g31, g32, r3, hxl, hxt, ptrV]
      refine ⟨by omega, ?_⟩
      refine CN.use addc ?_
      rintro _ A4 hw4 hn4 ⟨O', ob', F4, q2⟩
      simp [E7, E8, E9, hgi]
      refine NX.of ⟨m - 1, by omega, i + 1, _, _, _, _, _, by omega, (fun k hk => by rw [q2 k hk, x5 k (by omega), x2 k hk]), by omega, F4, ?_, by simp, by simp [E7], by simp [E8], by simp⟩
      rw [hgt, hG1, gst_snoc, if_neg (by rw [hk]; simp), List.map_append, ← hG1]
      have hno : A5.next ∉ o' ++ [q] := fun h => by
        have hobt := F5.fm _ h
        obtain ⟨_, fv, h2, _⟩ := hobt
        have := hw5 _ _ h2; omega
      rw [upd_map _ _ hno]
      simp [upd_same]
end Go.Proofs.Ytieehccjajhpfaa.AC
/- What families hold together. -/
namespace Go.Proofs.Ytieehccjajhpfaa.AC
open Go Go.AI Go.Proofs Go.Proofs.Ytieehccjajhpfaa.AQ
set_option linter.unusedVariables false
set_option linter.unusedSimpArgs false
def FamR (S : Nat → Prop) (A : AH) (p : Nat) (g : List En) : Prop := S p ∧ ∃ a c, A.get p = some (.row (famC (.slice a g.length c) g) 88 false) ∧ Sl A 63 10 a (g.map En.enc) ∧ ∀ b o, a = some ⟨b, o, none⟩ → S b
theorem FamR.kept {S : Nat → Prop} {A A' : AH} {p : Nat} {g : List En} (h : FamR S A p g) (hk : ∀ b, S b → A'.get b = A.get b) : FamR S A' p g := by
  obtain ⟨h1, a, c, h2, h3, h4⟩ := h
  exact ⟨h1, a, c, by rw [hk p h1]; exact h2, h3.kept fun b o x hb hx => hk b (h4 b o hb), h4⟩
def Foot (n0 n1 : Nat) (ob : Option Nat) (b : Nat) : Prop := n0 ≤ b ∧ b < n1 ∧ ob ≠ some b
theorem FS.famR {n0 : Nat} {A : AH} {ps : List Nat} {G : Nat → List En} {O : Nat → Option Nat} {ob : Option Nat} {v : Value} (h : FS n0 A ps G O ob v) (hw : A.wf) : ∀ p ∈ ps, FamR (Foot n0 A.next ob) A p (G p) := fun p hp => by
  have hobt := h.fm p hp
  obtain ⟨h1, fv, h2, h3⟩ := hobt
  have hobt := h3.sl
  obtain ⟨a, c, h4, h5, h6⟩ := hobt
  rw [List.length_map] at h4
  subst h4
  refine ⟨⟨h1, hw _ _ h2, h.ne hp⟩, a, c, h2, h5, fun b o e => ?_⟩
  have hobt := h6 b o e
  obtain ⟨q1, -⟩ := hobt
  exact ⟨h.oO p hp b q1, h3.lt hw q1, h.oob hp q1⟩
/-! The ledger of families. -/
def ldg (size : Nat) (gs : List (List En)) : Ld := gs.foldl (fun b g => b.put (holdG g).toNat (bwG g)) ⟨size, List.replicate 8 0⟩
theorem ldg_snoc (size : Nat) (gs : List (List En)) (g : List En) : ldg size (gs ++ [g]) = (ldg size gs).put (holdG g).toNat (bwG g) := by simp [ldg]
theorem tot_snoc (gs : List (List En)) (g : List En) : tot (gs ++ [g]) = tot gs + bwG g := by simp [tot]
theorem sum_set : ∀ (l : List Nat) (p b : Nat), p < l.length → (l.set p (l.getD p 0 + b)).sum = l.sum + b
  | [], p, b, h => by simp at h
  | x :: l, 0, b, h => by simp; omega
  | x :: l, p + 1, b, h => by
    have := sum_set l p b (by simpa using h)
    simp at this ⊢; omega
def HoldOk (gs : List (List En)) : Prop := ∀ g ∈ gs, 0 ≤ holdG g ∧ holdG g < 8
theorem ldg_facts (size : Nat) (gs : List (List En)) (h : HoldOk gs) : (ldg size gs).cap = size ∧ (ldg size gs).held.length = 8 ∧ (ldg size gs).held.sum = tot gs := by
  induction gs using snoc_ind with
  | h0 => exact ⟨rfl, rfl, rfl⟩
  | h1 gs g ih =>
    have hobt := ih fun a ha => h a (by simp [ha])
    obtain ⟨h1, h2, h3⟩ := hobt
    have hg := h g (by simp)
    rw [ldg_snoc, tot_snoc]
    refine ⟨h1, by simp [Ld.put, h2], ?_⟩
    unfold Ld.put
    rw [sum_set _ _ _ (by omega), h3]
theorem mem_sum : ∀ {l : List Nat} {n : Nat}, n ∈ l → n ≤ l.sum
  | x :: l, n, h => by
    rcases List.mem_cons.1 h with rfl | h
    · simp
    · have := mem_sum h; simp; omega
theorem ldg_wf {size : Nat} {gs : List (List En)} (h : HoldOk gs) (hs : size < 18446744073709551616) (ht : tot gs ≤ size) : (ldg size gs).wf := by
  have hobt := ldg_facts size gs h
  obtain ⟨h1, h2, h3⟩ := hobt
  exact ⟨h2, by omega, fun n hn => by have := mem_sum hn; omega⟩
theorem getD_sum : ∀ (l : List Nat) (p : Nat), l.getD p 0 ≤ l.sum
  | [], p => by simp
  | x :: l, 0 => by simp
  | x :: l, p + 1 => by have := getD_sum l p; simp at this ⊢; omega
theorem ldg_put {size : Nat} {gs : List (List En)} {g : List En} (h : HoldOk (gs ++ [g])) (hs : size < 18446744073709551616) (ht : tot gs ≤ size) : putL (ldg size gs) (holdG g) (bwG g) = if tot (gs ++ [g]) ≤ size then (ldg size (gs ++ [g]), 0) else (zL, 14) := by
  have h' : HoldOk gs := fun a ha => h a (by simp [ha])
  have hobt := ldg_facts size gs h'
  obtain ⟨h1, h2, h3⟩ := hobt
  have hobt := ldg_facts size (gs ++ [g]) h
  obtain ⟨g1, g2, g3⟩ := hobt
  have hg := h g (by simp)
  have hm : mayL (ldg size gs) (holdG g) = true := by simp [mayL, rightL, hg]; omega
  have hd := getD_sum (ldg size gs).held (holdG g).toNat
  rw [tot_snoc] at g3
  unfold putL
  rw [if_pos hm, ← ldg_snoc, tot_snoc]
  by_cases hf : tot gs + bwG g ≤ size
  · rw [if_pos hf, if_pos ⟨by omega, by simp [rightL]; omega⟩]
  · rw [if_neg hf, if_neg]
    rintro ⟨_, hr⟩
    simp [rightL] at hr; omega
theorem tot_app (a b : List (List En)) : tot (a ++ b) = tot a + tot b := by simp [tot]
theorem tot_take (gs : List (List En)) (i : Nat) : tot (gs.take i) ≤ tot gs := by
  have := congrArg tot (List.take_append_drop i gs)
  rw [tot_app] at this; omega
set_option maxHeartbeats 1000000 in
theorem booked_ok {A : AH} {S : Nat → Prop} {a : Option Addr} {c : Nat} {ps : List Nat} {G : Nat → List En} {size : Nat} (h : Sl A 86 1 a (ps.map ptrE)) (hS : ∀ b, S b → b < A.next) (hf : ∀ p ∈ ps, FamR S A p (G p)) (hh : HoldOk (ps.map G)) (hb : ∀ p ∈ ps, bwG (G p) < 18446744073709551616) (hs : size < 18446744073709551616) (hn : ps.length ≤ 1000) :
    ACall Try.prog 45 [.int .u64 size, .slice a ps.length c] A fun v A' => Ext A A' ∧ ∃ b : Ld, b.held.length = 8 ∧ v = .tuple #[.agg b.enc.toArray, .bool (decide (tot (ps.map G) ≤ size))] ∧ (tot (ps.map G) ≤ size → b = ldg size (ps.map G)) := by
  have z0 : (ldg size []).enc = [.int .u64 size, .int .u64 0, .int .u64 0, .int .u64 0, .int .u64 0, .int .u64 0, .int .u64 0, .int .u64 0, .int .u64 0] := rfl
  refine code45.call (by simp) fun hwf => ?_
  unfold c45
  simp
  refine LN.use (fun m E A' => ∃ i : Nat, m + i = ps.length ∧ Ext A A' ∧ A.next + 2 ≤ A'.next ∧ tot ((ps.take i).map G) ≤ size ∧ A'.get (A.next + 1) = some (.row (ldg size ((ps.take i).map G)).enc 48 false) ∧ (∃ cs, A'.get A.next = some (.row cs 48 false) ∧ cs.length = 9) ∧ E.get 4 = .pointer (some ⟨A.next, 0, none⟩) ∧ E.get 6 = .pointer (some ⟨A.next + 1, 0, none⟩) ∧ E.get 13 = .slice a ps.length c ∧ E.get 14 = .int .i64 ps.length ∧ E.get 15 = .int .i64 i) ps.length
    ⟨0, by omega, ((Ext.alloc A _).app (by simp) _).setnew (by omega) _, by simp, by simp [tot], by rw [List.take_zero, List.map_nil, z0]; simp [AH.get_alloc], ⟨_, by simp [AH.get_alloc]; rfl, rfl⟩, by simp, by simp, by simp, by simp, by simp⟩ ?_
  rintro m E A1 hw1 hn1 ⟨i, hi, x1, n1, ht, r6, ⟨cs4, r4, l4⟩, E4, E6, E13, E14, E15⟩
  have hh' : HoldOk ((ps.take i).map G) := fun g hg => by
    have hobt := List.mem_map.1 hg
    obtain ⟨p, hp, rfl⟩ := hobt
    exact hh _ (List.mem_map.2 ⟨p, List.mem_of_mem_take hp, rfl⟩)
  have hwl := ldg_wf hh' hs ht
  have hobx : ∃ L1, L1 = ldg size ((ps.take i).map G) := ⟨_, rfl⟩
  obtain ⟨L1, hL1⟩ := hobx
  rw [← hL1] at r6 hwl
  have hl : L1.enc.length = 9 := by simp [Ld.enc, hwl.1]
  have ho : ∀ v ∈ L1.enc, oneB v = true := List.all_eq_true.1 (by simp [Ld.enc])
  have ht9 : L1.enc.take 9 = L1.enc := List.take_of_length_le (by omega)
  by_cases hlt : i < ps.length
  rotate_left
  · have hlt' : ¬ (i : Int) < ps.length := by omega
    rw [List.take_of_length_le (by omega)] at hL1 ht
    simp [E4, E6, E14, E15, hlt, hlt', r6, r4, l4, hl, ht9]
    refine ⟨ho, ?_⟩
    exact DN.of ⟨x1.setnew (by omega) _, L1, hwl.1, by simp [ht], fun _ => hL1⟩
  have hlt' : (i : Int) < ps.length := by omega
  have hgi : IntKind.i64.wrap ((i : Int) + 1) = ((i + 1 : Nat) : Int) := by rw [i64_in (by omega) (by omega)]; simp
  have hobx : ∃ p, p = ps[i]'hlt := ⟨_, rfl⟩
  obtain ⟨p, hp⟩ := hobx
  have hpm : p ∈ ps := by rw [hp]; exact List.getElem_mem hlt
  have hobt := (h.ext hwf x1).one (i := i) (v := ptrV p) (by rw [List.getElem?_map, List.getElem?_eq_getElem hlt, ← hp]; rfl)
  obtain ⟨b, o, cs, q, rfl, g1, g2⟩ := hobt
  have hobt := hf p hpm
  obtain ⟨hSp, fa, fc, f1, f2, f3⟩ := hobt
  have f1' := x1.get hwf f1
  simp only [famC] at f1'
  have htk : (ps.take (i + 1)).map G = (ps.take i).map G ++ [G p] := by rw [List.take_succ_eq_append_getElem hlt, ← hp]; simp
  have hput := ldg_put (size := size) (gs := (ps.take i).map G) (g := G p) (by
    rw [← htk]; intro g hg
    have hobt := List.mem_map.1 hg
    obtain ⟨p, hp, rfl⟩ := hobt
    exact hh _ (List.mem_map.2 ⟨p, List.mem_of_mem_take hp, rfl⟩)) hs ht
  rw [← htk, ← hL1] at hput
  have hput4 := lput_ok L1 hwl (holdG (G p)) (bwG (G p)) (hb p hpm)
  have htt : tot ((ps.take (i + 1)).map G) ≤ tot (ps.map G) := by rw [List.map_take]; exact tot_take _ _
  by_cases hfit : tot ((ps.take (i + 1)).map G) ≤ size
  · rw [if_pos hfit] at hput
    have hobx : ∃ L2, L2 = ldg size ((ps.take (i + 1)).map G) := ⟨_, rfl⟩
    obtain ⟨L2, hL2⟩ := hobx
    rw [← hL2] at hput
    have hwl2 : L2.wf := by
      rw [hL2]
      refine ldg_wf (fun g hg => ?_) hs hfit
      have hobt := List.mem_map.1 hg
      obtain ⟨p, hp, rfl⟩ := hobt
      exact hh _ (List.mem_map.2 ⟨p, List.mem_of_mem_take hp, rfl⟩)
    have hl2 : L2.enc.length = 9 := by simp [Ld.enc, hwl2.1]
    have ho2 : ∀ v ∈ L2.enc, oneB v = true := List.all_eq_true.1 (by simp [Ld.enc])
    have ht92 : L2.enc.take 9 = L2.enc := List.take_of_length_le (by omega)
    simp [E4, E6, E13, E14, E15, hlt, hlt', r6, hl, ht9, g1, g2, ptrV, f1']
    refine CN.use (hput4 _) ?_
    rintro _ A2 hw2 hn2 ⟨rfl, x2⟩
    have r62 := x2.get hw1 r6
    have r42 := x2.get hw1 r4
    have hne : ¬ A.next + 1 = A2.next := by omega
    have hne2 : ¬ A.next = A2.next := by omega
    simp [hput, E4, E6, E13, E14, E15, hl, hl2, ht92, hgi, r62, hne]
    refine ⟨ho2, ?_⟩
    refine NX.of ⟨m - 1, by omega, i + 1, by omega, ((x1.trans (by omega) x2).app (by omega) _).setnew (by omega) _, by simp; omega, hfit, by rw [← hL2]; simp, ⟨cs4, by simp [AH.get_alloc, hne2, r42], l4⟩, by simp [E4], by simp [E6], by simp [E13], by simp [E14], by simp⟩
  · rw [if_neg hfit] at hput
    simp [E4, E6, E13, E14, E15, hlt, hlt', r6, hl, ht9, g1, g2, ptrV, f1']
    refine CN.use (hput4 _) ?_
    rintro _ A2 hw2 hn2 ⟨rfl, x2⟩
    have r62 := x2.get hw1 r6
    have r42 := x2.get hw1 r4
    have hne : ¬ A.next + 1 = A2.next := by omega
    have hne2 : ¬ A.next = A2.next := by omega
    have zl : zL.enc.length = 9 := rfl
    have zo : ∀ v ∈ zL.enc, oneB v = true := List.all_eq_true.1 (by rfl)
    simp [hput, E4, E6, E13, E14, E15, hl, ht9, hgi, r62, r42, hne, hne2, zl, l4]
    refine ⟨zo, ho, ?_⟩
    refine DN.of ⟨((x1.trans (by omega) x2).app (by omega) _).setnew (by omega) _, L1, hwl.1, by simp; omega, fun h => by omega⟩
end Go.Proofs.Ytieehccjajhpfaa.AC
/- Which family goes ahead of another one. -/
namespace Go.Proofs.Ytieehccjajhpfaa.AC
open Go Go.AI Go.Proofs Go.Proofs.Ytieehccjajhpfaa.AQ
set_option linter.unusedVariables false
set_option linter.unusedSimpArgs false
theorem isNaNu_ok (n : Int) (A : AH) : ACall Try.prog 82 [.int .u64 n] A fun v A' => v = .bool false ∧ A' = A := by
  refine code82.call (by simp) fun hwf => ?_
  unfold c82
  simp
  exact DN.of ⟨rfl, rfl⟩
theorem compareu_ok (a b : Int) (A : AH) : ACall Try.prog 64 [.int .u64 a, .int .u64 b] A fun v A' => v = .int .i64 (cmpI a b) ∧ A' = A := by
  refine code64.call (by simp) fun hwf => ?_
  unfold c64
  simp
  refine CN.use (isNaNu_ok a A) ?_
  rintro _ _ - - ⟨rfl, rfl⟩
  simp
  refine CN.use (isNaNu_ok b _) ?_
  rintro _ _ - - ⟨rfl, rfl⟩
  simp
  split
  · exact DN.of (by simp [cmpI, *])
  · split <;> exact DN.of (by simp [cmpI, *])
theorem cmpI_zero (a b : Int) : cmpI a b = 0 ↔ a = b := by unfold cmpI; split <;> (try split) <;> omega
theorem cmpI_neg (a b : Int) : cmpI a b < 0 ↔ a < b := by unfold cmpI; split <;> (try split) <;> omega
theorem orI_neg (x : Int) (l : List Int) : orI (x :: l) < 0 ↔ x < 0 ∨ x = 0 ∧ orI l < 0 := by
  rw [orI_cons]; split <;> omega
theorem wrs_ord (g h : List En) : decide (orI [cmpI (holdG h) (holdG g), cmpI (bwG h : Nat) (bwG g : Nat), ordI (gkey h) (gkey g)] < 0) = wrs g h := by
  rw [Bool.eq_iff_iff, wrs_iff, decide_eq_true_iff]
  have h1 := ordI_lt (gkey h) (gkey g)
  rw [orI_neg, orI_neg, orI_neg, cmpI_neg, cmpI_neg, cmpI_zero, cmpI_zero, show orI [] = 0 from rfl]
  rw [← h1]
  omega
theorem worse_ok {A : AH} {S : Nat → Prop} {p q : Nat} {g h : List En} (hp : FamR S A p g) (hq : FamR S A q h) (hg : g ≠ []) (hh : h ≠ []) : ACall Try.prog 44 [ptrV p, ptrV q] A fun v A' => ∃ r, v = .int .i64 r ∧ decide (r < 0) = wrs g h ∧ Ext A A' := by
  obtain ⟨_, a1, c1, f1, f2, -⟩ := hp
  obtain ⟨_, a2, c2, e1, e2, -⟩ := hq
  have hobt := Sl.fst f2 hg
  obtain ⟨b1, o1, cs1, q1, rfl, u1, u2, u3⟩ := hobt
  have hobt := Sl.fst e2 hh
  obtain ⟨b2, o2, cs2, q2, rfl, v1, v2, v3⟩ := hobt
  have hgl : 0 < g.length := List.length_pos_iff.2 hg
  have hhl : 0 < h.length := List.length_pos_iff.2 hh
  have u2' : o1 + 4 ≤ cs1.length := by omega
  have v2' : o2 + 4 ≤ cs2.length := by omega
  simp only [famC] at f1 e1
  have hb := wrs_ord g h
  refine code44.call (by simp) fun hwf => ?_
  unfold c44
  simp [ptrV, f1, e1, hgl, hhl, u1, v1, u2', v2', u3, v3]
  refine CN.use (compare_ok _ _ _) ?_
  rintro _ _ - - ⟨rfl, rfl⟩
  simp [f1, e1, hgl, hhl, u1, v1, u2', v2', u3, v3]
  refine CN.use (compareu_ok _ _ _) ?_
  rintro _ _ - - ⟨rfl, rfl⟩
  simp [f1, e1, hgl, hhl, u1, v1, u2', v2', u3, v3]
  refine CN.use (order_ok (gkey h) (gkey g) _) ?_
  rintro _ A2 hw2 hn2 ⟨x2, rfl⟩
  simp
  refine CN.use (or_ok (l := [cmpI (holdG h) (holdG g), cmpI (bwG h : Nat) (bwG g : Nat), ordI (gkey h) (gkey g)]) (c := 3) (a := some ⟨A2.next, 0, none⟩) (Sl.row (ints_rw _) (AH.get_new _ _) rfl) (by simp)) ?_
  rintro _ A3 - - ⟨rfl, rfl⟩
  simp
  exact DN.of ⟨_, rfl, hb, x2.app hn2 _⟩
end Go.Proofs.Ytieehccjajhpfaa.AC
/- A family is taken out of a list. -/
namespace Go.Proofs.Ytieehccjajhpfaa.AC
open Go Go.AI Go.Proofs Go.Proofs.Ytieehccjajhpfaa.AQ
set_option linter.unusedVariables false
set_option linter.unusedSimpArgs false
theorem aEq_pp {P : Program} {T : TypeId} (h : isPtrT P T = true) {A : AH} (k : Nat) {p q : Nat} {cs cs' : List Value} {T1 T2 : TypeId} (hp : A.get p = some (.row cs T1 false)) (hq : A.get q = some (.row cs' T2 false)) : aEq P A (k + 1) T (.pointer (some ⟨p, 0, none⟩)) (.pointer (some ⟨q, 0, none⟩)) = some (decide (p = q)) := by
  unfold isPtrT at h; unfold aEq
  split at h
  · rename_i e hf
    rw [hf]; simp only []
    split at h
    · rename_i n hn
      rw [hn]; simp [AH.wrow, hp, hq]; rfl
    · cases h
  · cases h
theorem admit1_ok {A : AH} {S : Nat → Prop} {p q pb : Nat} {g h : List En} {T : TypeId} {ro : Bool} (hp : FamR S A p g) (hq : FamR S A q h) (hb : A.get pb = some (.row [ptrV q] T ro)) : ACall Try.prog 47 [ptrV p, .pointer (some ⟨pb, 0, none⟩)] A fun v A' => v = .bool (decide (p = q)) ∧ A' = A := by
  obtain ⟨_, a1, c1, f1, -, -⟩ := hp
  obtain ⟨_, a2, c2, e1, -, -⟩ := hq
  have := aEq_pp (P := Try.prog) (T := 86) (by kernel_rfl) 19 f1 e1
  simp only [ptrV] at hb
  refine code47.call (by simp) fun hwf => ?_
  unfold c47
  simp [ptrV, hb, this]
  exact DN.of ⟨rfl, rfl⟩
theorem Lst.lq {A : AH} {e : TypeId} {z : Nat} {ob : Option Nat} {v : Value} {L : List (List Value)} (h : Lst A e z ob v L) : Lq A e z ob v L :=
  ⟨h.1, h.2.imp id fun ⟨b, c, rest, h1, h2, h3, h4⟩ => ⟨b, c, rest, h1, h2, h3, h4.imp (fun h => ⟨h.1, 0, by rw [h.2]; simp⟩) id⟩⟩
theorem index_ok {A : AH} {S : Nat → Prop} {pb q : Nat} {T : TypeId} {ro : Bool} {a : Option Addr} {c : Nat} {ps : List Nat} {G : Nat → List En} (h : Sl A 86 1 a (ps.map ptrE)) (hf : ∀ p ∈ ps, FamR S A p (G p)) (hb : A.get pb = some (.row [ptrV q] T ro)) (hn : ps.length ≤ 1000) {i : Nat} (hi : ps[i]? = some q) (hnd : ps.Nodup) :
    ACall Try.prog 66 [.slice a ps.length c, .func (.func 47) #[] #[.pointer (some ⟨pb, 0, none⟩)]] A fun v A' => v = .int .i64 i ∧ A' = A := by
  have hobt := List.getElem?_eq_some_iff.1 hi
  obtain ⟨hil, hiq⟩ := hobt
  have hqm : q ∈ ps := by rw [← hiq]; exact List.getElem_mem hil
  refine code66.call (by simp) fun hwf => ?_
  unfold c66
  simp
  refine LN.use (fun m E A' => ∃ k : Nat, m + k = ps.length ∧ k ≤ i ∧ A' = A ∧ E.get 0 = .slice a ps.length c ∧ E.get 1 = .func (.func 47) #[] #[.pointer (some ⟨pb, 0, none⟩)] ∧ E.get 7 = .int .i64 ps.length ∧ E.get 8 = .int .i64 k) ps.length
    ⟨0, by omega, by omega, rfl, by simp, by simp, by simp, by simp⟩ ?_
  rintro m E A1 hw1 hn1 ⟨k, hk, hki, rfl, E0, E1, E7, E8⟩
  have hlt : k < ps.length := by omega
  have hlt' : (k : Int) < ps.length := by omega
  have hgi : IntKind.i64.wrap ((k : Int) + 1) = ((k + 1 : Nat) : Int) := by rw [i64_in (by omega) (by omega)]; simp
  have hobx : ∃ p, p = ps[k]'hlt := ⟨_, rfl⟩
  obtain ⟨p, hp⟩ := hobx
  have hpm : p ∈ ps := by rw [hp]; exact List.getElem_mem hlt
  have hobt := h.one (i := k) (v := ptrV p) (by rw [List.getElem?_map, List.getElem?_eq_getElem hlt, ← hp]; rfl)
  obtain ⟨b, o, cs, r, rfl, g1, g2⟩ := hobt
  by_cases e : k = i
  · subst e
    have hpq : p = q := by rw [hp, hiq]
    simp [E0, E1, E7, E8, hlt, hlt', g1, g2]
    refine CN.use (admit1_ok (hf p hpm) (hf q hqm) hb) ?_
    rintro _ A2 hw2 hn2 ⟨rfl, rfl⟩
    simp [hpq]
    exact DN.of ⟨E8, rfl⟩
  · have hpq : ¬ p = q := fun e2 => List.pairwise_iff_getElem.1 hnd k i hlt hil (by omega) (by rw [← hp, hiq, e2])
    simp [E0, E1, E7, E8, hlt, hlt', g1, g2]
    refine CN.use (admit1_ok (hf p hpm) (hf q hqm) hb) ?_
    rintro _ A2 hw2 hn2 ⟨rfl, rfl⟩
    simp [hpq, E8, hgi]
    exact NX.of ⟨m - 1, by omega, k + 1, by omega, by omega, rfl, by simp [E0], by simp [E1], by simp [E7], by simp⟩
theorem spl_last {X Y : List Value} {n : Nat} {l : Value} (h : X.length = n) : spl (X ++ l :: Y) n [.pointer none] = X ++ .pointer none :: Y := by
  subst h
  have := spl_in X [l] Y 0 [.pointer none] (by simp)
  simpa using this
set_option maxHeartbeats 1000000 in
theorem deletef_ok {A : AH} {S : Nat → Prop} {pb q : Nat} {T : TypeId} {ro : Bool} {ob : Option Nat} {v : Value} {ps : List Nat} {G : Nat → List En} (h : Lq A 86 1 ob v (ps.map ptrE)) (hS : ∀ b, S b → ob ≠ some b) (hf : ∀ p ∈ ps, FamR S A p (G p)) (hb : A.get pb = some (.row [ptrV q] T ro)) (hpb : ob ≠ some pb) (hn : ps.length ≤ 1000) {i : Nat} (hi : ps[i]? = some q) (hnd : ps.Nodup) :
    ACall Try.prog 46 [v, .func (.func 47) #[] #[.pointer (some ⟨pb, 0, none⟩)]] A fun v' A' => Lq A' 86 1 ob v' ((ps.eraseIdx i).map ptrE) ∧ ∀ b, ob ≠ some b → A'.get b = A.get b := by
  have hobt := List.getElem?_eq_some_iff.1 hi
  obtain ⟨hil, hiq⟩ := hobt
  have hqm : q ∈ ps := by rw [← hiq]; exact List.getElem_mem hil
  rcases h.2 with ⟨_, _, h0⟩ | ⟨ab, c, rest, rfl, hv, hget, hcap⟩
  · have := congrArg List.length h0; simp at this; subst this; simp at hil
  rw [List.length_map] at hv
  have hne : ∀ p ∈ ps, p ≠ ab := fun p hp e => hS p (hf p hp).1 (by rw [e])
  have hpb' : pb ≠ ab := fun e => hpb (by rw [e])
  subst hv
  have hidx := index_ok (c := c) (a := some ⟨ab, 0, none⟩) (by obtain ⟨a', c', e1, e2, -⟩ := h.sl; injection e1 with e1; rw [← e1] at e2; exact e2) hf hb hn hi hnd
  have hin1 : ¬ (i : Int) = -1 := by omega
  have hi1 : IntKind.i64.wrap ((i : Int) + 1) = ((i + 1 : Nat) : Int) := by rw [i64_in (by omega) (by omega)]; simp
  refine code46.call (by simp) fun hwf => ?_
  unfold c46
  simp
  refine CN.use hidx ?_
  rintro _ A1 hw1 hn1 ⟨rfl, rfl⟩
  simp [hin1, hi1]
  refine LN.use (fun m E A' => ∃ (k : Nat) (cur : List Nat), m + (i + 1 + k) = ps.length ∧ cur.length = ps.length ∧ (∀ t, cur[t]? = if t < i + k then (ps.eraseIdx i)[t]? else ps[t]?) ∧ Lq A' 86 1 (some ab) (.slice (some ⟨ab, 0, none⟩) ps.length c) (cur.map ptrE) ∧ (∀ b, b ≠ ab → A'.get b = A1.get b) ∧ E.get 0 = .slice (some ⟨ab, 0, none⟩) ps.length c ∧ E.get 1 = .func (.func 47) #[] #[.pointer (some ⟨pb, 0, none⟩)] ∧ E.get 5 = .int .i64 ((i + k : Nat) : Int) ∧ E.get 6 = .int .i64 ((i + 1 + k : Nat) : Int)) (ps.length - (i + 1))
    ⟨0, ps, by omega, rfl, fun t => ?_, h, fun _ _ => rfl, by simp, by simp, by simp, by simp⟩ ?_
  · split
    · rw [List.getElem?_eraseIdx_of_lt (by omega)]
    · rfl
  rintro m E A2 hw2 hn2 ⟨k, cur, hk, hcl, hcur, hlq, hko, E0, E1, E5, E6⟩
  have hobx : ∃ j, j = i + 1 + k := ⟨_, rfl⟩
  obtain ⟨j, hj⟩ := hobx
  have hobx : ∃ w, w = i + k := ⟨_, rfl⟩
  obtain ⟨w, hw⟩ := hobx
  rw [← hj] at E6 hk
  rw [← hw] at E5 hcur
  have hgj : IntKind.i64.wrap ((j : Int) + 1) = ((j + 1 : Nat) : Int) := by rw [i64_in (by omega) (by omega)]; simp
  have hgw : IntKind.i64.wrap ((w : Int) + 1) = ((w + 1 : Nat) : Int) := by rw [i64_in (by omega) (by omega)]; simp
  by_cases hlt : j < ps.length
  · have hlt' : (j : Int) < ps.length := by omega
    have hwl : w < ps.length := by omega
    have hwl' : (w : Int) < ps.length := by omega
    have hobx : ∃ p, p = ps[j]'hlt := ⟨_, rfl⟩
    obtain ⟨p, hp⟩ := hobx
    have hpm : p ∈ ps := by rw [hp]; exact List.getElem_mem hlt
    have hcj : cur[j]? = some p := by rw [hcur, if_neg (by omega), List.getElem?_eq_getElem hlt, hp]
    have hpq : ¬ p = q := fun e2 => List.pairwise_iff_getElem.1 hnd i j hil hlt (by omega) (by rw [← hp, hiq, e2])
    have hf2 : ∀ p ∈ ps, FamR S A2 p (G p) := fun p hp => (hf p hp).kept fun b hb => hko b (fun e => hS b hb (by rw [e]))
    have hb2 : A2.get pb = some (.row [ptrV q] T ro) := by rw [hko pb hpb', hb]
    have hobt := hlq.upd (i := w) (r := ptrE p) (by simpa [hcl] using hwl) ⟨rfl, rfl⟩
    obtain ⟨ab', c', cs, u1, u2, u3, u4, u5⟩ := hobt
    injection u1 with u1; subst u1
    have hobt := hlq.at (i := j) (by simpa [hcl] using hlt)
    obtain ⟨ab', c', cs', y1, y2, y3, y4, y5⟩ := hobt
    injection y1 with y1; subst y1
    rw [u3] at y3; injection y3 with y3; injection y3 with y3; subst y3
    rw [Nat.mul_one] at u4 u5 y4 y5
    have y6 : cs[j]? = some (ptrV p) := by
      have := at_cell (i := 0) y5 (by omega)
      rw [Nat.add_zero] at this
      rw [this]
      have hcj' := (List.getElem?_eq_some_iff.1 hcj).2
      simp [List.getElem_map, hcj', ptrE, ptrV]
    simp [E0, E1, E5, E6, hlt, hlt', u3, y6]
    refine CN.use (admit1_ok (hf2 p hpm) (hf2 q hqm) hb2) ?_
    rintro _ A3 hw3 hn3 ⟨rfl, rfl⟩
    simp [hpq, E0, E1, E5, E6, hwl, hwl', u3, u4, hgj, hgw, ptrV]
    refine NX.of ⟨m - 1, by omega, k + 1, cur.set w p, by omega, by rw [List.length_set]; exact hcl, fun t => ?_, by rw [List.map_set]; exact u5, fun b hb => by rw [AH.get_set, if_neg hb]; exact hko b hb, by simp [E0], by simp [E1], by simp; omega, by simp; omega⟩
    rw [List.getElem?_set, hcur t, List.getElem?_eraseIdx]
    by_cases e1 : w = t
    · subst e1
      rw [if_pos rfl, if_pos (by omega), if_pos (by omega), if_neg (by omega), show w + 1 = j by omega, List.getElem?_eq_getElem hlt, hp]
    · rw [if_neg e1]
      by_cases e2 : t < w
      · simp only [if_pos e2, if_pos (show t < i + (k + 1) by omega)]
      · simp only [if_neg e2, if_neg (show ¬ t < i + (k + 1) by omega)]
  · have hlt' : ¬ (j : Int) < ps.length := by omega
    have hwn : w + 1 = ps.length := by omega
    rcases snoc_cases cur with hc0 | ⟨o, l, rfl⟩
    · rw [hc0] at hcl; simp at hcl; omega
    have hol : o.length = w := by simp at hcl; omega
    have ho : o = ps.eraseIdx i := by
      apply List.ext_getElem?
      intro t
      by_cases ht : t < w
      · have := hcur t
        rw [if_pos ht, List.getElem?_append_left (by omega)] at this
        exact this
      · rw [List.getElem?_eq_none (by omega), List.getElem?_eq_none (by rw [List.length_eraseIdx, if_pos hil]; omega)]
    rcases hlq.2 with ⟨h0, _⟩ | ⟨ab', c', rest2, e1, e2, e3, e4⟩
    · cases h0
    injection e1 with e1; subst e1
    injection e2 with _ _ e2; subst e2
    have hofl : (o.map ptrE).flatten.length = w := by
      rw [flat_len (z := 1) (fun r hr => by obtain ⟨x, -, rfl⟩ := List.mem_map.1 hr; rfl), List.length_map, hol]; omega
    rw [List.map_append, List.flatten_append] at e3 e4
    simp only [List.map_cons, List.map_nil, List.flatten_cons, List.flatten_nil, List.append_nil] at e3 e4
    have hlo : ∃ c2, slW Try.prog 1 (some ⟨ab, 0, none⟩) ps.length c (some (.int .i64 (w : Int))) none none A2 = some (.slice (some ⟨ab, w, none⟩) 1 c2) := by
      rcases e4 with ⟨rfl, _⟩ | ⟨e4, e5, e6⟩
      · refine ⟨UNK, ?_⟩
        have := slU_lo (P := Try.prog) (n := ps.length) (o := 0) (i := w) (k := .i64) e3 sz86 (by omega)
        rw [this]; simp; omega
      · simp at e5
        have := slW_lo (P := Try.prog) (z := 1) (a := some ⟨ab, 0, none⟩) (i := w) (k := .i64) (A := A2) (n := ps.length) (c := c) (by omega) (by omega) e4
        rw [cutA_ne (by omega)] at this
        refine ⟨c - w, ?_⟩
        rw [this]; simp; omega
    obtain ⟨c2, hlo⟩ := hlo
    have hobx : ∃ A3, A3 = A2.set ab (.row ((o.map ptrE).flatten ++ .pointer none :: rest2) 86 false) := ⟨_, rfl⟩
    obtain ⟨A3, hA3⟩ := hobx
    have hcl1 : clW [.pointer none] (.slice (some ⟨ab, w, none⟩) 1 c2) A2 = some A3 := by
      have := clW_row (zc := [.pointer none]) (d := ab) (o := w) (n := 1) (c := c2) (A := A2) (by omega) e3 (by rw [List.length_append, List.length_append, hofl]; simp [ptrE]) rfl
      rw [this, hA3]
      congr 3
      have := spl_last (X := (o.map ptrE).flatten) (Y := rest2) (l := ptrV l) hofl
      rw [← this]
      simp [ptrE, ptrV]
    have g3 : A3.get ab = some (.row ((o.map ptrE).flatten ++ .pointer none :: rest2) 86 false) := by rw [hA3, AH.get_set, if_pos rfl]
    have hhi : slW Try.prog 1 (some ⟨ab, 0, none⟩) ps.length c none (some (.int .i64 (w : Int))) none A3 = some (.slice (some ⟨ab, 0, none⟩) w c) := by
      rcases e4 with ⟨rfl, _⟩ | ⟨e4, e5, e6⟩
      · exact slU_hi g3 sz86 (by omega)
      · simp at e5
        rw [slW_hi (by omega) (by omega) e4, cutA_zero]
    simp [E0, E1, E5, E6, hlt, hlt', hlo, hcl1, hhi]
    refine DN.of ⟨?_, fun b hb => ?_⟩
    · rw [← ho]
      refine ⟨fun r hr => ?_, Or.inr ⟨ab, c, .pointer none :: rest2, rfl, by rw [List.length_map, hol], g3, ?_⟩⟩
      · obtain ⟨x, -, rfl⟩ := List.mem_map.1 hr; exact ⟨rfl, rfl⟩
      · rcases e4 with ⟨rfl, x, hx⟩ | ⟨e4, e5, e6⟩
        · exact Or.inl ⟨rfl, x + 1, by simp; omega⟩
        · refine Or.inr ⟨e4, by simp at e5 ⊢; omega, ?_⟩
          simp only [List.length_append, List.length_cons, hofl] at e6 ⊢
          simp [ptrE] at e6; omega
    · have hb' : b ≠ ab := fun e => hb (by rw [e])
      rw [hA3, AH.get_set, if_neg hb', hko b hb']
end Go.Proofs.Ytieehccjajhpfaa.AC
/- Tables of entries: how they lie; looking, making. -/
namespace Go.Proofs.Ytieehccjajhpfaa.AC
open Go Go.AI Go.Proofs Go.Proofs.Ytieehccjajhpfaa.AQ
set_option linter.unusedVariables false
set_option linter.unusedSimpArgs false
def EnOk (x : En) : Prop := rightB x.w = true ∧ x.w.bw < 18446744073709551616
structure TOk (size : Nat) (l : List En) : Prop where
  srt : SrtE l
  len : l.length ≤ 64
  ok : ∀ x ∈ l, EnOk x
  fits : tot (grp l) ≤ size
  sz : size < 18446744073709551616
structure TabA (A : AH) (t : Nat) (ob : Option Nat) (size : Nat) (l : List En) : Prop where
  row : ∃ v, A.get t = some (.row [.bool true, .int .u64 size, v] 70 false) ∧ Lst A 63 10 ob v (l.map En.enc)
  ok : TOk size l
theorem TabA.ne {A : AH} {t : Nat} {ob : Option Nat} {size : Nat} {l : List En} (h : TabA A t ob size l) : ob ≠ some t := by
  have hobt := h.row
  obtain ⟨v, h1, h2⟩ := hobt
  exact Lst.ty h2 h1 (by decide)
theorem TabA.lt {A : AH} {t : Nat} {ob : Option Nat} {size : Nat} {l : List En} (h : TabA A t ob size l) (hw : A.wf) : t < A.next ∧ ∀ b, ob = some b → b < A.next := by
  have hobt := h.row
  obtain ⟨v, h1, h2⟩ := hobt
  exact ⟨hw _ _ h1, fun b hb => h2.lt hw hb⟩
theorem TabA.kept {A A' : AH} {t : Nat} {ob : Option Nat} {size : Nat} {l : List En} (h : TabA A t ob size l) (h1 : A'.get t = A.get t) (h2 : ∀ b, ob = some b → A'.get b = A.get b) : TabA A' t ob size l := by
  have hobt := h.row
  obtain ⟨v, g1, g2⟩ := hobt
  exact ⟨⟨v, by rw [h1]; exact g1, g2.kept h2⟩, h.ok⟩
theorem TabA.ext {A A' : AH} {t : Nat} {ob : Option Nat} {size : Nat} {l : List En} (h : TabA A t ob size l) (hw : A.wf) (hx : Ext A A') : TabA A' t ob size l :=
  h.kept (hx _ (h.lt hw).1) fun b hb => hx _ ((h.lt hw).2 b hb)
theorem bwG_le {g : List En} {n : Nat} (h : ∀ x ∈ g, x.w.bw ≤ n) : bwG g ≤ n := by
  induction g using snoc_ind with
  | h0 => simp [bwG]
  | h1 g x ih => rw [bwG_snoc]; exact Nat.max_le.2 ⟨ih fun y hy => h y (by simp [hy]), h x (by simp)⟩
theorem holdG_in {g : List En} (hg : g ≠ []) : ∃ x ∈ g, holdG g = x.w.hold := by
  induction g using snoc_ind with
  | h0 => exact absurd rfl hg
  | h1 g x ih =>
    rw [holdG_snoc]
    by_cases h : g = []
    · rw [if_pos h]; exact ⟨x, by simp, rfl⟩
    · rw [if_neg h]
      have hobt := ih h
      obtain ⟨y, hy, e⟩ := hobt
      rcases Int.le_total (holdG g) x.w.hold with h1 | h1
      · rw [Int.min_eq_left h1]; exact ⟨y, by simp [hy], e⟩
      · rw [Int.min_eq_right h1]; exact ⟨x, by simp, rfl⟩
theorem right_hold {w : Wt} (h : rightB w = true) : 0 ≤ w.hold ∧ w.hold < 8 := by simp [rightB] at h; omega
theorem grp_ok {l : List En} (h : ∀ x ∈ l, EnOk x) : HoldOk (grp l) ∧ ∀ g ∈ grp l, bwG g < 18446744073709551616 := by
  constructor
  · intro g hg
    have hobt := holdG_in (grp_ne l g hg)
    obtain ⟨x, hx, e⟩ := hobt
    rw [e]
    exact right_hold (h x (grp_mem hg x hx)).1
  · intro g hg
    have := bwG_le (g := g) (n := 18446744073709551615) fun x hx => by have := (h x (grp_mem hg x hx)).2; omega
    omega
theorem pos_has {l : List En} {k : Key} {p : Nat} (hs : SrtE l) (h : PosP l k p) : decide (∃ x, l[p]? = some x ∧ x.k = k) = hasK l k := by
  rw [Bool.eq_iff_iff, hasK_iff, decide_eq_true_iff]
  constructor
  · rintro ⟨x, hx, e⟩; exact ⟨x, List.mem_of_getElem? hx, e⟩
  · rintro ⟨x, hx, e⟩
    have hobt := List.mem_iff_getElem.1 hx
    obtain ⟨i, hi, rfl⟩ := hobt
    obtain ⟨h0, h1, h2⟩ := h
    rcases Nat.lt_trichotomy i p with hlt | rfl | hgt
    · have := h1 i hi hlt; rw [e, bef_irr] at this; cases this
    · exact ⟨_, List.getElem?_eq_getElem hi, e⟩
    · have := h2 p (by omega) (Nat.le_refl _)
      have h3 := hs.lt hgt hi
      rw [e, this] at h3; cases h3
theorem good_ok {A : AH} {t : Nat} {b : Bool} {x y : Value} (h : A.get t = some (.row [.bool b, x, y] 70 false)) : ACall Try.prog 36 [.pointer (some ⟨t, 0, none⟩)] A fun v A' => v = .bool b ∧ A' = A := by
  refine code36.call (by simp) fun hwf => ?_
  unfold c36
  simp [h]
  exact DN.of ⟨rfl, rfl⟩
theorem good_nil (A : AH) : ACall Try.prog 36 [.pointer none] A fun v A' => v = .bool false ∧ A' = A := by
  refine code36.call (by simp) fun hwf => ?_
  unfold c36
  simp
  exact DN.of ⟨rfl, rfl⟩
theorem find_ok {A : AH} {t : Nat} {ob : Option Nat} {size : Nat} {l : List En} (h : TabA A t ob size l) (k : Key) : ACall Try.prog 37 [.pointer (some ⟨t, 0, none⟩), keyV k] A fun v A' => Ext A A' ∧ ∃ p, PosP l k p ∧ v = .tuple #[.int .i64 p, .bool (hasK l k)] := by
  have hobt := h.row
  obtain ⟨v, h1, h2⟩ := hobt
  have hobt := h2.sl
  obtain ⟨a, c, rfl, h3, -⟩ := hobt
  rw [List.length_map] at h1
  have x1 := Ext.alloc A (.row k.enc 23 false)
  refine ACall.wf fun hwf => ?_
  have htl := (h.lt hwf).1
  have hne : ¬ t = A.next := by omega
  refine code37.call (by simp) fun hwf => ?_
  unfold c37
  simp [keyV, h1, hne]
  refine CN.use (bsearch_ok (h3.ext hwf x1) h.ok.srt (by have := h.ok.len; omega) k) ?_
  rintro _ A2 hw2 hn2 ⟨x2, p, hp, rfl⟩
  simp [pos_has h.ok.srt hp]
  exact DN.of ⟨x1.trans (by simp) x2, p, hp, rfl⟩
theorem new_ok (size : Nat) (hs : size < 18446744073709551616) (A : AH) : ACall Try.prog 16 [.int .u64 size] A fun v A' => v = .pointer (some ⟨A.next, 0, none⟩) ∧ TabA A' A.next none size [] ∧ Ext A A' := by
  refine code16.call (by simp) fun hwf => ?_
  unfold c16
  simp
  exact DN.of ⟨rfl, ⟨⟨_, AH.get_new _ _, Lst.nil _ _ _⟩, ⟨List.Pairwise.nil, by simp, by simp, by simp [tot, grp], hs⟩⟩, Ext.alloc A _⟩
theorem entries_ok {A : AH} {t : Nat} {ob : Option Nat} {size : Nat} {l : List En} (h : TabA A t ob size l) : ACall Try.prog 26 [.pointer (some ⟨t, 0, none⟩)] A fun v A' => Ext A A' ∧ ∃ ob', Lst A' 63 10 ob' v (l.map En.enc) ∧ ∀ b, ob' = some b → A.next ≤ b := by
  have hobt := h.row
  obtain ⟨v, h1, h2⟩ := hobt
  have hobt := h2.sl
  obtain ⟨a, c, rfl, h3, -⟩ := hobt
  rw [List.length_map] at h1
  refine code26.call (by simp) fun hwf => ?_
  unfold c26
  simp
  refine CN.use (good_ok h1) ?_
  rintro _ A1 - - ⟨rfl, rfl⟩
  simp [h1]
  refine CN.use (clonee_ok h3 (by have := h.ok.len; omega)) ?_
  rintro v A2 hw2 hn2 ⟨x2, ob', q1, q2⟩
  simp
  exact DN.of ⟨x2, ob', q1, q2⟩
theorem copy_ok {A : AH} {t : Nat} {ob : Option Nat} {size : Nat} {l : List En} (h : TabA A t ob size l) : ACall Try.prog 32 [.pointer (some ⟨t, 0, none⟩)] A fun v A' => Ext A A' ∧ ∃ t' ob', v = .pointer (some ⟨t', 0, none⟩) ∧ TabA A' t' ob' size l ∧ A.next ≤ t' ∧ ∀ b, ob' = some b → A.next ≤ b := by
  have hobt := h.row
  obtain ⟨v, h1, h2⟩ := hobt
  have hobt := h2.sl
  obtain ⟨a, c, rfl, h3, -⟩ := hobt
  rw [List.length_map] at h1
  refine code32.call (by simp) fun hwf => ?_
  unfold c32
  simp
  refine CN.use (good_ok h1) ?_
  rintro _ A1 - - ⟨rfl, rfl⟩
  simp [h1]
  refine CN.use (clonee_ok h3 (by have := h.ok.len; omega)) ?_
  rintro v A2 hw2 hn2 ⟨x2, ob', q1, q2⟩
  have hobt := q1.sl
  obtain ⟨a', c', rfl, -, -⟩ := hobt
  have h1' := x2.get (by assumption) h1
  have q1' := fun r => q1.kept (A' := A2.alloc r) fun b hb => by rw [AH.get_alloc, if_neg (by have := q1.lt hw2 hb; omega)]
  simp [h1']
  refine DN.of ?_
  refine ⟨fun b hb => by rw [AH.get_alloc, if_neg (by omega)]; exact x2 b hb, A2.next, ob', rfl, ⟨⟨_, AH.get_new _ _, by simpa using q1' _⟩, h.ok⟩, hn2, q2⟩
theorem sl_of_lst {A : AH} {e : TypeId} {z : Nat} {ob : Option Nat} {v : Value} {α : Type} {f : α → List Value} {M : List α} (h : Lst A e z ob v (M.map f)) : ∃ a c, v = .slice a M.length c ∧ Sl A e z a (M.map f) := h.slm
theorem ledger_ok {A : AH} {t : Nat} {ob : Option Nat} {size : Nat} {l : List En} (h : TabA A t ob size l) : ACall Try.prog 22 [.pointer (some ⟨t, 0, none⟩)] A fun v A' => v = .agg (ldg size (grp l)).enc.toArray ∧ Ext A A' := by
  have hobt := h.row
  obtain ⟨v, h1, h2⟩ := hobt
  have hobt := h2.sl
  obtain ⟨a, c, rfl, h3, -⟩ := hobt
  rw [List.length_map] at h1
  have hobt := grp_ok h.ok.ok
  obtain ⟨ho1, ho2⟩ := hobt
  have hlw := ldg_wf ho1 h.ok.sz h.ok.fits
  have hl : (ldg size (grp l)).enc.length = 9 := by simp [Ld.enc, hlw.1]
  have hoo : ∀ v ∈ (ldg size (grp l)).enc, oneB v = true := List.all_eq_true.1 (by simp [Ld.enc])
  have ht9 : (ldg size (grp l)).enc.take 9 = (ldg size (grp l)).enc := List.take_of_length_le (by omega)
  refine ACall.wf fun hwf => ?_
  have htl := (h.lt hwf).1
  have hne : ¬ t = A.next := by omega
  have x1 := Ext.alloc A (.row [.int .u64 0, .int .u64 0, .int .u64 0, .int .u64 0, .int .u64 0, .int .u64 0, .int .u64 0, .int .u64 0, .int .u64 0] 48 false)
  have h1' := x1.get hwf h1
  refine code22.call (by simp) fun hwf => ?_
  unfold c22
  simp
  refine CN.use (good_ok h1') ?_
  rintro _ A1 hw1 - ⟨rfl, rfl⟩
  simp [h1, hne]
  refine CN.use (families_ok (h3.ext hwf x1) (by have := h.ok.len; omega)) ?_
  rintro v A2 hw2 hn2 ⟨x2, ps, G, O, ob2, F, hG⟩
  have hobt := F.l.slm
  obtain ⟨a2, c2, rfl, s2⟩ := hobt
  have hpl : ps.length ≤ 1000 := by
    have := congrArg List.length hG
    rw [List.length_map] at this
    have h2 := grp_len l
    have h3 := h.ok.len
    omega
  have h1'' := x2.get hw1 h1'
  simp [h1'']
  refine CN.use (booked_ok s2 (fun b hb => hb.2.1) (F.famR hw2) (by rw [hG]; exact ho1) (fun p hp => ho2 _ (by rw [← hG]; exact List.mem_map.2 ⟨p, hp, rfl⟩)) h.ok.sz hpl) ?_
  rintro _ A3 hw3 hn3 ⟨x3, b, -, rfl, hb⟩
  rw [hG] at hb
  obtain rfl := hb h.ok.fits
  have r3 : A3.get A.next = some (.row [.int .u64 0, .int .u64 0, .int .u64 0, .int .u64 0, .int .u64 0, .int .u64 0, .int .u64 0, .int .u64 0, .int .u64 0] 48 false) := x3.get hw2 (x2.get hw1 (AH.get_new _ _))
  simp [hl, ht9, r3]
  have hne3 : ¬ A.next = A3.next := by simp at hw1 hn2; omega
  refine ⟨hoo, ?_⟩
  simp [hl, ht9, hne3]
  refine ⟨hoo, ?_⟩
  exact DN.of ⟨rfl, ((x1.trans (by simp) (x2.trans (by omega) x3)).app (by simp at hw1 hn2; omega) _).setnew (Nat.le_refl _) _⟩
theorem drop_filter {l : List En} (hs : SrtE l) {k : Key} {p : Nat} (h : PosP l k p) (hk : hasK l k = true) : l.take p ++ l.drop (p + 1) = l.filter (fun y => decide (y.k ≠ k)) ∧ p < l.length := by
  rw [← pos_has hs h, decide_eq_true_iff] at hk
  obtain ⟨x, hx, e⟩ := hk
  have hobt := List.getElem?_eq_some_iff.1 hx
  obtain ⟨hp, hx⟩ := hobt
  refine ⟨?_, hp⟩
  have hsp : l = l.take p ++ x :: l.drop (p + 1) := by rw [← hx, ← List.drop_eq_getElem_cons hp, List.take_append_drop]
  have hs' := hs
  unfold SrtE at hs'
  rw [hsp, List.pairwise_append, List.pairwise_cons] at hs'
  obtain ⟨-, ⟨h2, -⟩, h3⟩ := hs'
  conv => rhs; rw [hsp]
  rw [List.filter_append, List.filter_cons, if_neg (by simp [e]), List.filter_eq_self.2, List.filter_eq_self.2]
  · intro y hy
    have := h2 y hy
    simp; intro e2; rw [e, e2, bef_irr] at this; cases this
  · intro y hy
    have := h3 y hy x (by simp)
    simp; intro e2; rw [e, e2, bef_irr] at this; cases this
theorem tot_filter {l : List En} (hs : SrtE l) (p : En → Bool) : tot (grp (l.filter p)) ≤ tot (grp l) := by
  have G := grp_gg hs
  have hobx : ∃ gs, gs = ((grp l).map (List.filter p)).filter (fun g => !g.isEmpty) := ⟨_, rfl⟩
  obtain ⟨gs, hgs⟩ := hobx
  have key : ∀ g ∈ grp l, g.filter p ≠ [] → (gkey g).kin (gkey (g.filter p)) = true := fun g hg hn => by
    have hobt := gkey_mem hn
    obtain ⟨x, hx, e⟩ := hobt
    rw [← e]; exact G.kin g hg x (List.mem_filter.1 hx).1
  have hm : ∀ g ∈ gs, ∃ g0 ∈ grp l, g0.filter p = g ∧ g ≠ [] := fun g hg => by
    rw [hgs] at hg
    have hobt := List.mem_filter.1 hg
    obtain ⟨h1, h2⟩ := hobt
    have hobt := List.mem_map.1 h1
    obtain ⟨g0, h3, h4⟩ := hobt
    exact ⟨g0, h3, h4, by intro e; rw [e] at h2; simp at h2⟩
  have GG' : GG gs := by
    refine ⟨fun g hg => ?_, fun g hg x hx => ?_, ?_⟩
    · obtain ⟨g0, h1, h2, h3⟩ := hm g hg; exact h3
    · obtain ⟨g0, h1, h2, h3⟩ := hm g hg
      rw [← h2] at hx h3 ⊢
      rw [← kin_cong (key g0 h1 h3)]
      exact G.kin g0 h1 x (List.mem_filter.1 hx).1
    · rw [hgs, List.pairwise_filter, List.pairwise_map]
      refine G.apart.imp_of_mem fun {a b} ha hb hab h1 h2 => ?_
      have h1' : a.filter p ≠ [] := by intro e; rw [e] at h1; simp at h1
      have h2' : b.filter p ≠ [] := by intro e; rw [e] at h2; simp at h2
      rw [← kin_cong (key a ha h1'), kin_comm, ← kin_cong (key b hb h2'), kin_comm, hab]
  have hfl : gs.flatten = l.filter p := by
    rw [hgs]
    have : ∀ L : List (List En), ((L.map (List.filter p)).filter fun g => !g.isEmpty).flatten = L.flatten.filter p := by
      intro L
      induction L with
      | nil => rfl
      | cons g L ih =>
        rw [List.map_cons, List.filter_cons, List.flatten_cons, List.filter_append, ← ih]
        split
        · rfl
        · rename_i h
          have e : g.filter p = [] := by cases hx : g.filter p with
            | nil => rfl
            | cons a b => rw [hx] at h; simp at h
          rw [e, List.nil_append]
    rw [this, grp_flat]
  have h1 := grp_of GG'
  rw [hfl] at h1
  rw [h1, hgs]
  generalize grp l = L
  unfold tot
  induction L with
  | nil => simp
  | cons g L ih =>
    rw [List.map_cons, List.filter_cons]
    have hb : bwG (g.filter p) ≤ bwG g := by
      refine bwG_le fun x hx => ?_
      have : ∀ (g : List En) (x : En), x ∈ g → x.w.bw ≤ bwG g := by
        intro g
        induction g using snoc_ind with
        | h0 => intro x hx; cases hx
        | h1 g y ih =>
          intro x hx
          rw [bwG_snoc]
          rcases List.mem_append.1 hx with hx | hx
          · exact Nat.le_trans (ih x hx) (Nat.le_max_left _ _)
          · obtain rfl : x = y := by simpa using hx
            exact Nat.le_max_right _ _
      exact this g x (List.mem_filter.1 hx).1
    split
    · simp only [List.map_cons, List.sum_cons]; omega
    · simp only [List.map_cons, List.sum_cons]; omega
def dropP (l : List En) (k : Key) : List En × Int := if hasK l k = true then (l.filter (fun y => decide (y.k ≠ k)), 0) else (l, 8)
theorem TOk.drop {size : Nat} {l : List En} (h : TOk size l) (k : Key) : TOk size (dropP l k).1 := by
  unfold dropP
  split
  · exact ⟨h.srt.sublist List.filter_sublist, Nat.le_trans (List.length_filter_le _ _) h.len, fun x hx => h.ok x (List.mem_filter.1 hx).1, Nat.le_trans (tot_filter h.srt _) h.fits, h.sz⟩
  · exact h
theorem drop_ok {A : AH} {t : Nat} {ob : Option Nat} {size : Nat} {l : List En} (h : TabA A t ob size l) (k : Key) : ACall Try.prog 18 [.pointer (some ⟨t, 0, none⟩), keyV k] A fun v A' => v = .int .i64 (dropP l k).2 ∧ TabA A' t ob size (dropP l k).1 ∧ ∀ b, b < A.next → b ≠ t → ob ≠ some b → A'.get b = A.get b := by
  have hok := h.ok.drop k
  refine ACall.wf fun hwf => ?_
  have hobt := h.lt hwf
  obtain ⟨htl, hol⟩ := hobt
  have hne : ¬ t = A.next := by omega
  have x1 := Ext.alloc A (.row k.enc 23 false)
  have w1 := AH.wf_alloc hwf (.row k.enc 23 false)
  have r1 := AH.get_new A (.row k.enc 23 false)
  have h1 := h.ext hwf x1
  have hobt := h1.row
  obtain ⟨v, g1, g2⟩ := hobt
  by_cases hk : hasK l k = true
  rotate_left
  · have hd : dropP l k = (l, 8) := by unfold dropP; rw [if_neg hk]
    simp at hk
    refine code18.call (by simp) fun hwf => ?_
    unfold c18
    simp [keyV]
    refine CN.use (good_ok g1) ?_
    rintro _ A1 - - ⟨rfl, rfl⟩
    simp
    refine CN.use (find_ok h1 k) ?_
    rintro _ A2 hw2 hn2 ⟨x2, p, hp, rfl⟩
    simp [hk]
    rw [hd]
    exact DN.of ⟨rfl, h1.ext w1 x2, fun b h1 h2 h3 => (x1.trans (by simp) x2) b h1⟩
  · have hd : dropP l k = (l.filter (fun y => decide (y.k ≠ k)), 0) := by unfold dropP; rw [if_pos hk]
    rw [hd] at hok
    refine code18.call (by simp) fun hwf => ?_
    unfold c18
    simp [keyV]
    refine CN.use (good_ok g1) ?_
    rintro _ A1 - - ⟨rfl, rfl⟩
    simp
    refine CN.use (find_ok h1 k) ?_
    rintro _ A2 hw2 hn2 ⟨x2, p, hp, rfl⟩
    have hdf := drop_filter h.ok.srt hp hk
    obtain ⟨hdf, hpl⟩ := hdf
    have h2 := h1.ext w1 x2
    have hrow := h2.row
    obtain ⟨v2, e1, e2⟩ := hrow
    have hpi : IntKind.i64.wrap ((p : Int) + 1) = (p : Int) + 1 := by have := h.ok.len; rw [i64_in (by omega) (by omega)]
    simp [hk, e1, hpi]
    refine CN.use (delete_ok e2 (by simpa using hpl) (by have := h.ok.len; simp; omega)) ?_
    rintro v3 A3 hw3 hn3 ⟨q1, q2⟩
    have hq : (l.map En.enc).take p ++ (l.map En.enc).drop (p + 1) = (l.filter (fun y => decide (y.k ≠ k))).map En.enc := by rw [← hdf]; simp
    rw [hq] at q1
    have hnt := h2.ne
    simp only [AH.next_alloc] at hn2
    have e3 : A3.get t = some (.row [.bool true, .int .u64 size, v2] 70 false) := by rw [q2 t (by omega) hnt, e1]
    have hobt := q1.form
    obtain ⟨a3, n3, c3, rfl⟩ := hobt
    simp [e3]
    refine DN.of ?_
    rw [hd]
    refine ⟨rfl, ⟨⟨_, by rw [AH.get_set, if_pos rfl], q1.kept fun b hb => by rw [AH.get_set, if_neg (fun e => hnt (by rw [hb, e]))]⟩, hok⟩, fun b h1 h2 h3 => ?_⟩
    rw [AH.get_set, if_neg h2, q2 b (by omega) h3]
    exact (x1.trans (by simp) x2) b h1
end Go.Proofs.Ytieehccjajhpfaa.AC
/- Admit, without the program. -/
namespace Go.Proofs.Ytieehccjajhpfaa.AC
open Go Go.AI Go.Proofs Go.Proofs.Ytieehccjajhpfaa.AQ
set_option linter.unusedVariables false
set_option linter.unusedSimpArgs false
def admP (size : Nat) (l : List En) (k : Key) (w : Wt) : List En × List Key × Int :=
  if rightB w = false then (l, [], 2) else
  if hasK l k = true then (l, [], 9) else
  if 64 ≤ l.length then (l, [], 7) else
  match adm size k w.setup ⟨k, w⟩ l with
  | none => (l, [], 14)
  | some now => (insE now ⟨k, w⟩, goneK l now, 0)
theorem no_key {l : List En} {k : Key} (h : ¬ hasK l k = true) : ∀ y ∈ l, y.k ≠ k := fun y hy e => h ((hasK_iff _ _).2 ⟨y, hy, e⟩)
theorem TOk.adm {size : Nat} {l : List En} (h : TOk size l) (k : Key) {w : Wt} (hw : w.bw < 18446744073709551616) : TOk size (admP size l k w).1 := by
  unfold admP
  by_cases h1 : rightB w = false
  · rw [if_pos h1]; exact h
  rw [if_neg h1]
  by_cases h2 : hasK l k = true
  · rw [if_pos h2]; exact h
  rw [if_neg h2]
  by_cases h3 : 64 ≤ l.length
  · rw [if_pos h3]; exact h
  rw [if_neg h3]
  cases ha : AC.adm size k w.setup ⟨k, w⟩ l with
  | none => exact h
  | some now =>
    have hobt := adm_some _ _ _ ha
    obtain ⟨s1, s2⟩ := hobt
    refine ⟨insE_srt (h.srt.sublist s1) fun y hy => no_key h2 y (s1.subset hy), ?_, fun x hx => ?_, s2, h.sz⟩
    · rw [insE_len]; have := s1.length_le; omega
    · rcases (insE_mem _ _ _).1 hx with rfl | hx
      · exact ⟨by simpa using h1, hw⟩
      · exact h.ok x (s1.subset hx)
section
variable {G : Nat → List En} {ps : List Nat} {i q : Nat}
theorem erase_split {α : Type} {l : List α} {i : Nat} {x : α} (h : l[i]? = some x) : l = l.take i ++ x :: l.drop (i + 1) ∧ l.eraseIdx i = l.take i ++ l.drop (i + 1) := by
  have hobt := List.getElem?_eq_some_iff.1 h
  obtain ⟨hi, hx⟩ := hobt
  exact ⟨by rw [← hx, ← List.drop_eq_getElem_cons hi, List.take_append_drop], List.eraseIdx_eq_take_drop_succ l i⟩
theorem erase_map (hg : GG (ps.map G)) (h : ps[i]? = some q) : (ps.eraseIdx i).map G = (ps.map G).filter fun g => !(gkey g).kin (gkey (G q)) := by
  have hobt := erase_split h
  obtain ⟨h1, h2⟩ := hobt
  have ha := hg.apart
  rw [h2]
  rw [h1, List.map_append, List.map_cons, List.pairwise_append, List.pairwise_cons] at ha
  conv => rhs; rw [h1]
  rw [List.map_append, List.map_append, List.map_cons, List.filter_append, List.filter_cons, if_neg (by simp [kin_refl]), List.filter_eq_self.2, List.filter_eq_self.2]
  · intro g hg; rw [kin_comm, ha.2.1.1 g hg]; rfl
  · intro g hg; rw [ha.2.2 g hg (G q) (by simp)]; rfl
theorem erase_perm {c : Nat → Bool} {qs : List Nat} (h : ps[i]? = some q) (hc : c q = true) (hp : (q :: qs).Perm (ps.filter c)) : qs.Perm ((ps.eraseIdx i).filter c) := by
  have hobt := erase_split h
  obtain ⟨h1, h2⟩ := hobt
  rw [h2]
  rw [h1, List.filter_append, List.filter_cons, if_pos hc] at hp
  rw [List.filter_append]
  exact (hp.trans List.perm_middle).cons_inv
theorem best_head {k : Key} {s : Int} {qs : List Nat} (hg : GG (ps.map G)) (hp : (q :: qs).Perm (ps.filter fun p => candB k s (G p))) (hs : ∀ r ∈ qs, wrs (G r) (G q) = false) : bst ((ps.map G).filter (candB k s)) = some (G q) := by
  have hm : (ps.map G).filter (candB k s) = (ps.filter fun p => candB k s (G p)).map G := by rw [List.filter_map]; rfl
  rcases bst_spec ((ps.map G).filter (candB k s)) with ⟨h1, -⟩ | ⟨c, h1, h2, h3⟩
  · rw [hm] at h1
    have h2 := List.map_eq_nil_iff.1 h1
    rw [h2] at hp
    exact absurd hp.length_eq (by simp)
  · rw [h1]
    rw [hm] at h2 h3
    have hobt := List.mem_map.1 h2
    obtain ⟨r, hr, rfl⟩ := hobt
    have hq : q ∈ ps.filter fun p => candB k s (G p) := hp.subset (by simp)
    rcases List.mem_cons.1 (hp.symm.subset hr) with rfl | hr'
    · rfl
    · have h4 := hs r hr'
      have h5 := h3 (G q) (List.mem_map.2 ⟨q, hq, rfl⟩)
      by_cases e : gkey (G q) = gkey (G r)
      · have hgq : G q ∈ ps.map G := List.mem_map.2 ⟨q, (List.mem_filter.1 hq).1, rfl⟩
        have hgr : G r ∈ ps.map G := List.mem_map.2 ⟨r, (List.mem_filter.1 hr).1, rfl⟩
        have h6 := hg.get hgq
        have h7 : G r ∈ (ps.map G).filter (fun g => (gkey g).kin (gkey (G q))) := List.mem_filter.2 ⟨hgr, by rw [e]; exact kin_refl _⟩
        rw [h6] at h7
        rw [List.mem_singleton.1 h7]
      · rcases wrs_total e with h | h
        · rw [h5] at h; cases h
        · rw [h4] at h; cases h
end
/-- Where admitting stands: what is left, the families, those that give way, those that are gone. -/
structure AdmS (size : Nat) (k : Key) (w : Wt) (l : List En) (G : Nat → List En) (now : List En) (ps qs : List Nat) (gone : List Key) : Prop where
  sub : now.Sublist l
  gr : ps.map G = grp (insE now ⟨k, w⟩)
  nd : ps.Nodup
  way : qs.Perm (ps.filter fun p => candB k w.setup (G p))
  srt : qs.Pairwise fun p q => wrs (G q) (G p) = false
  adm : adm size k w.setup ⟨k, w⟩ l = adm size k w.setup ⟨k, w⟩ now
  gone : (gone ++ now.map En.k).Perm (l.map En.k)
section
variable {size : Nat} {k : Key} {w : Wt} {l : List En} {G : Nat → List En} {now : List En} {ps qs : List Nat} {gone : List Key} {q i : Nat}
theorem AdmS.nsrt (h : AdmS size k w l G now ps qs gone) (hs : SrtE l) : SrtE now := hs.sublist h.sub
theorem AdmS.gg (h : AdmS size k w l G now ps qs gone) (hs : SrtE l) (hk : ¬ hasK l k = true) : GG (ps.map G) := by
  rw [h.gr]; exact grp_gg (insE_srt (h.nsrt hs) fun y hy => no_key hk y (h.sub.subset hy))
theorem AdmS.cands (h : AdmS size k w l G now ps qs gone) (hs : SrtE l) (hk : ¬ hasK l k = true) : (grp now).filter (candB k w.setup) = (ps.map G).filter (candB k w.setup) := by
  rw [h.gr]; exact (cand_ins (x := ⟨k, w⟩) (h.nsrt hs) (fun y hy => no_key hk y (h.sub.subset hy)) _).symm
theorem AdmS.done (h : AdmS size k w l G now ps qs gone) (hf : tot (ps.map G) ≤ size) : AC.adm size k w.setup ⟨k, w⟩ l = some now := by
  rw [h.adm, adm_eq, if_pos (by rw [← h.gr]; exact hf)]
theorem AdmS.none (h : AdmS size k w l G now ps [] gone) (hs : SrtE l) (hk : ¬ hasK l k = true) (hf : ¬ tot (ps.map G) ≤ size) : AC.adm size k w.setup ⟨k, w⟩ l = none := by
  have hw := h.way.symm.eq_nil
  have hc : (ps.map G).filter (candB k w.setup) = [] := by
    rw [show (ps.map G).filter (candB k w.setup) = (ps.filter fun p => candB k w.setup (G p)).map G by rw [List.filter_map]; rfl, hw]; rfl
  rw [h.adm, adm_eq, if_neg (by rw [← h.gr]; exact hf), h.cands hs hk, hc]
  rfl
theorem AdmS.step (h : AdmS size k w l G now ps (q :: qs) gone) (hs : SrtE l) (hk : ¬ hasK l k = true) (hf : ¬ tot (ps.map G) ≤ size) (hi : ps[i]? = some q) :
    AdmS size k w l G (rmv now (G q)) (ps.eraseIdx i) qs (gone ++ (G q).map En.k) := by
  have hg := h.gg hs hk
  have hns := h.nsrt hs
  have hsrt := List.pairwise_cons.1 h.srt
  have hb := best_head hg h.way hsrt.1
  have hqc : q ∈ ps.filter fun p => candB k w.setup (G p) := h.way.subset (by simp)
  have hcq := (List.mem_filter.1 hqc).2
  have hnk : k.kin (gkey (G q)) = false := by
    rw [kin_comm]
    simp only [candB, Bool.and_eq_true] at hcq
    simpa using hcq.1
  rw [← h.cands hs hk] at hb
  have hqn : G q ∈ grp now := (List.mem_filter.1 (bst_mem hb)).1
  refine ⟨List.filter_sublist.trans h.sub, ?_, h.nd.sublist (List.eraseIdx_sublist ..), erase_perm hi hcq h.way, hsrt.2, ?_, ?_⟩
  · rw [insE_rmv hns hnk, grp_rmv (insE_srt hns fun y hy => no_key hk y (h.sub.subset hy)), erase_map hg hi, h.gr]
  · rw [h.adm, adm_eq, if_neg (by rw [← h.gr]; exact hf), hb]
  · have h1 := (rmv_perm hns hqn).map En.k
    rw [List.map_append] at h1
    rw [List.append_assoc]
    exact (List.Perm.append_left gone h1).trans h.gone
end
end Go.Proofs.Ytieehccjajhpfaa.AC
/- Admit: what its walk needs. -/
namespace Go.Proofs.Ytieehccjajhpfaa.AC
open Go Go.AI Go.Proofs Go.Proofs.Ytieehccjajhpfaa.AQ
set_option linter.unusedVariables false
set_option linter.unusedSimpArgs false
theorem own_lq {n0 : Nat} {A : AH} {e : TypeId} {z : Nat} {v : Value} {L : List (List Value)} (h : Own n0 A e z v L) : ∃ ob, Lq A e z ob v L ∧ ∀ b, ob = some b → n0 ≤ b := by
  rcases h.2 with ⟨h1, h2⟩ | ⟨b, h1, h2, h3⟩
  · exact ⟨none, ⟨h.1, Or.inl ⟨rfl, h1, h2⟩⟩, fun b e => by cases e⟩
  · exact ⟨some b, ⟨h.1, Or.inr ⟨b, UNK, [], rfl, h1, by rw [h3]; simp, Or.inl ⟨rfl, 0, by simp⟩⟩⟩, fun b' e => by injection e with e; omega⟩
theorem own_lst {n0 : Nat} {A : AH} {e : TypeId} {z : Nat} {v : Value} {L : List (List Value)} (h : Own n0 A e z v L) : ∃ ob, Lst A e z ob v L ∧ ∀ b, ob = some b → n0 ≤ b := by
  rcases h.2 with ⟨h1, h2⟩ | ⟨b, h1, h2, h3⟩
  · exact ⟨none, ⟨h.1, Or.inl ⟨rfl, h1, h2⟩⟩, fun b e => by cases e⟩
  · exact ⟨some b, ⟨h.1, Or.inr ⟨b, UNK, [], rfl, h1, by rw [h3]; simp, Or.inl ⟨rfl, rfl⟩⟩⟩, fun b' e => by injection e with e; omega⟩
theorem own_form {n0 : Nat} {A : AH} {e : TypeId} {z : Nat} {v : Value} {L : List (List Value)} (h : Own n0 A e z v L) : ∃ a n c, v = .slice a n c := by
  have hobt := h.sl
  obtain ⟨a, c, h, -⟩ := hobt
  exact ⟨a, _, c, h⟩
/-- All of a list is appended to a list of its own. -/
theorem own_all {n0 : Nat} {A : AH} {e : TypeId} {z y : Nat} {v : Value} {L M : List (List Value)} {a : Option Addr} {c : Nat} (h : Own n0 A e z v L) (hn0 : n0 ≤ A.next) (hM : Sl A e z a M) (hz : 0 < z) (hy : y ≤ 1048576) (hl : L.length + M.length ≤ 1000000) :
    ∃ v' A', appW e z y v (.slice a M.length c) A = some (v', A') ∧ Own n0 A' e z v' (L ++ M) ∧ A.next ≤ A'.next ∧ ∀ b, b < n0 → A'.get b = A.get b := by
  have hm : (L.length + M.length) * y ≤ 17592186044416 := by
    have : (L.length + M.length) * y ≤ 1000000 * 1048576 := Nat.mul_le_mul hl hy
    omega
  have hobt := h.app (y := y) (c := c) hn0 hM hz hy (by omega) hm
  obtain ⟨v', A', p1, p2, p3, p4⟩ := hobt
  exact ⟨v', A', p1, p2, p3, fun b hb => (p4 ⟨n0, A.tab⟩ rfl (fun b hb => rfl)) b hb⟩
theorem sort_list {α : Type} [Inhabited α] {lt : α → α → Bool} {d d' : Array α} (hp : Sort.PermIn 0 d.size d d') (hs : Sort.SortedIn lt 0 d.size d') : d'.toList.Perm d.toList ∧ d'.toList.Pairwise fun x y => lt y x = false := by
  obtain ⟨h1, -, h3⟩ := hp
  constructor
  · have e1 : d'.extract 0 d.size = d' := by rw [← h1]; simp
    have e2 : d.extract 0 d.size = d := by simp
    rw [e1, e2] at h3; exact h3
  · rw [List.pairwise_iff_getElem]
    intro i j hi hj hij
    simp only [Array.length_toList] at hi hj
    have := hs i j (Nat.zero_le _) hij (by omega)
    rw [getElem!_pos d' i (by omega), getElem!_pos d' j (by omega)] at this
    simpa using this
theorem lq_cap {A : AH} {e : TypeId} {z : Nat} {ob : Option Nat} {v : Value} {L : List (List Value)} (h : Lq A e z ob v L) : ∃ a c, v = .slice a L.length c ∧ Sl A e z a L ∧ CapOk A e a L.length c ∧ ∀ b o, a = some ⟨b, o, none⟩ → ob = some b := by
  have hobt := h.sl
  obtain ⟨a, c, h1, h2, h3⟩ := hobt
  refine ⟨a, c, h1, h2, ?_, fun b o e => (h3 b o e).1⟩
  rcases h.2 with ⟨g1, g2, g3⟩ | ⟨b, c', rest, g1, g2, g3, g4⟩
  · rw [h1] at g2; injection g2 with g4 g5 g6
    exact Or.inl ⟨by omega, by rw [g6]; unfold UNK; omega⟩
  · rw [h1] at g2; injection g2 with g5 _ g6
    subst g6
    rcases g4 with ⟨g4, _⟩ | ⟨g4, g7, _⟩
    · exact Or.inr ⟨g4, fun b' o' e' => by rw [g5] at e'; injection e' with e'; injection e' with e'; subst e'; exact ⟨_, _, g3⟩⟩
    · exact Or.inl ⟨g7, g4⟩
theorem sl_tail {P : Program} {A : AH} {e : TypeId} {z : Nat} {a : Option Addr} {c : Nat} {r : List Value} {L : List (List Value)} (h : Sl A e z a (r :: L)) (hc : CapOk A e a (L.length + 1) c) (hz : szOf P e = some z) :
    ∃ b o o' c', a = some ⟨b, o, none⟩ ∧ slW P z a (L.length + 1) c (some (.int .i64 1)) none none A = some (.slice (some ⟨b, o', none⟩) L.length c') ∧ Sl A e z (some ⟨b, o', none⟩) L ∧ CapOk A e (some ⟨b, o', none⟩) L.length c' := by
  have hobt := h.2.2 (by simp)
  obtain ⟨b, o, cs, q, rfl, h2, h3, h4⟩ := hobt
  have hR : Rw z L := h.1.sub fun r hr => by simp [hr]
  have hrl := (h.1 r (by simp)).1
  simp only [List.length_cons, Nat.add_mul, Nat.one_mul, List.flatten_cons] at h3 h4
  have hs : Sl A e z (some ⟨b, o + z, none⟩) L := ⟨hR, Pla.yes _ _, fun _ => ⟨b, o + z, cs, q, rfl, h2, by omega, by
    have h5 : List.drop z (r ++ L.flatten) = L.flatten := by rw [← hrl, List.drop_left]
    rw [← h4, List.drop_take, List.drop_drop, Nat.add_sub_cancel] at h5
    exact h5⟩⟩
  rcases hc with ⟨h5, h6⟩ | ⟨rfl, h5⟩
  · have g1 := slW_lo (P := P) (z := z) (a := some ⟨b, o, none⟩) (i := 1) (k := .i64) (A := A) (n := L.length + 1) (c := c) (by omega) h5 h6
    by_cases hc1 : c = 1
    · have hL : L = [] := List.eq_nil_of_length_eq_zero (by omega)
      subst hL
      refine ⟨b, o, o, 0, rfl, ?_, Sl.nil (Pla.yes _ _) _ _ _, Or.inl ⟨by simp, by unfold UNK; omega⟩⟩
      rw [show ((1 : Nat) : Int) = 1 from rfl] at g1
      rw [g1]; unfold cutA; rw [if_pos hc1, hc1]; rfl
    · rw [cutA_ne hc1, Nat.one_mul] at g1
      exact ⟨b, o, o + z, c - 1, rfl, g1, hs, Or.inl ⟨by omega, by omega⟩⟩
  · obtain ⟨cs', ro', h6⟩ := h5 b o rfl
    have g1 := slU_lo (P := P) (z := z) (n := L.length + 1) (o := o) (i := 1) (k := .i64) h6 hz (by omega)
    rw [Nat.one_mul] at g1
    exact ⟨b, o, o + z, UNK, rfl, g1, hs, Or.inr ⟨rfl, fun b' o' e' => by injection e' with e'; injection e' with e'; subst e'; exact ⟨_, _, h6⟩⟩⟩
theorem AdmS.start {size : Nat} {k : Key} {w : Wt} {l : List En} {G : Nat → List En} {ps qs : List Nat} (hg : ps.map G = grp (insE l ⟨k, w⟩)) (hn : ps.Nodup) (hp : qs.Perm (ps.filter fun p => candB k w.setup (G p))) (hs : qs.Pairwise fun p q => wrs (G q) (G p) = false) : AdmS size k w l G l ps qs [] :=
  ⟨List.Sublist.refl _, hg, hn, hp, hs, rfl, by simp⟩
theorem admP_gone {size : Nat} {k : Key} {w : Wt} {l : List En} {G : Nat → List En} {now : List En} {ps qs : List Nat} {gone gone' : List Key} (h : AdmS size k w l G now ps qs gone) (hs : SrtE l) (hp : gone'.Perm gone) (ho : gone'.Pairwise fun a b => b.bef a = false) : gone' = goneK l now :=
  gone_eq hs h.sub h.gone hp.symm ho
theorem AdmS.glen {size : Nat} {k : Key} {w : Wt} {l : List En} {G : Nat → List En} {now : List En} {ps qs : List Nat} {gone : List Key} (h : AdmS size k w l G now ps qs gone) : gone.length ≤ l.length := by
  have := h.gone.length_eq
  simp at this; omega
end Go.Proofs.Ytieehccjajhpfaa.AC
/- Admit. -/
namespace Go.Proofs.Ytieehccjajhpfaa.AC
open Go Go.AI Go.Proofs Go.Proofs.Ytieehccjajhpfaa.AQ
set_option linter.unusedVariables false
set_option linter.unusedSimpArgs false
theorem ptr_rw (l : List Nat) : Rw 1 (l.map ptrE) := by
  intro r hr
  have hobt := List.mem_map.1 hr
  obtain ⟨x, -, rfl⟩ := hobt
  exact ⟨rfl, rfl⟩
theorem key_rw (l : List Key) : Rw 4 (l.map Key.enc) := by
  intro r hr
  have hobt := List.mem_map.1 hr
  obtain ⟨x, -, rfl⟩ := hobt
  exact ⟨rfl, rfl⟩
/-- What an Admit leaves. -/
def AdmQ (A : AH) (t : Nat) (ob : Option Nat) (size : Nat) (r : List En × List Key × Int) (v : Value) (A' : AH) : Prop :=
  (∃ gv obg, v = .tuple #[gv, .int .i64 r.2.2] ∧ Lq A' 23 4 obg gv (r.2.1.map Key.enc) ∧ ∀ b, obg = some b → A.next ≤ b) ∧ (∃ ob', TabA A' t ob' size r.1 ∧ (ob' = ob ∨ ∀ b, ob' = some b → A.next ≤ b)) ∧ ∀ b, b < A.next → b ≠ t → A'.get b = A.get b
theorem AdmQ.no {A A' : AH} {t : Nat} {ob : Option Nat} {size : Nat} {l : List En} (h : TabA A t ob size l) (hw : A.wf) (hx : Ext A A') (e : Int) : AdmQ A t ob size (l, [], e) (.tuple #[.slice none 0 0, .int .i64 e]) A' :=
  ⟨⟨_, none, rfl, Lq.nil _ _ _, by simp⟩, ⟨ob, h.ext hw hx, Or.inl rfl⟩, fun b h1 _ => hx b h1⟩
set_option maxHeartbeats 4000000 in
theorem admit_ok {A : AH} {t : Nat} {ob : Option Nat} {size : Nat} {l : List En} (h : TabA A t ob size l) (k : Key) (w : Wt) (hbw : w.bw < 18446744073709551616) :
    ACall Try.prog 19 [.pointer (some ⟨t, 0, none⟩), .agg k.enc.toArray, .agg w.enc.toArray] A fun v A' => AdmQ A t ob size (admP size l k w) v A' := by
  have hok := h.ok.adm k hbw
  refine ACall.wf fun hwf => ?_
  have hobt := h.lt hwf
  obtain ⟨htl, hol⟩ := hobt
  -- the boxes
  have hobx : ∃ A1, A1 = (A.alloc (.row k.enc 23 false)).alloc (.row w.enc 33 false) := ⟨_, rfl⟩
  obtain ⟨A1, hA1⟩ := hobx
  have w1 : A1.wf := by rw [hA1]; exact AH.wf_alloc (AH.wf_alloc hwf _) _
  have n1 : A1.next = A.next + 2 := by rw [hA1]; rfl
  have x1 : Ext A A1 := by rw [hA1]; exact (Ext.alloc A _).app (by simp) _
  have k1 : A1.get A.next = some (.row k.enc 23 false) := by rw [hA1, AH.get_alloc, if_neg (by simp), AH.get_new]
  have r1 : A1.get (A.next + 1) = some (.row w.enc 33 false) := by rw [hA1, AH.get_alloc, if_pos (by simp)]
  have h1 := h.ext hwf x1
  have hobt := h1.row
  obtain ⟨v, g1, g2⟩ := hobt
  have hwl : w.enc.length = 6 := rfl
  have hwt : w.enc.take 6 = w.enc := rfl
  have hwo : w.enc.all oneB = true := rfl
  have hbr := Bool.eq_false_or_eq_true (rightB w)
  rcases hbr with hr | hr
  rotate_left
  · have hadm : admP size l k w = (l, [], 2) := by unfold admP; rw [if_pos hr]
    refine code19.call (by simp) fun hwf => ?_
    unfold c19
    simp [hwl, hwt, ← hA1]
    refine CN.use (good_ok g1) ?_
    rintro _ A2 hw2 hn2 ⟨rfl, rfl⟩
    simp [k1]
    refine CN.use (find_ok h1 k) ?_
    rintro _ A2 hw2 hn2 ⟨x2, p, hp, rfl⟩
    simp [x2.get w1 r1, hwl, hwt]
    refine CN.use (right_ok w _) ?_
    rintro _ A3 hw3 hn3 ⟨rfl, x3⟩
    simp [hr]
    rw [hadm]
    exact DN.of (AdmQ.no h hwf (x1.trans (by omega) (x2.trans (by omega) x3)) 2)
  by_cases hk : hasK l k = true
  · have hadm : admP size l k w = (l, [], 9) := by unfold admP; rw [if_neg (by rw [hr]; simp), if_pos hk]
    refine code19.call (by simp) fun hwf => ?_
    unfold c19
    simp [hwl, hwt, ← hA1]
    refine CN.use (good_ok g1) ?_
    rintro _ A2 hw2 hn2 ⟨rfl, rfl⟩
    simp [k1]
    refine CN.use (find_ok h1 k) ?_
    rintro _ A2 hw2 hn2 ⟨x2, p, hp, rfl⟩
    simp [x2.get w1 r1, hwl, hwt]
    refine CN.use (right_ok w _) ?_
    rintro _ A3 hw3 hn3 ⟨rfl, x3⟩
    simp [hr, hk]
    rw [hadm]
    exact DN.of (AdmQ.no h hwf (x1.trans (by omega) (x2.trans (by omega) x3)) 9)
  by_cases hl : 64 ≤ l.length
  · have hadm : admP size l k w = (l, [], 7) := by unfold admP; rw [if_neg (by rw [hr]; simp), if_neg hk, if_pos hl]
    have hobt := g2.sl
    obtain ⟨a, c, rfl, -, -⟩ := hobt
    rw [List.length_map] at g1
    have hl' : (64 : Int) ≤ l.length := by omega
    refine code19.call (by simp) fun hwf => ?_
    unfold c19
    simp [hwl, hwt, ← hA1]
    refine CN.use (good_ok g1) ?_
    rintro _ A2 hw2 hn2 ⟨rfl, rfl⟩
    simp [k1]
    refine CN.use (find_ok h1 k) ?_
    rintro _ A2 hw2 hn2 ⟨x2, p, hp, rfl⟩
    simp [x2.get w1 r1, hwl, hwt]
    refine CN.use (right_ok w _) ?_
    rintro _ A3 hw3 hn3 ⟨rfl, x3⟩
    simp [hr, hk, x3.get hw2 (x2.get w1 g1), hl']
    rw [hadm]
    exact DN.of (AdmQ.no h hwf (x1.trans (by omega) (x2.trans (by omega) x3)) 7)
  have hadN : adm size k w.setup ⟨k, w⟩ l = none → admP size l k w = (l, [], 14) := fun e => by unfold admP; rw [if_neg (by rw [hr]; simp), if_neg hk, if_neg hl, e]
  have hadS : ∀ now, adm size k w.setup ⟨k, w⟩ l = some now → admP size l k w = (insE now ⟨k, w⟩, goneK l now, 0) := fun now e => by unfold admP; rw [if_neg (by rw [hr]; simp), if_neg hk, if_neg hl, e]
  have hobt := g2.sl
  obtain ⟨a, c, rfl, g3, -⟩ := hobt
  rw [List.length_map] at g1
  have hl' : ¬ (64 : Int) ≤ l.length := by omega
  have hz1 : (spl [Value.int .i64 0, .int .i64 0, .int .i64 0, .int .i64 0, .int .u64 0, .int .i64 0, .int .i64 0, .int .u32 0, .int .u32 0, .int .u32 0] 0 k.enc).length = 10 := rfl
  have hobx : ∃ x : En, x = ⟨k, w⟩ := ⟨_, rfl⟩
  obtain ⟨x, hx⟩ := hobx
  have hxk : x.k = k := by rw [hx]
  have hxw : x.w = w := by rw [hx]
  rw [← hx] at hadN hadS
  have hz2 : spl (spl [Value.int .i64 0, .int .i64 0, .int .i64 0, .int .i64 0, .int .u64 0, .int .i64 0, .int .i64 0, .int .u32 0, .int .u32 0, .int .u32 0] 0 k.enc) 4 w.enc = x.enc := by rw [hx]; rfl
  have hobt := x.cells
  obtain ⟨hxl, hxo, -, -, hxt⟩ := hobt
  have hk' := hk
  simp at hk'
  refine code19.call (by simp) fun hwf => ?_
  unfold c19
  simp [hwl, hwt, ← hA1]
  refine CN.use (good_ok g1) ?_
  rintro _ A2 hw2 hn2 ⟨rfl, rfl⟩
  simp [k1]
  refine CN.use (find_ok h1 k) ?_
  rintro _ A2 hw2 hn2 ⟨x2, p, hp, rfl⟩
  simp [x2.get w1 r1, hwl, hwt]
  refine CN.use (right_ok w _) ?_
  rintro _ A3 hw3 hn3 ⟨rfl, x3⟩
  have x13 := x2.trans (by omega) x3
  have x03 := x1.trans (by omega) x13
  have g13 := x13.get w1 g1
  have k13 := x13.get w1 k1
  have r13 := x13.get w1 r1
  have h3 := h1.ext w1 x13
  have s3 := g3.ext w1 x13
  simp [hr, hk', g13, hl', k13, r13, hwl, hwt, hz1, hz2, hxl, hxt]
  refine CN.use (clonee_ok s3 (by omega)) ?_
  rintro v4 A4 hw4 hn4 ⟨x4, ob4, q4, f4⟩
  have x14 := x13.trans (by omega) x4
  have k14 := x14.get w1 k1
  have r14 := x14.get w1 r1
  have g14 := x14.get w1 g1
  have hobx : ∃ B4, B4 = A4.alloc (.row x.enc 63 false) := ⟨_, rfl⟩
  obtain ⟨B4, hB4⟩ := hobx
  have wb4 : B4.wf := by rw [hB4]; exact AH.wf_alloc hw4 _
  have nb4 : B4.next = A4.next + 1 := by rw [hB4]; rfl
  have xb4 : Ext A4 B4 := by rw [hB4]; exact Ext.alloc A4 _
  have lb4 := q4.kept (A' := B4) fun b hb => xb4 b (q4.lt hw4 hb)
  have rb4 : B4.get A4.next = some (.row x.enc 63 false) := by rw [hB4, AH.get_new]
  have hne4 : ob4 ≠ some A4.next := fun e => by have := q4.lt hw4 e; omega
  have hxo' : x.enc.all oneB = true := List.all_eq_true.2 hxo
  simp [k14, r14, hwl, hwt, g14, hz1, hz2, hxl, hxt, ← hB4]
  refine CN.use (insert_ok lb4 rb4 hne4 ⟨hxl, hxo'⟩ (by rw [List.length_map]; exact hp.1) (by rw [List.length_map]; omega)) ?_
  rintro v5 A5 hw5 hn5 ⟨b5, q5, f5, f5'⟩
  have hins : (l.map En.enc).take p ++ x.enc :: (l.map En.enc).drop p = (insE l x).map En.enc := by rw [← insE_pos (by rw [hxk]; exact hp)]; simp
  rw [hins] at q5
  have hobt := q5.slm
  obtain ⟨a5, c5, rfl, s5⟩ := hobt
  have hL1 : (insE l x).length = l.length + 1 := insE_len l x
  have x05 : Ext A A5 := fun b hb => by rw [f5 b (by omega) (fun e => by have := f4 b e; omega), xb4 b (by omega), x4 b (by omega), x03 b hb]
  simp
  refine CN.use (families_ok s5 (by omega)) ?_
  rintro v6 B hwB hnB ⟨x6, ps, G, O, oball, F, hG⟩
  have x0B := x05.trans (by omega) x6
  have hfam := F.famR hwB
  have hgo := grp_ok (l := insE l x) (fun y hy => by
    rcases (insE_mem _ _ _).1 hy with e | hy
    · rw [e]; exact ⟨by rw [hxw]; exact hr, by rw [hxw]; exact hbw⟩
    · exact h.ok.ok y hy)
  obtain ⟨hgo1, hgo2⟩ := hgo
  have hpl : ps.length ≤ 65 := by
    have := congrArg List.length hG
    rw [List.length_map] at this
    have h2 := grp_len (insE l x)
    omega
  have hGne : ∀ p ∈ ps, G p ≠ [] := fun p hp => grp_ne (insE l x) _ (by rw [← hG]; exact List.mem_map.2 ⟨p, hp, rfl⟩)
  have hGlen : ∀ p ∈ ps, (G p).length ≤ 65 := fun p hp => by
    have := grp_one (l := insE l x) (g := G p) (by rw [← hG]; exact List.mem_map.2 ⟨p, hp, rfl⟩)
    omega
  have hobt := F.l.slm
  obtain ⟨a6, c6, rfl, s6⟩ := hobt
  -- what all that follows keeps of B
  have kB : B.get A.next = some (.row k.enc 23 false) := by rw [x6 _ (by omega), f5 _ (by omega) (fun e => by have := f4 _ e; omega), xb4 _ (by omega), k14]
  have rB : B.get (A.next + 1) = some (.row w.enc 33 false) := by rw [x6 _ (by omega), f5 _ (by omega) (fun e => by have := f4 _ e; omega), xb4 _ (by omega), r14]
  have gB : B.get t = some (.row [.bool true, .int .u64 size, .slice a l.length c] 70 false) := by rw [x6 _ (by omega), f5 _ (by omega) (fun e => by have := f4 _ e; omega), xb4 _ (by omega), g14]
  have hobB : ∀ b, oball = some b → A5.next ≤ b ∧ b < B.next := fun b e => ⟨F.ob b e, F.l.lt hwB e⟩
  simp
  refine LN.use (fun m E A' => ∃ (i : Nat) (vw : Value), m + i = ps.length ∧ (∀ b, b < B.next → A'.get b = B.get b) ∧ B.next ≤ A'.next ∧ Own B.next A' 86 1 vw (((ps.take i).filter fun p => candB k w.setup (G p)).map ptrE) ∧ E.get 0 = .pointer (some ⟨t, 0, none⟩) ∧ E.get 4 = .pointer (some ⟨A.next, 0, none⟩) ∧ E.get 5 = .pointer (some ⟨A.next + 1, 0, none⟩) ∧ E.get 10 = .slice a6 ps.length c6 ∧ E.get 11 = vw ∧ E.get 56 = .slice a6 ps.length c6 ∧ E.get 57 = .int .i64 ps.length ∧ E.get 58 = .int .i64 i) ps.length
    ⟨0, _, by omega, fun _ _ => rfl, Nat.le_refl _, Own.nil _ _ _ _, by simp, by simp, by simp, by simp, by simp, by simp, by simp, by simp⟩ ?_
  rintro m E C hwC hnC ⟨i, vw, hi, eC, -, ow, E0, E4, E5, E10, E11, E56, E57, E58⟩
  by_cases hlt : i < ps.length
  · have hlt' : (i : Int) < ps.length := by omega
    have hgi : IntKind.i64.wrap ((i : Int) + 1) = ((i + 1 : Nat) : Int) := by rw [i64_in (by omega) (by omega)]; simp
    have xBC : Ext B C := eC
    have hobx : ∃ f, f = ps[i]'hlt := ⟨_, rfl⟩
    obtain ⟨f, hf⟩ := hobx
    have hfm : f ∈ ps := by rw [hf]; exact List.getElem_mem hlt
    have hobt := (s6.ext hwB xBC).one (i := i) (v := ptrV f) (by rw [List.getElem?_map, List.getElem?_eq_getElem hlt, ← hf]; rfl)
    obtain ⟨b, o, cs, q, rfl, u1, u2⟩ := hobt
    have hobt := hfam f hfm
    obtain ⟨-, fa, fc, y1, y2, -⟩ := hobt
    have hobt := Sl.fst (y2.ext hwB xBC) (hGne f hfm)
    obtain ⟨b7, o7, cs7, q7, rfl, z1, z2, z3⟩ := hobt
    have y1' := xBC.get hwB y1
    simp only [famC] at y1'
    have kC := xBC.get hwB kB
    have rC := xBC.get hwB rB
    have hgl : 0 < (G f).length := List.length_pos_iff.2 (hGne f hfm)
    have z2' : o7 + 4 ≤ cs7.length := by omega
    have w1' : w.enc[1]'(by rw [hwl]; omega) = .int .i64 w.setup := rfl
    have htk : (ps.take (i + 1)).filter (fun p => candB k w.setup (G p)) = ((ps.take i).filter fun p => candB k w.setup (G p)) ++ if candB k w.setup (G f) = true then [f] else [] := by
      rw [List.take_succ_eq_append_getElem hlt, ← hf, List.filter_append, List.filter_cons]
      split <;> simp
    simp [E0, E4, E5, E10, E11, E56, E57, E58, hlt, hlt', u1, u2, ptrV, y1', hgl, z1, z2', z3, kC, rC, hwl]
    refine CN.use (kin_ok (gkey (G f)) k C) ?_
    rintro _ D hwD hnD ⟨rfl, xD⟩
    have eD : ∀ b, b < B.next → D.get b = B.get b := fun b hb => by rw [xD b (by omega), eC b hb]
    have owD := ow.ext hwC xD
    have rD := xD.get hwC rC
    have yD := xD.get hwC y1'
    have hbool := Bool.eq_false_or_eq_true ((gkey (G f)).kin k)
    rcases hbool with hkn | hkn
    · have hc : candB k w.setup (G f) = false := by simp [candB, hkn]
      rw [hc] at htk
      simp at htk
      simp [hkn, E58, hgi]
      exact NX.of ⟨m - 1, by omega, i + 1, vw, by omega, eD, by omega, by rw [htk]; exact owD, by simp [E0], by simp [E4], by simp [E5], by simp [E10], by simp [E11], by simp [E56], by simp [E57], by simp⟩
    · by_cases hh : w.setup < holdG (G f)
      · have hc : candB k w.setup (G f) = true := by simp [candB, hkn, hh]
        rw [hc, if_pos rfl] at htk
        obtain ⟨v', D2, p1, p2, p3, p4⟩ := own_push (y := 8) owD hwD (by omega) (r := ptrE f) ⟨rfl, rfl⟩ (by omega) (by omega) (by
          rw [List.length_map]
          have := List.length_filter_le (fun p => candB k w.setup (G p)) (ps.take i)
          rw [List.length_take] at this; omega)
        simp only [ptrE] at p1
        simp [hkn, hh, E4, E5, E11, E58, hgi, yD, rD, hwl, w1', p1]
        exact NX.of ⟨m - 1, by omega, i + 1, v', by omega, fun b hb => by rw [p4 b hb, eD b hb], by omega, by rw [htk, List.map_append]; exact p2, by simp [E0], by simp [E4], by simp [E5], by simp [E10], by simp, by simp [E56], by simp [E57], by simp⟩
      · have hc : candB k w.setup (G f) = false := by simp [candB, hkn, hh]
        rw [hc] at htk
        simp at htk
        simp [hkn, hh, E4, E5, E11, E58, hgi, yD, rD, hwl, w1']
        exact NX.of ⟨m - 1, by omega, i + 1, vw, by omega, eD, by omega, by rw [htk]; exact owD, by simp [E0], by simp [E4], by simp [E5], by simp [E10], by simp [E11], by simp [E56], by simp [E57], by simp⟩
  · have hlt' : ¬ (i : Int) < ps.length := by omega
    rw [List.take_of_length_le (by omega)] at ow
    have hobt := own_lq ow
    obtain ⟨obw, lqw, fw⟩ := hobt
    have hobx : ∃ qs0, qs0 = ps.filter (fun p => candB k w.setup (G p)) := ⟨_, rfl⟩
    obtain ⟨qs0, hq0⟩ := hobx
    rw [← hq0] at lqw
    have hq0l : qs0.length ≤ ps.length := by rw [hq0]; exact List.length_filter_le _ _
    have hq0m : ∀ p ∈ qs0, p ∈ ps := fun p hp => by rw [hq0] at hp; exact (List.mem_filter.1 hp).1
    have ssf : SSF (fun p => p ∈ ps) C C obw vw qs0.toArray := ⟨by simpa using lqw, fun _ _ _ => rfl, Nat.le_refl _, fun i hi => by
      rw [getElem!_pos qs0.toArray i hi]; exact hq0m _ (by simp), by simp; omega⟩
    have hswo : Sort.SWO fun p q => wrs (G p) (G q) := ⟨fun x => wrs_swo.1 _, fun x y z => wrs_swo.2 _ _ _, fun x y z => wrs_swo.3 _ _ _⟩
    have hcmp : CmpF C obw (fun p => p ∈ ps) (fun p q => wrs (G p) (G q)) 44 := fun A1 e1 n1 x y hx hy => by
      have kk : ∀ b, Foot A5.next B.next oball b → A1.get b = B.get b := fun b hb => by
        have := hb.2.1
        rw [e1 b (by omega) (fun e => by have := fw b e; omega), eC b hb.2.1]
      exact worse_ok ((hfam x hx).kept kk) ((hfam y hy).kept kk) (hGne x hx) (hGne y hy)
    simp [E0, E4, E5, E10, E11, E56, E57, E58, hlt, hlt']
    refine CN.use (sortF_ok hswo hcmp ssf (by simp; omega)) ?_
    rintro _ D hwD hnD ⟨d', hd1, hd2, ssD⟩
    have hsl := sort_list hd1 hd2
    have hobx : ∃ qs, qs = d'.toList := ⟨_, rfl⟩
    obtain ⟨qs, hqs⟩ := hobx
    rw [← hqs] at hsl
    obtain ⟨hqp, hqw⟩ := hsl
    have lqD := ssD.lq
    rw [← hqs] at lqD
    have hobt := lq_cap lqD
    obtain ⟨aw, cw, rfl, sw, cpw, fw2⟩ := hobt
    rw [List.length_map] at cpw
    have eD : ∀ b, b < B.next → D.get b = B.get b := fun b hb => by rw [ssD.ko b (by omega) (fun e => by have := fw b e; omega), eC b hb]
    have hst := AdmS.start (size := size) (k := k) (w := w) (l := l) (G := G) (ps := ps) (qs := qs) (by rw [hG, hx]) F.nd (by rw [← hq0]; exact hqp) hqw
    have lqall : Lq D 86 1 oball (.slice a6 ps.length c6) (ps.map ptrE) := by
      have := Lst.lq F.l
      exact this.kept fun b hb => eD b (hobB b hb).2
    have hwb : ∀ b o, aw = some ⟨b, o, none⟩ → B.next ≤ b ∧ b < D.next := fun b o e => ⟨fw b (fw2 b o e), lqD.lt hwD (fw2 b o e)⟩
    simp [E0, E10, E11]
    have hholds : ∀ ps' : List Nat, (∀ p ∈ ps', p ∈ ps) → HoldOk (ps'.map G) := fun ps' hsub g hg => by
      have hobt := List.mem_map.1 hg
      obtain ⟨p, hp, rfl⟩ := hobt
      exact hgo1 _ (by rw [← hG]; exact List.mem_map.2 ⟨p, hsub p hp, rfl⟩)
    have hbws : ∀ p ∈ ps, bwG (G p) < 18446744073709551616 := fun p hp => hgo2 _ (by rw [← hG]; exact List.mem_map.2 ⟨p, hp, rfl⟩)
    refine LN.join 3 (fun m E A' => ∃ (now : List En) (ps' qs' : List Nat) (gone : List Key) (vall vgone : Value) (aw : Option Addr) (cw : Nat), m = now.length ∧ AdmS size k w l G now ps' qs' gone ∧ (∀ p ∈ ps', p ∈ ps) ∧ ps'.length ≤ ps.length ∧ (∀ b, b < D.next → oball ≠ some b → A'.get b = D.get b) ∧ D.next ≤ A'.next ∧ Lq A' 86 1 oball vall (ps'.map ptrE) ∧ Sl A' 86 1 aw (qs'.map ptrE) ∧ CapOk A' 86 aw qs'.length cw ∧ (∀ b o, aw = some ⟨b, o, none⟩ → B.next ≤ b ∧ b < D.next) ∧ Own D.next A' 23 4 vgone (gone.map Key.enc) ∧ E.get 0 = .pointer (some ⟨t, 0, none⟩) ∧ E.get 10 = vall ∧ E.get 11 = .slice aw qs'.length cw ∧ E.get 14 = vgone) l.length
      (fun E A' => A'.wf ∧ ∃ (now : List En) (ps' qs' : List Nat) (gone : List Key) (vall vgone : Value), AdmS size k w l G now ps' qs' gone ∧ (∀ p ∈ ps', p ∈ ps) ∧ ps'.length ≤ ps.length ∧ tot (ps'.map G) ≤ size ∧ (∀ b, b < D.next → oball ≠ some b → A'.get b = D.get b) ∧ D.next ≤ A'.next ∧ Lq A' 86 1 oball vall (ps'.map ptrE) ∧ Own D.next A' 23 4 vgone (gone.map Key.enc) ∧ E.get 0 = .pointer (some ⟨t, 0, none⟩) ∧ E.get 10 = vall ∧ E.get 14 = vgone)
      ⟨l, ps, qs, [], _, _, aw, cw, rfl, hst, fun _ h => h, Nat.le_refl _, fun _ _ _ => rfl, Nat.le_refl _, lqall, sw, cpw, hwb, Own.nil _ _ _ _, by simp [E0], by simp [E10], by simp [E11], by simp⟩ ?_ ?_
    · clear E0 E4 E5 E10 E11 E56 E57 E58
      rintro m E A2 hw2 hn2 ⟨now, ps', qs', gone, vall, vgone, aw, cw, hm, hS, hsub, hpsl, e2, n2, lq2, sw2, cp2, hwb2, og2, E0, E10, E11, E14⟩
      have eB2 : ∀ b, b < B.next → oball ≠ some b → A2.get b = B.get b := fun b h1 h2 => by rw [e2 b (by omega) h2, eD b h1]
      have kk2 : ∀ b, Foot A5.next B.next oball b → A2.get b = B.get b := fun b hb => eB2 b hb.2.1 hb.2.2
      have hot : oball ≠ some t := fun e => by have := hobB t e; omega
      have gt2 := (eB2 t (by omega) hot).trans gB
      have hobt := lq2.sl
      obtain ⟨aa, ca, rfl, sa2, -⟩ := hobt
      rw [List.length_map] at lq2 E10
      have hfam2 : ∀ p ∈ ps', FamR (Foot A5.next B.next oball) A2 p (G p) := fun p hp => (hfam p (hsub p hp)).kept kk2
      have hbk := booked_ok (c := ca) sa2 (fun b hb => by have := hb.2.1; omega) hfam2 (hholds ps' hsub) (fun p hp => hbws p (hsub p hp)) h.ok.sz (by omega)
      simp [E0, E10, gt2]
      refine CN.use hbk ?_
      rintro _ A3 hw3 hn3 ⟨x3, bl, hb8, rfl, hbl⟩
      have hbll : bl.enc.length = 9 := by simp [Ld.enc, hb8]
      have hblo : bl.enc.all oneB = true := by simp [Ld.enc]
      have hblt : bl.enc.take 9 = bl.enc := List.take_of_length_le (by omega)
      have hobx : ∃ B3, B3 = A3.alloc (.row bl.enc 48 false) := ⟨_, rfl⟩
      obtain ⟨B3, hB3⟩ := hobx
      have w3 : B3.wf := by rw [hB3]; exact AH.wf_alloc hw3 _
      have nB3 : B3.next = A3.next + 1 := by rw [hB3]; rfl
      have xB3 : Ext A2 B3 := by rw [hB3]; exact x3.app hn3 _
      have e3 : ∀ b, b < D.next → oball ≠ some b → B3.get b = D.get b := fun b h1 h2 => by rw [xB3 b (by omega), e2 b h1 h2]
      have lq3 := lq2.kept (A' := B3) fun b hb => xB3 b (lq2.lt hw2 hb)
      have og3 := og2.ext hw2 xB3
      have hblo' : ∀ x ∈ bl.enc, oneB x = true := List.all_eq_true.1 hblo
      by_cases hfit : tot (ps'.map G) ≤ size
      · simp [hfit, hbll, hblt, ← hB3]
        refine ⟨hblo', ?_⟩
        exact NX.of ⟨w3, now, ps', qs', gone, _, vgone, hS, hsub, hpsl, hfit, e3, by omega, lq3, og3, by simp [E0], by simp [E10], by simp [E14]⟩
      · have hqc : qs' = [] ∨ ∃ q qs'', qs' = q :: qs'' := by cases qs' with
          | nil => exact Or.inl rfl
          | cons q r => exact Or.inr ⟨q, r, rfl⟩
        rcases hqc with rfl | ⟨q, qs'', rfl⟩
        · have hnone := hS.none h.ok.srt hk hfit
          rw [← hx] at hnone
          have hadm := hadN hnone
          have x0E : Ext A B3 := fun b hb => by rw [e3 b (by omega) (fun e => by have := hobB b e; omega), eD b (by omega), x0B b hb]
          simp [hfit, hbll, hblt, ← hB3, E11]
          refine ⟨hblo', ?_⟩
          rw [hadm]
          exact DN.of (AdmQ.no h hwf x0E 14)
        · have hqm : q ∈ ps' := (List.mem_filter.1 (hS.way.subset (List.mem_cons_self))).1
          have hobt := List.mem_iff_getElem.1 hqm
          obtain ⟨j, hj, hjq⟩ := hobt
          have hjq' : ps'[j]? = some q := by rw [List.getElem?_eq_getElem hj, hjq]
          have hS2 := hS.step h.ok.srt hk hfit hjq'
          have hrl : (rmv now (G q)).length < now.length := by
            have := hS2.gone.length_eq
            have h2 := hS.gone.length_eq
            have h3 := List.length_pos_iff.2 (hGne q (hsub q hqm))
            simp at this h2; omega
          have sw3 : Sl B3 86 1 aw ((q :: qs'').map ptrE) := sw2.ext hw2 xB3
          have cp3 : CapOk B3 86 aw (qs''.length + 1) cw := cp2.ext hw2 xB3
          rw [List.map_cons] at sw3
          have hobx : ∃ C3, C3 = B3.alloc (.row [ptrV q] 86 false) := ⟨_, rfl⟩
          obtain ⟨C3, hC3⟩ := hobx
          have wC3 : C3.wf := by rw [hC3]; exact AH.wf_alloc w3 _
          have nC3 : C3.next = B3.next + 1 := by rw [hC3]; rfl
          have xC3 : Ext B3 C3 := by rw [hC3]; exact Ext.alloc B3 _
          have htl2 := sl_tail (P := Try.prog) (sw3.ext w3 xC3) (by rw [List.length_map]; exact cp3.ext w3 xC3) sz86
          obtain ⟨wb, wo, wo', wc', rfl, hsl4, sw4, cp4⟩ := htl2
          rw [List.length_map] at hsl4 cp4
          have hobt := sw3.one (i := 0) (v := ptrV q) rfl
          obtain ⟨b, o, cs, qq, hab, u1, u2⟩ := hobt
          injection hab with hab; injection hab with hab hoo _; subst hab; subst hoo
          have rC3 : C3.get B3.next = some (.row [ptrV q] 86 false) := by rw [hC3, AH.get_new]
          have eC3 : ∀ b, b < D.next → oball ≠ some b → C3.get b = D.get b := fun b h1 h2 => by rw [xC3 b (by omega), e3 b h1 h2]
          have lqC3 := lq3.kept (A' := C3) fun b hb => xC3 b (by have := hobB b hb; omega)
          have hfam3 : ∀ p ∈ ps', FamR (Foot A5.next B.next oball) C3 p (G p) := fun p hp => (hfam p (hsub p hp)).kept fun b hb => by rw [eC3 b (by have := hb.2.1; omega) hb.2.2, eD b hb.2.1]
          have hdel := deletef_ok (pb := B3.next) lqC3 (fun b hb => hb.2.2) hfam3 rC3 (fun e => by have := hobB _ e; omega) (by omega) hjq' hS.nd
          simp only [ptrV, Nat.add_zero] at hC3 u2
          have hq1 : ¬ (qs''.length : Int) + 1 = 0 := by omega
          simp [hfit, hbll, hblt, ← hB3, E0, E10, E11, E14, u1, u2, hsl4, ← hC3, hq1]
          refine ⟨hblo', ?_⟩
          refine CN.use hdel ?_
          rintro v4 A4 hw4 hn4 ⟨lq4, e4⟩
          have e4' : ∀ b, b < D.next → oball ≠ some b → A4.get b = D.get b := fun b h1 h2 => by rw [e4 b h2, eC3 b h1 h2]
          have rA4 : A4.get B3.next = some (.row [.pointer (some ⟨q, 0, none⟩)] 86 false) := by rw [e4 _ (fun e => by have := hobB _ e; omega)]; exact rC3
          have hobt := (hfam q (hsub q hqm)).kept (A' := A4) fun b hb => by rw [e4' b (by have := hb.2.1; omega) hb.2.2, eD b hb.2.1]
          obtain ⟨-, fa, fc, y1, y2, y3⟩ := hobt
          simp only [famC] at y1
          have og4 : Own D.next A4 23 4 vgone (gone.map Key.enc) := own_kept (own_kept og3 fun b x h1 h2 => by rw [xC3 b (w3 _ _ h2)]) fun b x h1 h2 => e4 b (fun e => by have := hobB b e; omega)
          have sw5 : Sl A4 86 1 (some ⟨wb, wo', none⟩) (qs''.map ptrE) := sw4.kept fun b o x h1 h2 => by
            injection h1 with h1; injection h1 with h1 _ _; subst h1
            have := hwb2 wb wo rfl
            rw [e4 wb (fun e => by have := hobB _ e; omega)]
          have cp5 : CapOk A4 86 (some ⟨wb, wo', none⟩) qs''.length wc' := cp4.kept fun b o x h1 h2 => by
            injection h1 with h1; injection h1 with h1 _ _; subst h1
            have := hwb2 wb wo rfl
            rw [e4 wb (fun e => by have := hobB _ e; omega)]
          have hwb5 := hwb2 wb wo rfl
          have hGq := hGlen q (hsub q hqm)
          have hgl2 := hS2.glen
          rw [List.length_append, List.length_map] at hgl2
          have nA4 : B3.next + 1 ≤ A4.next := by omega
          simp [rA4, y1, E0, E10, E11, E14]
          refine LN.use (fun m E A' => ∃ (i : Nat) (vg : Value), m + i = (G q).length ∧ (∀ b, b < D.next → A'.get b = A4.get b) ∧ A4.next ≤ A'.next ∧ Own D.next A' 23 4 vg ((gone ++ ((G q).take i).map En.k).map Key.enc) ∧ E.get 0 = .pointer (some ⟨t, 0, none⟩) ∧ E.get 10 = v4 ∧ E.get 11 = .slice (some ⟨wb, wo', none⟩) qs''.length wc' ∧ E.get 14 = vg ∧ E.get 112 = .slice fa (G q).length fc ∧ E.get 113 = .int .i64 (G q).length ∧ E.get 114 = .int .i64 i) (G q).length
            ⟨0, vgone, by omega, fun _ _ => rfl, Nat.le_refl _, by simpa using og4, by simp [E0], by simp, by simp, by simp [E14], by simp, by simp, by simp⟩ ?_
          clear E0 E10 E11 E14
          rintro m5 E A5' hw5' hn5' ⟨i5, vg, hi5, e5, n5, og5, E0, E10, E11, E14, E112, E113, E114⟩
          have y25 : Sl A5' 63 10 fa ((G q).map En.enc) := y2.kept fun b o x h1 h2 => by
            have := (y3 b o h1).2.1
            exact e5 b (by omega)
          by_cases hlt : i5 < (G q).length
          · have hlt' : (i5 : Int) < (G q).length := by omega
            have hgi : IntKind.i64.wrap ((i5 : Int) + 1) = ((i5 + 1 : Nat) : Int) := by rw [i64_in (by omega) (by omega)]; simp
            have hobt := y25.at (i := i5) (by simpa using hlt)
            obtain ⟨b6, o6, cs6, q6, rfl, z1, z2, z3⟩ := hobt
            rw [List.getElem_map] at z3
            have hobx : ∃ y, y = (G q)[i5]'hlt := ⟨_, rfl⟩
            obtain ⟨y, hy⟩ := hobx
            rw [← hy] at z3
            have hobt := y.cells
            obtain ⟨hyl, hyo, hy4, -, hyt⟩ := hobt
            have hobx : ∃ A6', A6' = A5'.alloc (.row y.enc 63 false) := ⟨_, rfl⟩
            obtain ⟨A6', hA6⟩ := hobx
            have wA6 : A6'.wf := by rw [hA6]; exact AH.wf_alloc hw5' _
            have nA6 : A6'.next = A5'.next + 1 := by rw [hA6]; rfl
            have xA6 : Ext A5' A6' := by rw [hA6]; exact Ext.alloc A5' _
            have rA6 : A6'.get A5'.next = some (.row y.enc 63 false) := by rw [hA6, AH.get_new]
            have og6 := og5.ext hw5' xA6
            have hpush := own_push (y := 32) og6 wA6 (by omega) (r := y.k.enc) ⟨rfl, rfl⟩ (by omega) (by omega) (by
              rw [List.length_map, List.length_append, List.length_map, List.length_take]; omega)
            obtain ⟨v7, A7, p1, p2, p3, p4⟩ := hpush
            have htk : (G q).take (i5 + 1) = (G q).take i5 ++ [y] := by rw [List.take_succ_eq_append_getElem hlt, hy]
            simp [E0, E10, E11, E14, E112, E113, E114, hlt, hlt', z1, z2, z3, hyl, hyt, ← hA6, hy4, rA6, p1, hgi]
            refine ⟨hyo, ?_⟩
            exact NX.of ⟨m5 - 1, by omega, i5 + 1, v7, by omega, fun b hb => by rw [p4 b hb, xA6 b (by omega), e5 b hb], by omega, by rw [htk]; simpa using p2, by simp [E0], by simp [E10], by simp [E11], by simp, by simp [E112], by simp [E113], by simp⟩
          · have hlt' : ¬ (i5 : Int) < (G q).length := by omega
            rw [List.take_of_length_le (by omega)] at og5
            simp [E0, E10, E11, E14, E112, E113, E114, hlt, hlt']
            have hwb5' := hwb5
            exact NX.of ⟨(rmv now (G q)).length, by omega, rmv now (G q), ps'.eraseIdx j, qs'', gone ++ (G q).map En.k, v4, vg, some ⟨wb, wo', none⟩, wc', rfl, hS2, fun p hp => hsub p (List.mem_of_mem_eraseIdx hp), by rw [List.length_eraseIdx]; split <;> omega, fun b h1 h2 => by rw [e5 b h1, e4' b h1 h2], by omega, lq4.kept (fun b hb => e5 b (by have := hobB b hb; omega)), sw5.kept (fun b o x h1 h2 => by injection h1 with h1; injection h1 with h1 _ _; subst h1; exact e5 wb (by omega)), cp5.kept (fun b o x h1 h2 => by injection h1 with h1; injection h1 with h1 _ _; subst h1; exact e5 wb (by omega)), fun b o h1 => by injection h1 with h1; injection h1 with h1 _ _; subst h1; exact hwb5, og5, by simp [E0], by simp [E10], by simp [E11], by simp [E14]⟩
    · clear E0 E4 E5 E10 E11 E56 E57 E58
      rintro E A2 ⟨hw2, now, ps', qs', gone, vall, vgone, hS, hsub, hpsl, hfit, e2, n2, lq2, og2, E0, E10, E14⟩
      have hgl := hS.glen
      have hobt := own_lq og2
      obtain ⟨obg, lqg, fg⟩ := hobt
      have ssk : SSK (fun _ => True) A2 A2 obg vgone gone.toArray := ⟨by simpa using lqg, fun _ _ _ => rfl, Nat.le_refl _, fun i hi => trivial, by simp; omega⟩
      simp [E0, E10, E14]
      refine CN.use (sortK_ok bef_swo (order_cmp A2 obg) ssk (by simp; omega)) ?_
      rintro _ A3 hw3 hn3 ⟨d3, hd1, hd2, ss3⟩
      have hsl3 := sort_list hd1 hd2
      obtain ⟨hgp, hgw⟩ := hsl3
      have hgone := admP_gone hS h.ok.srt hgp hgw
      have lq3 := ss3.lq
      rw [hgone] at lq3
      have hdone := hS.done hfit
      rw [← hx] at hdone
      have hadm := hadS now hdone
      have e3 : ∀ b, b < D.next → oball ≠ some b → A3.get b = D.get b := fun b h1 h2 => by rw [ss3.ko b (by omega) (fun e => by have := fg b e; omega), e2 b h1 h2]
      have hot : oball ≠ some t := fun e => by have := hobB t e; omega
      have gt3 : A3.get t = some (.row [.bool true, .int .u64 size, .slice a l.length c] 70 false) := by rw [e3 t (by omega) hot, eD t (by omega), gB]
      have hobx : ∃ A4, A4 = A3.set t (.row [.bool true, .int .u64 size, .slice none 0 0] 70 false) := ⟨_, rfl⟩
      obtain ⟨A4, hA4⟩ := hobx
      have wA4 : A4.wf := by rw [hA4]; exact AH.wf_set hw3 (by omega) _
      have nA4 : A4.next = A3.next := by rw [hA4]; rfl
      have gt4 : A4.get t = some (.row [.bool true, .int .u64 size, .slice none 0 0] 70 false) := by rw [hA4, AH.get_set, if_pos rfl]
      have e4 : ∀ b, b ≠ t → A4.get b = A3.get b := fun b hb => by rw [hA4, AH.get_set, if_neg hb]
      have hobgt : obg ≠ some t := fun e => by have := fg t e; omega
      have lq4 := lq3.kept (A' := A4) fun b hb => e4 b (fun e => hobgt (by rw [hb, e]))
      have lqa4 : Lq A4 86 1 oball vall (ps'.map ptrE) := lq2.kept fun b hb => by
        have := hobB b hb
        rw [e4 b (by omega), ss3.ko b (by omega) (fun e => by have := fg b e; omega)]
      have hobt := lqa4.sl
      obtain ⟨aa, ca, rfl, sa4, haa⟩ := hobt
      rw [List.length_map] at E10
      simp [gt3, ← hA4, E0, E10]
      have hsubf : ∀ (n : Nat), (((ps'.take n).map G).flatten).length ≤ 65 := fun n => by
        have h2 : (ps'.map G).flatten.length ≤ l.length + 1 := by
          rw [hS.gr, grp_flat, insE_len]
          have := hS.sub.length_le
          omega
        conv at h2 => lhs; rw [← List.take_append_drop n ps', List.map_append, List.flatten_append, List.length_append]
        omega
      refine LN.use (fun m E A' => ∃ (i : Nat) (tv : Value), m + i = ps'.length ∧ A'.get t = some (.row [.bool true, .int .u64 size, tv] 70 false) ∧ Own A4.next A' 63 10 tv ((((ps'.take i).map G).flatten).map En.enc) ∧ (∀ b, b < A4.next → b ≠ t → A'.get b = A4.get b) ∧ A4.next ≤ A'.next ∧ E.get 0 = .pointer (some ⟨t, 0, none⟩) ∧ E.get 14 = vgone ∧ E.get 129 = .slice aa ps'.length ca ∧ E.get 130 = .int .i64 ps'.length ∧ E.get 131 = .int .i64 i) ps'.length
        ⟨0, _, by omega, gt4, by simpa using Own.nil _ _ _ _, fun _ _ _ => rfl, Nat.le_refl _, by simp [E0], by simp [E14], by simp, by simp, by simp⟩ ?_
      clear E0 E10 E14
      rintro m E A5' hw5' hn5' ⟨i, tv, hi, gt5, og5, e5, n5, E0, E14, E129, E130, E131⟩
      by_cases hlt : i < ps'.length
      · have hlt' : (i : Int) < ps'.length := by omega
        have hgi : IntKind.i64.wrap ((i : Int) + 1) = ((i + 1 : Nat) : Int) := by rw [i64_in (by omega) (by omega)]; simp
        have hobx : ∃ f, f = ps'[i]'hlt := ⟨_, rfl⟩
        obtain ⟨f, hf⟩ := hobx
        have hfm : f ∈ ps' := by rw [hf]; exact List.getElem_mem hlt
        have sa5 : Sl A5' 86 1 aa (ps'.map ptrE) := sa4.kept fun b o x h1 h2 => by
          have hobt := haa b o h1
          obtain ⟨q1, -⟩ := hobt
          have := hobB b q1
          exact e5 b (wA4 _ _ h2) (by omega)
        have hobt := sa5.one (i := i) (v := ptrV f) (by rw [List.getElem?_map, List.getElem?_eq_getElem hlt, ← hf]; rfl)
        obtain ⟨b, o, cs, qq, rfl, u1, u2⟩ := hobt
        obtain ⟨-, fa, fc, y1, y2, -⟩ := (hfam f (hsub f hfm)).kept (A' := A5') fun b hb => by
          have hb1 := hb.1
          have hb2 := hb.2.1
          rw [e5 b (by omega) (by omega), e4 b (by omega), e3 b (by omega) hb.2.2, eD b hb2]
        simp only [famC] at y1
        have hs2 := hsubf (i + 1)
        have htk : ps'.take (i + 1) = ps'.take i ++ [f] := by rw [List.take_succ_eq_append_getElem hlt, hf]
        rw [htk] at hs2
        simp only [List.map_append, List.map_cons, List.map_nil, List.flatten_append, List.length_append, List.flatten_cons, List.flatten_nil, List.append_nil] at hs2
        have happ := own_all (y := 72) (c := fc) og5 (by omega) y2 (by omega) (by omega) (by rw [List.length_map, List.length_map]; omega)
        obtain ⟨v7, A7, p1, p2, p3, p4⟩ := happ
        rw [List.length_map] at p1
        have hobt := own_form p2
        obtain ⟨va7, vn7, vc7, rfl⟩ := hobt
        simp only [ptrV] at u2
        have gt7 : A7.get t = some (.row [.bool true, .int .u64 size, tv] 70 false) := by rw [p4 t (by omega), gt5]
        simp [E0, E129, E130, E131, hlt, hlt', u1, u2, gt5, y1, p1, gt7, hgi]
        refine NX.of ⟨m - 1, by omega, i + 1, _, by omega, by rw [AH.get_set, if_pos rfl], ?_, fun b h1 h2 => by rw [AH.get_set, if_neg h2, p4 b h1, e5 b h1 h2], by simp; omega, by simp [E0], by simp [E14], by simp [E129], by simp [E130], by simp⟩
        rw [htk]
        simp only [List.map_append, List.map_cons, List.map_nil, List.flatten_append, List.flatten_cons, List.flatten_nil, List.append_nil]
        exact own_kept p2 fun b x h1 _ => by rw [AH.get_set, if_neg (by omega)]
      · have hlt' : ¬ (i : Int) < ps'.length := by omega
        rw [List.take_of_length_le (by omega), hS.gr, grp_flat] at og5
        rw [← hx] at og5
        have hobt := own_lst og5
        obtain ⟨ob', lst5, f5⟩ := hobt
        simp [E14, E130, E131, hlt, hlt']
        rw [hadm]
        rw [hadm] at hok
        refine DN.of ⟨⟨vgone, obg, rfl, lq4.kept fun b hb => e5 b (lq4.lt wA4 hb) (fun e => hobgt (by rw [hb, e])), fun b hb => by have := fg b hb; omega⟩, ⟨ob', ⟨⟨tv, gt5, lst5⟩, hok⟩, Or.inr fun b hb => by have := f5 b hb; omega⟩, fun b h1 h2 => ?_⟩
        rw [e5 b (by omega) h2, e4 b h2, e3 b (by omega) (fun e => by have := hobB b e; omega), eD b (by omega), x0B b h1]
end Go.Proofs.Ytieehccjajhpfaa.AC
/- The reference: has, with, worse. -/
namespace Go.Proofs.Ytieehccjajhpfaa.AC
open Go Go.AI Go.Proofs Go.Proofs.Ytieehccjajhpfaa.AQ
set_option linter.unusedVariables false
set_option linter.unusedSimpArgs false
theorem at_key {cs : List Value} {o : Nat} {x : En} (h : (cs.drop o).take 10 = x.enc) : (cs.drop o).take 4 = x.k.enc := by
  have := at_head (n := 4) h (by omega)
  rw [this]; rfl
theorem rhas_ok {A : AH} {a : Option Addr} {c : Nat} {l : List En} (h : Sl A 78 10 a (l.map En.enc)) (hn : l.length ≤ 1000) (k : Key) : ACall Try.prog 35 [.slice a l.length c, .agg k.enc.toArray] A fun v A' => v = .bool (hasK l k) ∧ Ext A A' := by
  refine code35.call (by simp) fun hwf => ?_
  unfold c35
  have x1 := Ext.alloc A (.row k.enc 23 false)
  have r1 := AH.get_new A (.row k.enc 23 false)
  simp
  refine LN.use (fun m E A' => ∃ i : Nat, m + i = l.length ∧ Ext A A' ∧ A'.get A.next = some (.row k.enc 23 false) ∧ (∀ y ∈ l.take i, y.k ≠ k) ∧ E.get 0 = .slice a l.length c ∧ E.get 3 = .pointer (some ⟨A.next, 0, none⟩) ∧ E.get 5 = .int .i64 i) l.length
    ⟨0, by omega, x1, r1, by simp, by simp, by simp, by simp⟩ ?_
  rintro m E A1 hw1 hn1 ⟨i, hi, x2, r2, hno, E0, E3, E5⟩
  by_cases hlt : i < l.length
  · have hlt' : (i : Int) < l.length := by omega
    have hgi : IntKind.i64.wrap ((i : Int) + 1) = ((i + 1 : Nat) : Int) := by rw [i64_in (by omega) (by omega)]; simp
    have hobt := (h.ext hwf x2).at (i := i) (by simpa using hlt)
    obtain ⟨b, o, cs, q, rfl, g1, g2, g3⟩ := hobt
    rw [List.getElem_map] at g3
    have hobx : ∃ y, y = l[i]'hlt := ⟨_, rfl⟩
    obtain ⟨y, hy⟩ := hobx
    rw [← hy] at g3
    have g4 := at_key g3
    have g2' : o + i * 10 + 4 ≤ cs.length := by omega
    by_cases e : y.k = k
    · have hh : hasK l k = true := (hasK_iff _ _).2 ⟨y, by rw [hy]; exact List.getElem_mem hlt, e⟩
      simp [E0, E3, E5, hlt, hlt', g1, g2', g4, r2, e]
      exact DN.of ⟨by rw [hh], x2⟩
    · simp [E0, E3, E5, hlt, hlt', g1, g2', g4, r2, e, hgi]
      refine NX.of ⟨m - 1, by omega, i + 1, by omega, x2, r2, ?_, by simp [E0], by simp [E3], by simp⟩
      intro z hz
      rw [List.take_succ_eq_append_getElem hlt, List.mem_append] at hz
      rcases hz with hz | hz
      · exact hno z hz
      · rw [List.mem_singleton.1 hz, ← hy]; exact e
  · have hlt' : ¬ (i : Int) < l.length := by omega
    rw [List.take_of_length_le (by omega)] at hno
    have hh : hasK l k = false := by
      rw [← Bool.not_eq_true, hasK_iff]
      rintro ⟨y, hy, e⟩; exact hno y hy e
    simp [E0, E3, E5, hlt, hlt']
    exact DN.of ⟨by rw [hh], x2⟩
def famE (g : List En) : List Value := (gkey g).enc ++ [.int .u64 (bwG g), .int .i64 (holdG g)]
theorem famE_facts (g : List En) : (famE g).length = 6 ∧ (∀ v ∈ famE g, oneB v = true) ∧ (famE g).take 4 = (gkey g).enc ∧ (famE g).take 6 = famE g ∧ (famE g)[4]? = some (.int .u64 (bwG g)) ∧ (famE g)[5]? = some (.int .i64 (holdG g)) := ⟨rfl, List.all_eq_true.1 (rfl : (famE g).all oneB = true), rfl, rfl, rfl, rfl⟩
theorem rworse_ok (g h : List En) (A : AH) : ACall Try.prog 69 [.agg (famE g).toArray, .agg (famE h).toArray] A fun v A' => v = .bool (wrs g h) ∧ Ext A A' := by
  have hobt := famE_facts g
  obtain ⟨a1, a2, a3, a4, a5, a6⟩ := hobt
  have hobt := famE_facts h
  obtain ⟨b1, b2, b3, b4, b5, b6⟩ := hobt
  have c5 : (famE g)[4]'(by omega) = .int .u64 (bwG g) := rfl
  have c6 : (famE g)[5]'(by omega) = .int .i64 (holdG g) := rfl
  have d5 : (famE h)[4]'(by omega) = .int .u64 (bwG h) := rfl
  have d6 : (famE h)[5]'(by omega) = .int .i64 (holdG h) := rfl
  have x2 : Ext A ((A.alloc (.row (famE g) 99 false)).alloc (.row (famE h) 99 false)) := (Ext.alloc A _).app (by simp) _
  by_cases h1 : holdG g = holdG h
  rotate_left
  · refine code69.call (by simp) fun hwf => ?_
    unfold c69
    simp [a1, a4, b1, b4, c5, c6, d5, d6, h1]
    exact DN.of ⟨by congr 1; rw [Bool.eq_iff_iff, wrs_iff]; simp; omega, x2⟩
  by_cases h2 : bwG g = bwG h
  rotate_left
  · refine code69.call (by simp) fun hwf => ?_
    unfold c69
    have h2' : ¬ ((bwG g : Nat) : Int) = (bwG h : Nat) := by omega
    simp [a1, a4, b1, b4, c5, c6, d5, d6, h1, h2, h2']
    exact DN.of ⟨by congr 1; rw [Bool.eq_iff_iff, wrs_iff]; simp; omega, x2⟩
  · refine code69.call (by simp) fun hwf => ?_
    unfold c69
    simp [a1, a4, b1, b4, c5, c6, d5, d6, h1, h2, a3, b3]
    refine CN.use (rbefore_ok (gkey h) (gkey g) _) ?_
    rintro _ A3 hw3 hn3 ⟨rfl, x3⟩
    simp
    refine DN.of ⟨?_, x2.trans (by simp; omega) x3⟩
    congr 1
    rw [Bool.eq_iff_iff, wrs_iff, h1, h2]
    simp
theorem en_push {n0 : Nat} {A : AH} {T : TypeId} {v : Value} {L : List En} {x : En} (h : Own n0 A T 10 v (L.map En.enc)) (hw : A.wf) (hn0 : n0 ≤ A.next) (hl : L.length ≤ 1000000) :
    ∃ v' A', appW T 10 72 v (.slice (some ⟨A.next, 0, none⟩) 1 1) (A.alloc (.row x.enc T false)) = some (v', A') ∧ Own n0 A' T 10 v' ((L ++ [x]).map En.enc) ∧ A.next + 1 ≤ A'.next ∧ (∀ b, b < n0 → A'.get b = A.get b) ∧ A'.wf := by
  have hobt := own_push (y := 72) h hw hn0 (r := x.enc) ⟨rfl, rfl⟩ (by omega) (by omega) (by rw [List.length_map]; omega)
  obtain ⟨v', A', p1, p2, p3, p4⟩ := hobt
  exact ⟨v', A', p1, by rw [List.map_append]; exact p2, p3, p4, appW_wf p1 (AH.wf_alloc hw _)⟩
set_option maxHeartbeats 1000000 in
theorem rwith_ok {A : AH} {a : Option Addr} {c : Nat} {l : List En} (h : Sl A 78 10 a (l.map En.enc)) (hn : l.length ≤ 1000) (x : En) : ACall Try.prog 50 [.slice a l.length c, .agg x.enc.toArray] A fun v A' => Own A.next A' 78 10 v ((insE l x).map En.enc) ∧ Ext A A' := by
  have hobt := x.cells
  obtain ⟨hxl, hxo, hx4, -, hxt⟩ := hobt
  refine code50.call (by simp) fun hwf => ?_
  unfold c50
  have x1 := Ext.alloc A (.row x.enc 78 false)
  have r1 := AH.get_new A (.row x.enc 78 false)
  simp [hxl, hxt]
  have hlast : ∀ (i : Nat), i ≤ l.length → (∀ t (h : t < l.length), t < i → (l[t]).k.bef x.k = true) → (∀ (h : i < l.length), (l[i]).k.bef x.k = false) → l.take i ++ x :: l.drop i = insE l x := by
    intro i hi h1 h2
    have ha : ∀ y ∈ l.take i, y.k.bef x.k = true := fun y hy => by
      have hobt := List.mem_iff_getElem.1 hy
      obtain ⟨t, ht, rfl⟩ := hobt
      rw [List.length_take] at ht
      rw [List.getElem_take]; exact h1 t (by omega) (by omega)
    unfold insE
    conv => rhs; rw [← List.take_append_drop i l]
    rw [List.takeWhile_append_of_pos ha, List.dropWhile_append_of_pos ha]
    by_cases hp : i < l.length
    · rw [List.drop_eq_getElem_cons hp, List.takeWhile_cons, List.dropWhile_cons, h2 hp]
      simp
    · rw [List.drop_eq_nil_of_le (by omega)]; simp
  refine LN.join 0 (fun m E A' => ∃ (i : Nat) (v : Value), m + i = l.length ∧ Ext A A' ∧ A.next + 1 ≤ A'.next ∧ A'.get A.next = some (.row x.enc 78 false) ∧ Own (A.next + 1) A' 78 10 v ((l.take i).map En.enc) ∧ (∀ t (h : t < l.length), t < i → (l[t]).k.bef x.k = true) ∧ E.get 0 = .slice a l.length c ∧ E.get 3 = .pointer (some ⟨A.next, 0, none⟩) ∧ E.get 5 = v ∧ E.get 6 = .int .i64 i) l.length
    (fun E A' => A'.wf ∧ ∃ (i : Nat) (v : Value), i ≤ l.length ∧ Ext A A' ∧ A.next + 1 ≤ A'.next ∧ A'.get A.next = some (.row x.enc 78 false) ∧ Own (A.next + 1) A' 78 10 v ((l.take i).map En.enc) ∧ l.take i ++ x :: l.drop i = insE l x ∧ E.get 0 = .slice a l.length c ∧ E.get 3 = .pointer (some ⟨A.next, 0, none⟩) ∧ E.get 5 = v ∧ E.get 6 = .int .i64 i)
    ⟨0, _, by omega, x1, by simp, r1, by simpa using Own.nil _ _ _ _, fun t _ h => by omega, by simp, by simp, by simp, by simp⟩ ?_ ?_
  · rintro m E A1 hw1 hn1 ⟨i, v, hi, x2, n2, r2, ow, hb, E0, E3, E5, E6⟩
    by_cases hlt : i < l.length
    · have hlt' : (i : Int) < l.length := by omega
      have hgi : IntKind.i64.wrap ((i : Int) + 1) = ((i + 1 : Nat) : Int) := by rw [i64_in (by omega) (by omega)]; simp
      have hobt := (h.ext hwf x2).at (i := i) (by simpa using hlt)
      obtain ⟨b, o, cs, q, rfl, g1, g2, g3⟩ := hobt
      rw [List.getElem_map] at g3
      have hobx : ∃ y, y = l[i]'hlt := ⟨_, rfl⟩
      obtain ⟨y, hy⟩ := hobx
      rw [← hy] at g3
      have g4 := at_key g3
      have g2' : o + i * 10 + 4 ≤ cs.length := by omega
      simp [E0, E3, E5, E6, hlt, hlt', g1, g2', g4, r2, hxl, hx4]
      refine CN.use (rbefore_ok y.k x.k A1) ?_
      rintro _ A2 hw2 hn2 ⟨rfl, x3⟩
      have hbool := Bool.eq_false_or_eq_true (y.k.bef x.k)
      rcases hbool with hl | hl
      · obtain ⟨v', A3, p1, p2, p3, p4, p5⟩ := en_push (x := y) (ow.ext hw1 x3) hw2 (by omega) (by rw [List.length_take]; omega)
        have r3 : A3.get A.next = some (.row x.enc 78 false) := by rw [p4 _ (by omega)]; exact x3.get hw1 r2
        have hobt := y.cells
        obtain ⟨hyl, hyo, -, -, hyt⟩ := hobt
        have g1' := x3.get hw1 g1
        simp [hl, E0, E3, E5, E6, hlt, hlt', g1', g2, g3, hyl, hyt, p1, hgi]
        refine NX.of ⟨m - 1, by omega, i + 1, v', by omega, fun b hb => by rw [p4 b (by omega), x3 b (by omega), x2 b hb], by omega, r3, by rw [List.take_succ_eq_append_getElem hlt, ← hy]; exact p2, fun t ht h => ?_, by simp [E0], by simp [E3], by simp, by simp⟩
        by_cases e : t = i
        · subst e; rw [← hy]; exact hl
        · exact hb t ht (by omega)
      · simp [hl]
        exact NX.of ⟨hw2, i, v, by omega, x2.trans (by omega) x3, by omega, x3.get hw1 r2, ow.ext hw1 x3, hlast i (by omega) hb (fun _ => by rw [← hy]; exact hl), by simp [E0], by simp [E3], by simp [E5], by simp [E6]⟩
    · have hlt' : ¬ (i : Int) < l.length := by omega
      simp [E0, E3, E5, E6, hlt, hlt']
      exact NX.of ⟨hw1, i, v, by omega, x2, n2, r2, ow, hlast i (by omega) hb (fun h => absurd h hlt), by simp [E0], by simp [E3], by simp [E5], by simp [E6]⟩
  · rintro E A1 ⟨hw1, i, v, hi, x2, n2, r2, ow, hins, E0, E3, E5, E6⟩
    have hobt := en_push (x := x) ow hw1 (by omega) (by rw [List.length_take]; omega)
    obtain ⟨v', A3, p1, p2, p3, p4, p5⟩ := hobt
    have hxo' : x.enc.all oneB = true := List.all_eq_true.2 hxo
    simp [E0, E3, E5, E6, r2, hxl, hxt, p1]
    refine LN.use (fun m E A' => ∃ (j : Nat) (v : Value), m + j = l.length ∧ i ≤ j ∧ Ext A A' ∧ A.next + 1 ≤ A'.next ∧ Own (A.next + 1) A' 78 10 v ((l.take i ++ x :: (l.drop i).take (j - i)).map En.enc) ∧ E.get 0 = .slice a l.length c ∧ E.get 5 = v ∧ E.get 6 = .int .i64 j) (l.length - i)
      ⟨i, v', by omega, Nat.le_refl _, fun b hb => by rw [p4 b (by omega), x2 b hb], by omega, by simpa using p2, by simp [E0], by simp, by simp [E6]⟩ ?_
    clear E0 E3 E5 E6
    rintro m E A4 hw4 hn4 ⟨j, v, hj, hij, x4, n4, ow4, E0, E5, E6⟩
    by_cases hlt : j < l.length
    · have hlt' : (j : Int) < l.length := by omega
      have hgi : IntKind.i64.wrap ((j : Int) + 1) = ((j + 1 : Nat) : Int) := by rw [i64_in (by omega) (by omega)]; simp
      have hobt := (h.ext hwf x4).at (i := j) (by simpa using hlt)
      obtain ⟨b, o, cs, q, rfl, g1, g2, g3⟩ := hobt
      rw [List.getElem_map] at g3
      have hobx : ∃ y, y = l[j]'hlt := ⟨_, rfl⟩
      obtain ⟨y, hy⟩ := hobx
      rw [← hy] at g3
      have hobt := y.cells
      obtain ⟨hyl, hyo, -, -, hyt⟩ := hobt
      have hobt := en_push (x := y) ow4 hw4 (by omega) (by simp; omega)
      obtain ⟨v5, A5, q1, q2, q3, q4, q5⟩ := hobt
      simp [E0, E5, E6, hlt, hlt', g1, g2, g3, hyl, hyt, q1, hgi]
      refine NX.of ⟨m - 1, by omega, j + 1, v5, by omega, by omega, fun b hb => by rw [q4 b (by omega), x4 b hb], by omega, ?_, by simp [E0], by simp, by simp⟩
      have e : (l.drop i).take (j + 1 - i) = (l.drop i).take (j - i) ++ [y] := by
        rw [show j + 1 - i = (j - i) + 1 by omega, List.take_succ_eq_append_getElem (by rw [List.length_drop]; omega), List.getElem_drop, hy]
        congr 3; omega
      rw [e]; simpa using q2
    · have hlt' : ¬ (j : Int) < l.length := by omega
      rw [List.take_of_length_le (l := l.drop i) (by rw [List.length_drop]; omega), hins] at ow4
      simp [E0, E5, E6, hlt, hlt']
      exact DN.of ⟨ow4.low (by omega), x4⟩
end Go.Proofs.Ytieehccjajhpfaa.AC
/- The reference: families. -/
namespace Go.Proofs.Ytieehccjajhpfaa.AC
open Go Go.AI Go.Proofs Go.Proofs.Ytieehccjajhpfaa.AQ
set_option linter.unusedVariables false
set_option linter.unusedSimpArgs false
theorem famE_new (x : En) : famE [x] = x.k.enc ++ [.int .u64 x.w.bw, .int .i64 x.w.hold] := by simp [famE, gkey, bwG, holdG]
theorem famE_snoc {g : List En} (hg : g ≠ []) (x : En) : famE (g ++ [x]) = (gkey g).enc ++ [.int .u64 ((max (bwG g) x.w.bw : Nat) : Int), .int .i64 (min (holdG g) x.w.hold)] := by
  unfold famE; rw [gkey_app hg, bwG_snoc, holdG_snoc, if_neg hg]
theorem app_at {X r : List Value} {n : Nat} (h : X.length = n) (j : Nat) : (X ++ r)[n + j]? = r[j]? := by
  rw [List.getElem?_append_right (by omega)]; congr 1; omega
theorem spl_app {X r vs : List Value} {n : Nat} (h : X.length = n) {j : Nat} (hj : j + vs.length ≤ r.length) : spl (X ++ r) (n + j) vs = X ++ spl r j vs := by
  have := spl_in X r [] j vs hj
  simpa [h] using this
theorem drop_app {X r : List Value} {n : Nat} (h : X.length = n) (k : Nat) : ((X ++ r).drop n).take k = r.take k := by
  rw [← h, List.drop_left]
theorem own_at {n0 : Nat} {A : AH} {e : TypeId} {z : Nat} {v : Value} {L : List (List Value)} {r : List Value} (h : Own n0 A e z v (L ++ [r])) : ∃ b, v = .slice (some ⟨b, 0, none⟩) (L.length + 1) UNK ∧ n0 ≤ b ∧ A.get b = some (.row (L.flatten ++ r) e false) ∧ L.flatten.length = L.length * z := by
  rcases h.2 with ⟨_, h2⟩ | ⟨b, h1, h2, h3⟩
  · simp at h2
  · exact ⟨b, by simpa using h1, h2, by simpa using h3, flat_len (fun r hr => h.1.len r (by simp [hr]))⟩
theorem own_set {n0 : Nat} {A A' : AH} {e : TypeId} {z : Nat} {v : Value} {L : List (List Value)} {r r' : List Value} {b : Nat} (h : Own n0 A e z v (L ++ [r])) (hv : v = .slice (some ⟨b, 0, none⟩) (L.length + 1) UNK) (hb : A'.get b = some (.row (L.flatten ++ r') e false)) (hr : r'.length = z ∧ r'.all oneB = true) : Own n0 A' e z v (L ++ [r']) := by
  rcases h.2 with ⟨_, h2⟩ | ⟨b', h1, h2, h3⟩
  · simp at h2
  · rw [hv] at h1; injection h1 with h1; injection h1 with h1; injection h1 with h1; subst h1
    exact ⟨(h.1.sub fun r hr => by simp [hr]).app (Rw.one hr), Or.inr ⟨b, by rw [hv]; simp, h2, by rw [hb]; simp⟩⟩
set_option maxHeartbeats 1000000 in
theorem rfam_ok {A : AH} {a : Option Addr} {c : Nat} {l : List En} (h : Sl A 78 10 a (l.map En.enc)) (hn : l.length ≤ 1000) : ACall Try.prog 52 [.slice a l.length c] A fun v A' => Own A.next A' 99 6 v ((grp l).map famE) ∧ Ext A A' := by
  refine code52.call (by simp) fun hwf => ?_
  unfold c52
  simp
  refine LN.use (fun m E A' => ∃ (i : Nat) (v : Value), m + i = l.length ∧ Ext A A' ∧ A.next ≤ A'.next ∧ Own A.next A' 99 6 v ((grp (l.take i)).map famE) ∧ E.get 0 = .slice a l.length c ∧ E.get 3 = v ∧ E.get 4 = .int .i64 i) l.length
    ⟨0, _, by omega, Ext.refl A, Nat.le_refl _, by simpa [grp] using Own.nil _ _ _ _, by simp, by simp, by simp⟩ ?_
  rintro m E A1 hw1 hn1 ⟨i, v, hi, x1, n1, ow, E0, E3, E4⟩
  by_cases hlt : i < l.length
  rotate_left
  · have hlt' : ¬ (i : Int) < l.length := by omega
    rw [List.take_of_length_le (by omega)] at ow
    simp [E0, E3, E4, hlt, hlt']
    exact DN.of ⟨ow, x1⟩
  have hlt' : (i : Int) < l.length := by omega
  have hgi : IntKind.i64.wrap ((i : Int) + 1) = ((i + 1 : Nat) : Int) := by rw [i64_in (by omega) (by omega)]; simp
  have hobt := (h.ext hwf x1).at (i := i) (by simpa using hlt)
  obtain ⟨b, o, cs, q, rfl, g1, g2, g3⟩ := hobt
  rw [List.getElem_map] at g3
  have hobx : ∃ x, x = l[i]'hlt := ⟨_, rfl⟩
  obtain ⟨x, hx⟩ := hobx
  rw [← hx] at g3
  have hobt := x.cells
  obtain ⟨hxl, hxo, hx4, -, hxt⟩ := hobt
  have y4 : x.enc[4]'(by omega) = .int .u64 x.w.bw := rfl
  have y6 : x.enc[6]'(by omega) = .int .i64 x.w.hold := rfl
  have hgt := grp_take hlt
  rw [← hx] at hgt
  have hobx : ∃ A2, A2 = A1.alloc (.row x.enc 78 false) := ⟨_, rfl⟩
  obtain ⟨A2, hA2⟩ := hobx
  have w2 : A2.wf := by rw [hA2]; exact AH.wf_alloc hw1 _
  have n2 : A2.next = A1.next + 1 := by rw [hA2]; rfl
  have x12 : Ext A1 A2 := by rw [hA2]; exact Ext.alloc A1 _
  have r2 : A2.get A1.next = some (.row x.enc 78 false) := by rw [hA2, AH.get_new]
  have ow2 := ow.ext hw1 x12
  have hgl := grp_len (l.take i)
  rw [List.length_take] at hgl
  have hf1 : (famE [x]).length = 6 ∧ (famE [x]).all oneB = true := ⟨rfl, rfl⟩
  have hnz : spl (spl (spl [Value.int .i64 0, .int .i64 0, .int .i64 0, .int .i64 0, .int .u64 0, .int .i64 0] 0 x.k.enc) 4 [.int .u64 x.w.bw]) 5 [.int .i64 x.w.hold] = famE [x] := by rw [famE_new]; rfl
  have l1 : (spl [Value.int .i64 0, .int .i64 0, .int .i64 0, .int .i64 0, .int .u64 0, .int .i64 0] 0 x.k.enc).length = 6 := rfl
  have l2 : (spl (spl [Value.int .i64 0, .int .i64 0, .int .i64 0, .int .i64 0, .int .u64 0, .int .i64 0] 0 x.k.enc) 4 [.int .u64 x.w.bw]).length = 6 := rfl
  have ht6 : (famE [x]).take 6 = famE [x] := rfl
  have hfl : (famE [x]).length = 6 := rfl
  rcases snoc_cases (grp (l.take i)) with hg0 | ⟨gs, g, hg0⟩
  · rw [hg0] at ow2 hgt
    have hobt := own_push (y := 48) ow2 w2 (by omega) (r := famE [x]) hf1 (by omega) (by omega) (by simp)
    obtain ⟨v3, A3, p1, p2, p3, p4⟩ := hobt
    have hobt := own_form ow
    obtain ⟨av, nv, cv, hv⟩ := hobt
    have hnv : nv = 0 := by
      rw [hg0] at ow
      rcases ow.2 with ⟨h1, _⟩ | ⟨b, h1, _⟩ <;> rw [hv] at h1 <;> injection h1
      all_goals (rename_i h1 _; simpa using h1)
    subst hv
    subst hnv
    have hwm : IntKind.i64.wrap (-1) = -1 := by decide
    simp [E0, E3, E4, hlt, hlt', g1, g2, g3, hxl, hxt, ← hA2, hwm, r2, hx4, hgi, y4, y6, l1, l2, hnz, hfl, ht6, p1]
    refine ⟨hxo, ?_⟩
    exact NX.of ⟨m - 1, by omega, i + 1, v3, by omega, fun b hb => by rw [p4 b hb, x12 b (by omega), x1 b hb], by omega, by rw [hgt, gst_nil]; exact p2, by simp [E0], by simp, by simp⟩
  · have hgne : g ≠ [] := grp_ne (l.take i) g (by rw [hg0]; simp)
    rw [hg0] at ow2 hgt hgl
    rw [gst_snoc] at hgt
    rw [List.length_append, List.length_singleton] at hgl
    rw [List.map_append, List.map_cons, List.map_nil] at ow2
    have hobt := own_at ow2
    obtain ⟨fb, hv, hfb, gfb, hfl2⟩ := hobt
    rw [List.length_map] at hv hfl2
    have hobx : ∃ X, X = (gs.map famE).flatten := ⟨_, rfl⟩
    obtain ⟨X, hX⟩ := hobx
    rw [← hX] at gfb hfl2
    subst hv
    have hobt := famE_facts g
    obtain ⟨a1, a2, a3, a4, a5, a6⟩ := hobt
    have hlen2 : (X ++ famE g).length = gs.length * 6 + 6 := by rw [List.length_append, hfl2, a1]
    have d4 : ((X ++ famE g).drop (gs.length * 6)).take 4 = (gkey g).enc := by rw [drop_app hfl2, a3]
    have wl1 : IntKind.i64.wrap (gs.length : Int) = (gs.length : Int) := i64_in (by omega) (by omega)
    have hnl : ¬ (gs.length : Int) < 0 := by omega
    have hle : gs.length * 6 + 4 ≤ X.length + (famE g).length := by omega
    have hbn : ¬ fb = A1.next := by
      intro e; rw [e, r2] at gfb; injection gfb with gfb; injection gfb with _ gfb _; revert gfb; decide
    have hbn' : ¬ A1.next = fb := fun e => hbn e.symm
    simp [E0, E3, E4, hlt, hlt', g1, g2, g3, hxl, hxt, ← hA2]
    refine ⟨hxo, ?_⟩
    simp [E0, E3, E4, wl1, hnl, gfb, hle, d4, r2, hxl, hx4]
    refine ⟨by omega, ?_⟩
    refine CN.use (rkin_ok (gkey g) x.k A2) ?_
    rintro _ A3 hw3 hn3 ⟨rfl, x3⟩
    have gfb3 := x3.get w2 gfb
    have r3 := x3.get w2 r2
    have ow3 := ow2.ext w2 x3
    have e3 : ∀ b, b < A.next → A3.get b = A.get b := fun b hb => by rw [x3 b (by omega), x12 b (by omega), x1 b hb]
    have hbool := Bool.eq_false_or_eq_true ((gkey g).kin x.k)
    rcases hbool with hk | hk
    · rw [if_pos hk] at hgt
      have hobx : ∃ m1 : Int, m1 = ((max (bwG g) x.w.bw : Nat) : Int) := ⟨_, rfl⟩
      obtain ⟨m1, hm1⟩ := hobx
      have hmx : (if bwG g < x.w.bw then ((x.w.bw : Nat) : Int) else (bwG g : Nat)) = m1 := by
        rw [hm1]; split
        · rw [Nat.max_eq_right (by omega)]
        · rw [Nat.max_eq_left (by omega)]
      have hobx : ∃ m2 : Int, m2 = min (holdG g) x.w.hold := ⟨_, rfl⟩
      obtain ⟨m2, hm2⟩ := hobx
      have hmn : (if x.w.hold < holdG g then x.w.hold else holdG g) = m2 := by
        rw [hm2]; split
        · rw [Int.min_eq_right (by omega)]
        · rw [Int.min_eq_left (by omega)]
      have f4 : (X ++ famE g)[gs.length * 6 + 4]? = some (.int .u64 (bwG g : Nat)) := by rw [app_at hfl2]; exact a5
      have hobx : ∃ R1, R1 = (gkey g).enc ++ [.int .u64 m1, .int .i64 (holdG g)] := ⟨_, rfl⟩
      obtain ⟨R1, hR1⟩ := hobx
      have hobx : ∃ C1, C1 = X ++ R1 := ⟨_, rfl⟩
      obtain ⟨C1, hC1⟩ := hobx
      have hobx : ∃ C2, C2 = X ++ famE (g ++ [x]) := ⟨_, rfl⟩
      obtain ⟨C2, hC2⟩ := hobx
      have hobx : ∃ C0, C0 = X ++ famE g := ⟨_, rfl⟩
      obtain ⟨C0, hC0⟩ := hobx
      have R1l : R1.length = 6 := by rw [hR1]; rfl
      have s1 : spl C0 (gs.length * 6 + 4) [.int .u64 m1] = C1 := by
        rw [hC0, spl_app hfl2 (by rw [a1]; simp), hC1, hR1]; rfl
      have f5 : C1[gs.length * 6 + 5]? = some (.int .i64 (holdG g)) := by rw [hC1, app_at hfl2, hR1]; rfl
      have s2 : spl C1 (gs.length * 6 + 5) [.int .i64 m2] = C2 := by
        rw [hC1, spl_app hfl2 (by rw [R1l]; simp), hC2, hR1, famE_snoc hgne, ← hm1, ← hm2]; rfl
      have c0l : C0.length = gs.length * 6 + 6 := by rw [hC0]; exact hlen2
      have c1l : C1.length = gs.length * 6 + 6 := by rw [hC1, List.length_append, hfl2, R1l]
      rw [← hC0] at gfb3 f4
      have l4 : gs.length * 6 + 4 + 1 ≤ C0.length := by omega
      have l5 : gs.length * 6 + 5 + 1 ≤ C1.length := by omega
      simp [hk, E0, E3, E4, wl1, hnl, gfb3, f4, r3, hxl, y4, hmx, s1, l4]
      simp [E0, E3, E4, wl1, hgi, r3, hxl, y6, hmn, f5, s2, l5, hbn, hbn']
      refine ⟨by omega, ?_⟩
      refine NX.of ⟨m - 1, by omega, i + 1, .slice (some ⟨fb, 0, none⟩) (gs.length + 1) UNK, by omega, fun b hb => by rw [AH.get_set, if_neg (by omega), e3 b hb], by simp; omega, ?_, by simp [E0], by simp [E3], by simp⟩
      rw [hgt, List.map_append]
      refine own_set (r' := famE (g ++ [x])) ow3 (b := fb) (by rw [List.length_map]) ?_ ⟨rfl, rfl⟩
      rw [AH.get_set, if_pos rfl, hC2, hX]
    · rw [if_neg (by rw [hk]; simp)] at hgt
      have hobt := own_push (y := 48) ow3 hw3 (by omega) (r := famE [x]) hf1 (by omega) (by omega) (by simp; omega)
      obtain ⟨v4, A4, p1, p2, p3, p4⟩ := hobt
      have hx4' : x.enc.take 4 = x.k.enc := hx4
      simp [hk, E0, E3, E4, wl1, hnl, gfb3, r3, hxl, hx4, y4, y6, l1, l2, hnz, hfl, ht6, p1, hgi]
      exact NX.of ⟨m - 1, by omega, i + 1, v4, by omega, fun b hb => by rw [p4 b hb, e3 b hb], by omega, by rw [hgt]; simpa using p2, by simp [E0], by simp, by simp⟩
end Go.Proofs.Ytieehccjajhpfaa.AC
/- The reference: the ledger, what fits, who is driven out. -/
namespace Go.Proofs.Ytieehccjajhpfaa.AC
open Go Go.AI Go.Proofs Go.Proofs.Ytieehccjajhpfaa.AQ
set_option linter.unusedVariables false
set_option linter.unusedSimpArgs false
theorem famE_rw (gs : List (List En)) : Rw 6 (gs.map famE) := by
  intro r hr
  have hobt := List.mem_map.1 hr
  obtain ⟨x, -, rfl⟩ := hobt
  exact ⟨rfl, rfl⟩
theorem ldg_wf2 {size : Nat} {gs : List (List En)} (h : HoldOk gs) (hs : size < 18446744073709551616) (ht : tot gs < 18446744073709551616) : (ldg size gs).wf := by
  have hobt := ldg_facts size gs h
  obtain ⟨h1, h2, h3⟩ := hobt
  exact ⟨h2, by omega, fun n hn => by have := mem_sum hn; omega⟩
theorem ldg_held (size : Nat) {gs : List (List En)} (h : HoldOk gs) (p : Nat) : (ldg size gs).held.getD p 0 ≤ tot gs := by
  have := getD_sum (ldg size gs).held p
  rw [(ldg_facts size gs h).2.2] at this; exact this
set_option maxHeartbeats 1000000 in
theorem rledger_ok {A : AH} {a : Option Addr} {c size : Nat} {l : List En} (h : Sl A 78 10 a (l.map En.enc)) (hn : l.length ≤ 1000) (hs : size < 18446744073709551616) (ho : ∀ x ∈ l, EnOk x) :
    ACall Try.prog 23 [.int .u64 size, .slice a l.length c] A fun v A' => Ext A A' ∧ ∃ b : Ld, b.held.length = 8 ∧ v = .tuple #[.agg b.enc.toArray, .bool (decide (tot (grp l) < 18446744073709551616))] ∧ (tot (grp l) < 18446744073709551616 → b = ldg size (grp l)) := by
  have hobt := grp_ok ho
  obtain ⟨ho1, ho2⟩ := hobt
  have z0 : (ldg size []).enc = [.int .u64 size, .int .u64 0, .int .u64 0, .int .u64 0, .int .u64 0, .int .u64 0, .int .u64 0, .int .u64 0, .int .u64 0] := rfl
  have hgl := grp_len l
  have hobx : ∃ gs, gs = grp l := ⟨_, rfl⟩
  obtain ⟨gs, hgs⟩ := hobx
  rw [← hgs] at ho1 ho2 hgl
  have x0 : Ext A (((A.alloc (.row [.int .u64 0, .int .u64 0, .int .u64 0, .int .u64 0, .int .u64 0, .int .u64 0, .int .u64 0, .int .u64 0, .int .u64 0] 50 false)).alloc (.row [.int .u64 0, .int .u64 0, .int .u64 0, .int .u64 0, .int .u64 0, .int .u64 0, .int .u64 0, .int .u64 0, .int .u64 0] 50 false)).set (A.next + 1) (.row [.int .u64 size, .int .u64 0, .int .u64 0, .int .u64 0, .int .u64 0, .int .u64 0, .int .u64 0, .int .u64 0, .int .u64 0] 50 false)) := ((Ext.alloc A _).app (by simp) _).setnew (by omega) _
  refine ACall.wf fun hwf => ?_
  have hobx : ∃ A1, A1 = (((A.alloc (.row [.int .u64 0, .int .u64 0, .int .u64 0, .int .u64 0, .int .u64 0, .int .u64 0, .int .u64 0, .int .u64 0, .int .u64 0] 50 false)).alloc (.row [.int .u64 0, .int .u64 0, .int .u64 0, .int .u64 0, .int .u64 0, .int .u64 0, .int .u64 0, .int .u64 0, .int .u64 0] 50 false)).set (A.next + 1) (.row [.int .u64 size, .int .u64 0, .int .u64 0, .int .u64 0, .int .u64 0, .int .u64 0, .int .u64 0, .int .u64 0, .int .u64 0] 50 false)) := ⟨_, rfl⟩
  obtain ⟨A1, hA1⟩ := hobx
  rw [← hA1] at x0
  have n1 : A1.next = A.next + 2 := by rw [hA1]; rfl
  have w1 : A1.wf := by rw [hA1]; exact AH.wf_set (AH.wf_alloc (AH.wf_alloc hwf _) _) (by simp) _
  have r4 : A1.get A.next = some (.row [.int .u64 0, .int .u64 0, .int .u64 0, .int .u64 0, .int .u64 0, .int .u64 0, .int .u64 0, .int .u64 0, .int .u64 0] 50 false) := by rw [hA1]; simp [AH.get_alloc, AH.get_set]
  have r6 : A1.get (A.next + 1) = some (.row (ldg size []).enc 50 false) := by rw [hA1, AH.get_set, if_pos rfl, z0]
  refine code23.call (by simp) fun hwf => ?_
  unfold c23
  simp [← hA1]
  refine CN.use (rfam_ok (h.ext hwf x0) hn) ?_
  rintro fv A2 hw2 hn2 ⟨of2, x2⟩
  rw [← hgs] at of2
  have hobt := own_slm of2
  obtain ⟨fa, fc, rfl, fs2, -, -⟩ := hobt
  have r42 := x2.get w1 r4
  have r62 := x2.get w1 r6
  simp
  refine LN.use (fun m E A' => ∃ i : Nat, m + i = gs.length ∧ Ext A A' ∧ A2.next ≤ A'.next ∧ Sl A' 99 6 fa (gs.map famE) ∧ tot (gs.take i) < 18446744073709551616 ∧ A'.get (A.next + 1) = some (.row (ldg size (gs.take i)).enc 50 false) ∧ A'.get A.next = some (.row [.int .u64 0, .int .u64 0, .int .u64 0, .int .u64 0, .int .u64 0, .int .u64 0, .int .u64 0, .int .u64 0, .int .u64 0] 50 false) ∧ (∀ b o, fa = some ⟨b, o, none⟩ → A1.next ≤ b) ∧ E.get 4 = .pointer (some ⟨A.next, 0, none⟩) ∧ E.get 6 = .pointer (some ⟨A.next + 1, 0, none⟩) ∧ E.get 7 = .slice fa gs.length fc ∧ E.get 8 = .int .u64 (tot (gs.take i)) ∧ E.get 9 = .int .i64 i) gs.length
    ⟨0, by omega, x0.trans (by omega) x2, Nat.le_refl _, fs2, by simp [tot], by simpa using r62, r42, fun b o e => by
      have hq := of2.2
      rcases hq with ⟨h1, _⟩ | ⟨b', h1, h2, _⟩
      · injection h1 with h1; rw [h1] at e; cases e
      · injection h1 with h1; rw [h1] at e; injection e with e; injection e with e; omega, by simp, by simp, by simp, by simp [tot], by simp⟩ ?_
  rintro m E A3 hw3 hn3 ⟨i, hi, x3, n3, fs3, ht, g6, g4, hfa, E4, E6, E7, E8, E9⟩
  have hh' : HoldOk (gs.take i) := fun g hg => ho1 g (List.mem_of_mem_take hg)
  have hwl := ldg_wf2 hh' hs ht
  have hobx : ∃ L1, L1 = ldg size (gs.take i) := ⟨_, rfl⟩
  obtain ⟨L1, hL1⟩ := hobx
  have hgb := ldg_held size hh'
  rw [← hL1] at g6 hwl hgb
  have hl : L1.enc.length = 9 := by simp [Ld.enc, hwl.1]
  have ho' : ∀ v ∈ L1.enc, oneB v = true := List.all_eq_true.1 (by simp [Ld.enc])
  have ht9 : L1.enc.take 9 = L1.enc := List.take_of_length_le (by omega)
  by_cases hlt : i < gs.length
  rotate_left
  · have hlt' : ¬ (i : Int) < gs.length := by omega
    rw [List.take_of_length_le (by omega)] at hL1 ht
    simp [E4, E6, E7, E9, hlt, hlt', g6, g4, hl, ht9]
    refine ⟨ho', ?_⟩
    exact DN.of ⟨x3.setnew (by omega) _, L1, hwl.1, by rw [← hgs]; simp [ht], fun _ => by rw [← hgs]; exact hL1⟩
  have hlt' : (i : Int) < gs.length := by omega
  have hgi : IntKind.i64.wrap ((i : Int) + 1) = ((i + 1 : Nat) : Int) := by rw [i64_in (by omega) (by omega)]; simp
  have hobt := fs3.at (i := i) (by simpa using hlt)
  obtain ⟨b, o, cs, q, rfl, u1, u2, u3⟩ := hobt
  rw [List.getElem_map] at u3
  have hobx : ∃ g, g = gs[i]'hlt := ⟨_, rfl⟩
  obtain ⟨g, hg⟩ := hobx
  have hgm : g ∈ gs := by rw [hg]; exact List.getElem_mem hlt
  rw [← hg] at u3
  have c4 : cs[o + i * 6 + 4]? = some (.int .u64 (bwG g : Nat)) := at_cell u3 (by omega)
  have c5 : cs[o + i * 6 + 5]? = some (.int .i64 (holdG g)) := at_cell u3 (by omega)
  have hhg := ho1 g hgm
  have hbg := ho2 g hgm
  obtain ⟨p, hp⟩ : ∃ p : Nat, holdG g = p := ⟨(holdG g).toNat, by omega⟩
  have hp8 : p < 8 := by omega
  have hp8' : (p : Int) < 8 := by omega
  rw [hp] at c5
  have htk : gs.take (i + 1) = gs.take i ++ [g] := by rw [List.take_succ_eq_append_getElem hlt, hg]
  have htt : tot (gs.take (i + 1)) = tot (gs.take i) + bwG g := by rw [htk, tot_snoc]
  have hle := tot_take gs (i + 1)
  have hbne : ¬ b = A.next + 1 := by have := hfa b o rfl; omega
  simp [E4, E6, E7, E8, E9, hlt, hlt', u1, c4]
  refine CN.use (radd_ok (tot (gs.take i)) (bwG g) ht hbg _) ?_
  rintro _ A4 hw4 hn4 ⟨rfl, rfl⟩
  by_cases hfit : tot (gs.take i) + bwG g < 18446744073709551616
  · have had : addP (tot (gs.take i)) (bwG g) = (tot (gs.take (i + 1)), true) := by unfold addP; rw [if_pos hfit, htt]
    have hgq : L1.enc[1 + p]? = some (.int .u64 (L1.held.getD p 0 : Nat)) := by
      rw [Nat.add_comm]
      simp [Ld.enc, List.getD, show p < L1.held.length by have := hwl.1; omega]
    have hobx : ∃ h0 : Nat, h0 = L1.held.getD p 0 := ⟨_, rfl⟩
    obtain ⟨h0, hh0⟩ := hobx
    rw [← hh0] at hgq
    have hh0le := hgb p
    rw [← hh0] at hh0le
    have hobx : ∃ h1 : Nat, h1 = h0 + bwG g := ⟨_, rfl⟩
    obtain ⟨h1, hh1⟩ := hobx
    have hwr : IntKind.u64.wrap ((h0 : Int) + (bwG g : Nat)) = (h1 : Int) := by rw [wrap64]; omega
    have hq8 : 1 + p + 1 ≤ L1.enc.length := by omega
    have hobx : ∃ L2, L2 = ldg size (gs.take (i + 1)) := ⟨_, rfl⟩
    obtain ⟨L2, hL2⟩ := hobx
    have hsp : spl L1.enc (1 + p) [.int .u64 (h1 : Int)] = L2.enc := by
      rw [hL2, htk, ldg_snoc, ← hL1, hp, Int.toNat_natCast]
      unfold Ld.put
      rw [← hh0, ← hh1]
      simp only [Ld.enc]
      rw [Nat.add_comm, spl_cons_succ, List.map_set]
      congr 1
      have := spl_cons (L1.held.map fun n : Nat => Value.int .u64 n) p (.int .u64 (h1 : Int)) [] (by simp; have := hwl.1; omega)
      rw [← this]; simp [spl]
    simp [had, E4, E6, E7, E8, E9, hlt, hlt', u1, c4, c5, hp8, hp8', g6, hgq, hwr, hsp, hgi, hl]
    refine ⟨by omega, ?_⟩
    exact NX.of ⟨m - 1, by omega, i + 1, by omega, x3.setnew (by omega) _, by simp; omega, fs3.kept fun b' o' x h1 h2 => by
      have := hfa b' o' h1
      rw [AH.get_set, if_neg (by omega)], by omega, by rw [AH.get_set, if_pos rfl, hL2], by rw [AH.get_set, if_neg (by omega)]; exact g4, hfa, by simp [E4], by simp [E6], by simp [E7], by simp, by simp⟩
  · have had : addP (tot (gs.take i)) (bwG g) = (0, false) := by unfold addP; rw [if_neg hfit]
    simp [had, E4, E6, E7, E8, E9, g4]
    have hnf : ¬ tot (grp l) < 18446744073709551616 := by rw [← hgs]; omega
    refine DN.of ⟨x3.setnew (by omega) _, zL, rfl, ?_, fun h => absurd h hnf⟩
    rw [decide_eq_false hnf]; rfl
end Go.Proofs.Ytieehccjajhpfaa.AC
/- The reference: what fits, who is driven out. -/
namespace Go.Proofs.Ytieehccjajhpfaa.AC
open Go Go.AI Go.Proofs Go.Proofs.Ytieehccjajhpfaa.AQ
set_option linter.unusedVariables false
set_option linter.unusedSimpArgs false
theorem rfits_ok {A : AH} {a : Option Addr} {c size : Nat} {l : List En} (h : Sl A 78 10 a (l.map En.enc)) (hn : l.length ≤ 1000) (hs : size < 18446744073709551616) (ho : ∀ x ∈ l, EnOk x) :
    ACall Try.prog 49 [.int .u64 size, .slice a l.length c] A fun v A' => v = .bool (decide (tot (grp l) ≤ size)) ∧ Ext A A' := by
  have hobt := grp_ok ho
  obtain ⟨ho1, ho2⟩ := hobt
  refine code49.call (by simp) fun hwf => ?_
  unfold c49
  simp
  refine CN.use (rledger_ok h hn hs ho) ?_
  rintro _ A1 hw1 hn1 ⟨x1, b, hb8, rfl, hb⟩
  have hbl : b.enc.length = 9 := by simp [Ld.enc, hb8]
  have hbo : ∀ v ∈ b.enc, oneB v = true := List.all_eq_true.1 (by simp [Ld.enc])
  have hbt : b.enc.take 9 = b.enc := List.take_of_length_le (by omega)
  by_cases ht : tot (grp l) < 18446744073709551616
  · obtain rfl := hb ht
    simp [ht, hbl, hbt]
    refine ⟨hbo, ?_⟩
    refine CN.use (rright13_ok _ (ldg_wf2 ho1 hs ht) _) ?_
    rintro _ A2 hw2 hn2 ⟨rfl, x2⟩
    simp
    refine DN.of ⟨?_, (x1.app hn1 _).trans (by simp; omega) x2⟩
    have hobt := ldg_facts size (grp l) ho1
    obtain ⟨h1, h2, h3⟩ := hobt
    simp [rightL, h1, h3]
  · simp [ht, hbl, hbt]
    refine ⟨hbo, ?_⟩
    exact DN.of ⟨by rw [decide_eq_false (by omega)], x1.app hn1 _⟩
def famO : Option (List En) → List Value
  | none => [.int .i64 0, .int .i64 0, .int .i64 0, .int .i64 0, .int .u64 0, .int .i64 0]
  | some c => famE c
theorem famO_len (o : Option (List En)) : (famO o).length = 6 ∧ (∀ v ∈ famO o, oneB v = true) ∧ (famO o).take 6 = famO o := by
  cases o with
  | none => exact ⟨rfl, List.all_eq_true.1 rfl, rfl⟩
  | some c => exact ⟨rfl, List.all_eq_true.1 (rfl : (famE c).all oneB = true), rfl⟩
set_option maxHeartbeats 1000000 in
theorem rvictim_ok {A : AH} {a : Option Addr} {c : Nat} {l : List En} (h : Sl A 78 10 a (l.map En.enc)) (hn : l.length ≤ 1000) (k : Key) (s : Int) :
    ACall Try.prog 51 [.slice a l.length c, .agg k.enc.toArray, .int .i64 s] A fun v A' => v = .tuple #[.agg (famO (bst ((grp l).filter (candB k s)))).toArray, .bool (bst ((grp l).filter (candB k s))).isSome] ∧ Ext A A' := by
  have hgl := grp_len l
  have hobx : ∃ gs, gs = grp l := ⟨_, rfl⟩
  obtain ⟨gs, hgs⟩ := hobx
  rw [← hgs] at hgl
  refine ACall.wf fun hwf => ?_
  have hobx : ∃ A1, A1 = (A.alloc (.row k.enc 23 false)).alloc (.row [.int .i64 0, .int .i64 0, .int .i64 0, .int .i64 0, .int .u64 0, .int .i64 0] 99 false) := ⟨_, rfl⟩
  obtain ⟨A1, hA1⟩ := hobx
  have n1 : A1.next = A.next + 2 := by rw [hA1]; rfl
  have w1 : A1.wf := by rw [hA1]; exact AH.wf_alloc (AH.wf_alloc hwf _) _
  have x1 : Ext A A1 := by rw [hA1]; exact (Ext.alloc A _).app (by simp) _
  have k1 : A1.get A.next = some (.row k.enc 23 false) := by rw [hA1, AH.get_alloc, if_neg (by simp), AH.get_new]
  have r1 : A1.get (A.next + 1) = some (.row (famO none) 99 false) := by rw [hA1, AH.get_alloc, if_pos (by simp)]; rfl
  refine code51.call (by simp) fun hwf => ?_
  unfold c51
  simp [← hA1]
  refine CN.use (rfam_ok (h.ext hwf x1) hn) ?_
  rintro fv A2 hw2 hn2 ⟨of2, x2⟩
  rw [← hgs] at of2
  have hobt := own_slm of2
  obtain ⟨fa, fc, rfl, fs2, hfa, -⟩ := hobt
  have k2 := x2.get w1 k1
  have r2 := x2.get w1 r1
  have fs3 := fs2.ext hw2 (Ext.alloc A2 (.row (famO none) 99 false))
  simp
  refine LN.use (fun m E A' => ∃ (i : Nat) (o : Option (List En)), m + i = gs.length ∧ (∀ b, b < A2.next → A'.get b = A2.get b) ∧ A2.next + 1 ≤ A'.next ∧ o = bst ((gs.take i).filter (candB k s)) ∧ A'.get A2.next = some (.row (famO o) 99 false) ∧ E.get 2 = .int .i64 s ∧ E.get 4 = .pointer (some ⟨A.next, 0, none⟩) ∧ E.get 6 = .pointer (some ⟨A.next + 1, 0, none⟩) ∧ E.get 8 = .slice fa gs.length fc ∧ E.get 9 = .pointer (some ⟨A2.next, 0, none⟩) ∧ E.get 10 = .bool o.isSome ∧ E.get 11 = .int .i64 i) gs.length
    ⟨0, none, by omega, Ext.alloc A2 _, by simp, by simp [bst], by rw [AH.get_new]; rfl, by simp, by simp, by simp, by simp, by simp, by simp, by simp⟩ ?_
  rintro m E A3 hw3 hn3 ⟨i, ov, hi, x3, n3, hov, g9, E2, E4, E6, E8, E9, E10, E11⟩
  have hobt := famO_len ov
  obtain ⟨ol, oo, ot⟩ := hobt
  have k3 := Ext.get x3 hw2 k2
  have r3 := Ext.get x3 hw2 r2
  have hobt := famO_len none
  obtain ⟨nl, no, nt⟩ := hobt
  by_cases hlt : i < gs.length
  rotate_left
  · have hlt' : ¬ (i : Int) < gs.length := by omega
    rw [List.take_of_length_le (by omega)] at hov
    simp [E2, E4, E6, E8, E9, E10, E11, hlt, hlt', g9, r3, ol, ot, nl]
    refine ⟨oo, ?_⟩
    refine DN.of ?_
    rw [← hgs, ← hov]
    exact ⟨rfl, (x1.trans (by omega) (x2.trans (by omega) x3)).setnew (by omega) _⟩
  have hlt' : (i : Int) < gs.length := by omega
  have hgi : IntKind.i64.wrap ((i : Int) + 1) = ((i + 1 : Nat) : Int) := by rw [i64_in (by omega) (by omega)]; simp
  have hobt := (fs2.ext hw2 x3).at (i := i) (by simpa using hlt)
  obtain ⟨b, o, cs, q, rfl, u1, u2, u3⟩ := hobt
  rw [List.getElem_map] at u3
  have hobx : ∃ g, g = gs[i]'hlt := ⟨_, rfl⟩
  obtain ⟨g, hg⟩ := hobx
  rw [← hg] at u3
  have hobt := famE_facts g
  obtain ⟨a1, a2, a3, a4, a5, a6⟩ := hobt
  have c5 : cs[o + i * 6 + 5]? = some (.int .i64 (holdG g)) := at_cell u3 (by omega)
  have d4 : (cs.drop (o + i * 6)).take 4 = (gkey g).enc := at_head u3 (by omega)
  have l4 : o + i * 6 + 4 ≤ cs.length := by omega
  have hbn : b < A2.next := by
    have hobt := fs2.at (i := i) (by simpa using hlt)
    obtain ⟨b', o', cs', q', e1, e2, -⟩ := hobt
    injection e1 with e1; injection e1 with e1; subst e1
    exact hw2 _ _ e2
  have hbn' : ¬ b = A2.next := by omega
  have htk : gs.take (i + 1) = gs.take i ++ [g] := by rw [List.take_succ_eq_append_getElem hlt, hg]
  have hst : bst ((gs.take (i + 1)).filter (candB k s)) = if candB k s g = true then bstS ov g else ov := by
    rw [htk, List.filter_append, List.filter_cons]
    split
    · rw [hov]; simp [bst]
    · simp [hov]
  simp [E2, E4, E6, E8, E9, E10, E11, hlt, hlt', u1, l4, d4, k3]
  refine CN.use (rkin_ok (gkey g) k A3) ?_
  rintro _ A4 hw4 hn4 ⟨rfl, x4⟩
  have x34 : ∀ b, b < A2.next → A4.get b = A2.get b := fun b hb => by rw [x4 b (by omega), x3 b hb]
  have g94 := x4.get hw3 g9
  have u14 := x4.get hw3 u1
  have hbool := Bool.eq_false_or_eq_true ((gkey g).kin k)
  rcases hbool with hk | hk
  · have hc : candB k s g = false := by simp [candB, hk]
    rw [hc] at hst
    simp at hst
    simp [hk, E11, hgi]
    exact NX.of ⟨m - 1, by omega, i + 1, ov, by omega, x34, by omega, hst.symm, g94, by simp [E2], by simp [E4], by simp [E6], by simp [E8], by simp [E9], by simp [E10], by simp⟩
  by_cases hh : s < holdG g
  rotate_left
  · have hc : candB k s g = false := by simp [candB, hk, hh]
    rw [hc] at hst
    simp at hst
    simp [hk, E2, E8, E11, hgi, hh, u14, c5, hlt, hlt']
    exact NX.of ⟨m - 1, by omega, i + 1, ov, by omega, x34, by omega, hst.symm, g94, by simp [E2], by simp [E4], by simp [E6], by simp [E8], by simp [E9], by simp [E10], by simp⟩
  have hc : candB k s g = true := by simp [candB, hk, hh]
  rw [if_pos hc] at hst
  have hovc : ov = none ∨ ∃ c, ov = some c := by cases ov with
    | none => exact Or.inl rfl
    | some c => exact Or.inr ⟨c, rfl⟩
  rcases hovc with rfl | ⟨cc, rfl⟩
  · simp [hk, E2, E8, E9, E10, E11, hgi, hh, u14, c5, hlt, hlt', u2, u3, a1, a4, g94, ol]
    refine ⟨a2, ?_⟩
    exact NX.of ⟨m - 1, by omega, i + 1, some g, by omega, fun b hb => by rw [AH.get_set, if_neg (by omega), x34 b hb], by simp; omega, hst.symm, by rw [AH.get_set, if_pos rfl]; rfl, by simp [E2], by simp [E4], by simp [E6], by simp [E8], by simp [E9], by simp, by simp⟩
  · have hst' : bstS (some cc) g = if wrs g cc = true then some g else some cc := rfl
    rw [hst'] at hst
    simp [hk, E2, E8, E9, E10, E11, hgi, hh, u14, c5, hlt, hlt', u2, u3, a1, a4, g94, ol, ot]
    refine CN.use (rworse_ok g cc A4) ?_
    rintro _ A5 hw5 hn5 ⟨rfl, x5⟩
    have x35 : ∀ b, b < A2.next → A5.get b = A2.get b := fun b hb => by rw [x5 b (by omega), x34 b hb]
    have g95 := x5.get hw4 g94
    have u15 := x5.get hw4 u14
    have hbool := Bool.eq_false_or_eq_true (wrs g cc)
    rcases hbool with hw | hw
    · rw [if_pos hw] at hst
      simp [hk, hw, hh, E2, E8, E9, E10, E11, hgi, hlt, hlt', u15, u2, u3, a1, a4, g95, ol, ot]
      refine ⟨a2, ?_⟩
      exact NX.of ⟨m - 1, by omega, i + 1, some g, by omega, fun b hb => by rw [AH.get_set, if_neg (by omega), x35 b hb], by simp; omega, hst.symm, by rw [AH.get_set, if_pos rfl]; rfl, by simp [E2], by simp [E4], by simp [E6], by simp [E8], by simp [E9], by simp, by simp⟩
    · rw [if_neg (by rw [hw]; simp)] at hst
      simp [hk, hw, hh, E2, E8, E9, E10, E11, hgi]
      exact NX.of ⟨m - 1, by omega, i + 1, some cc, by omega, x35, by omega, hst.symm, g95, by simp [E2], by simp [E4], by simp [E6], by simp [E8], by simp [E9], by simp [E10], by simp⟩
end Go.Proofs.Ytieehccjajhpfaa.AC
