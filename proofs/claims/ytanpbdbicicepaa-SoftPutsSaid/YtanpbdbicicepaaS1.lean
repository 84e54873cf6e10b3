/-
  What the functions of the program, and those of the law, do.
-/
import Derived.Test.YtanpbdbicicepaaCAQ
import Derived.Test.YtanpbdbicicepaaCAC
import Derived.Test.YtanpbdbicicepaaP2
/- Contracts of cmp's functions. -/
namespace Go.Proofs.Ytanpbdbicicepaa.AC
open Go Go.AI Go.Proofs Go.Proofs.Ytanpbdbicicepaa.AQ
set_option linter.unusedVariables false
theorem isNaN_ok (n : Int) (A : AH) : ACall Try.prog 67 [.int .i64 n] A fun v A' => v = .bool false ∧ A' = A := by
  refine code67.call (by simp) fun hwf => ?_
  unfold c67
  simp
  exact DN.of ⟨rfl, rfl⟩
def cmpI (a b : Int) : Int := if a < b then -1 else if b < a then 1 else 0
theorem compare_ok (a b : Int) (A : AH) : ACall Try.prog 65 [.int .i64 a, .int .i64 b] A fun v A' => v = .int .i64 (cmpI a b) ∧ A' = A := by
  refine code65.call (by simp) fun hwf => ?_
  unfold c65
  simp
  refine CN.use (isNaN_ok a A) ?_
  rintro _ _ - - ⟨rfl, rfl⟩
  simp
  refine CN.use (isNaN_ok b _) ?_
  rintro _ _ - - ⟨rfl, rfl⟩
  simp
  split
  · exact DN.of (by simp [cmpI, *])
  · split <;> exact DN.of (by simp [cmpI, *])
def orI (l : List Int) : Int := (l.find? (· ≠ 0)).getD 0
theorem orI_cons (x : Int) (l : List Int) : orI (x :: l) = if x = 0 then orI l else x := by
  unfold orI; by_cases h : x = 0 <;> simp [h]
theorem or_ok {A : AH} {a : Option Addr} {c : Nat} {l : List Int} (h : Sl A 3 1 a (ints l)) (hl : l.length < 1000000000000) : ACall Try.prog 64 [.slice a l.length c] A fun v A' => v = .int .i64 (orI l) ∧ A' = A := by
  refine code64.call (by simp) fun hwf => ?_
  unfold c64
  simp
  refine LN.use (fun m E A' => ∃ k, m + k = l.length ∧ E.get 3 = .int .i64 0 ∧ E.get 6 = .slice a l.length c ∧ E.get 7 = .int .i64 l.length ∧ E.get 8 = .int .i64 k ∧ A' = A ∧ orI l = orI (l.drop k)) l.length ⟨0, by simp⟩ ?_
  rintro m E _ - - ⟨k, hk, h3, h6, h7, h8, rfl, hI⟩
  simp [h3, h6, h7, h8]
  have hd := List.drop_eq_getElem_cons (l := l) (i := k)
  split
  · rename_i hlt
    have hobt := h.one (ints_at (l := l) (i := k) (by omega))
    obtain ⟨b, o, cs, ro, rfl, h1, h2⟩ := hobt
    rw [hd hlt, orI_cons] at hI
    simp [h1, h2, h3, h6, h7, h8, hlt]
    split
    · rename_i h0
      rw [if_pos h0] at hI
      exact NX.of ⟨m - 1, by omega, k + 1, by omega, by simp [h3, h6, h7, hI, i64_in (x := (k : Int) + 1) (by omega) (by omega)]⟩
    · rename_i h0
      rw [if_neg h0] at hI
      exact DN.of ⟨by rw [hI], rfl⟩
  · rename_i hlt
    exact DN.of ⟨by rw [hI, List.drop_eq_nil_of_le (by omega)]; rfl, rfl⟩
end Go.Proofs.Ytanpbdbicicepaa.AC
/- Contracts of admit's order of keys. -/
namespace Go.Proofs.Ytanpbdbicicepaa.AC
open Go Go.AI Go.Proofs Go.Proofs.Ytanpbdbicicepaa.AQ
set_option linter.unusedVariables false
structure Key where
  tail : Int
  tunnel : Int
  head : Int
  lsp : Int
  deriving DecidableEq
def Key.enc (k : Key) : List Value := [.int .i64 k.tail, .int .i64 k.tunnel, .int .i64 k.head, .int .i64 k.lsp]
def keyV (k : Key) : Value := .agg #[.int .i64 k.tail, .int .i64 k.tunnel, .int .i64 k.head, .int .i64 k.lsp]
@[simp] theorem kenc_len (k : Key) : k.enc.length = 4 := (rfl)
@[simp] theorem kenc_one (k : Key) : k.enc.all oneB = true := (rfl)
@[simp] theorem kenc_take (k : Key) : k.enc.take 4 = k.enc := (rfl)
theorem key_aEq (A : AH) (x y : Key) : aEq Try.prog A 20 27 (.agg x.enc.toArray) (.agg y.enc.toArray) = some (decide (x = y)) := by
  cases x; cases y; simp [Key.enc]
@[simp high] theorem key_eql (A : AH) (x y : Key) : aBin Try.prog A .eql 27 (.agg x.enc.toArray) (.agg y.enc.toArray) = some (.bool (decide (x = y))) := by
  rw [aBin_eql_agg A _ _ _ eg27, key_aEq]; rfl
@[simp high] theorem key_neq (A : AH) (x y : Key) : aBin Try.prog A .neq 27 (.agg x.enc.toArray) (.agg y.enc.toArray) = some (.bool (!decide (x = y))) := by
  rw [aBin_neq_agg A _ _ _ eg27, key_aEq]; rfl
/-- Does a key come before another one? -/
def Key.bef (a b : Key) : Bool := decide (a.head < b.head ∨ a.head = b.head ∧ (a.tunnel < b.tunnel ∨ a.tunnel = b.tunnel ∧ (a.tail < b.tail ∨ a.tail = b.tail ∧ a.lsp < b.lsp)))
theorem order_ok (x y : Key) (A : AH) : ACall Try.prog 60 [keyV x, keyV y] A fun v A' => Ext A A' ∧ v = .int .i64 (orI [cmpI x.head y.head, cmpI x.tunnel y.tunnel, cmpI x.tail y.tail, cmpI x.lsp y.lsp]) := by
  refine code60.call (by simp) fun hwf => ?_
  unfold c60
  simp [keyV]
  refine CN.use (compare_ok _ _ _) ?_
  rintro _ _ - - ⟨rfl, rfl⟩
  simp
  refine CN.use (compare_ok _ _ _) ?_
  rintro _ _ - - ⟨rfl, rfl⟩
  simp
  refine CN.use (compare_ok _ _ _) ?_
  rintro _ _ - - ⟨rfl, rfl⟩
  simp
  refine CN.use (compare_ok _ _ _) ?_
  rintro _ _ - - ⟨rfl, rfl⟩
  simp
  refine CN.use (or_ok (l := [cmpI x.head y.head, cmpI x.tunnel y.tunnel, cmpI x.tail y.tail, cmpI x.lsp y.lsp]) (Sl.row (ints_rw _) (AH.get_new _ _) (by simp [ints])) (by simp)) ?_
  rintro _ _ - - ⟨rfl, rfl⟩
  simp
  refine DN.of ⟨?_, rfl⟩
  exact ((Ext.alloc A _).app (by simp) _).app (by simp <;> omega) _
theorem before_ok (x y : Key) (A : AH) : ACall Try.prog 52 [keyV x, keyV y] A fun v A' => Ext A A' ∧ v = .bool (x.bef y) := by
  refine code52.call (by simp) fun hwf => ?_
  unfold c52
  simp [keyV]
  refine CN.use (order_ok x y _) ?_
  rintro _ A' - - ⟨hx, rfl⟩
  simp
  refine DN.of ⟨((Ext.alloc A _).app (by simp) _).trans (by simp <;> omega) hx, congrArg _ ?_⟩
  simp only [orI_cons, Key.bef, cmpI, show orI [] = 0 from rfl]
  grind
end Go.Proofs.Ytanpbdbicicepaa.AC
/- States, and what a table holds. -/
namespace Go.Proofs.Ytanpbdbicicepaa.AC
open Go Go.AI Go.Proofs Go.Proofs.Ytanpbdbicicepaa.AQ
set_option linter.unusedVariables false
structure Want where
  bw : Int
  setup : Int
  hold : Int
  any : Int
  all : Int
  no : Int
  deriving DecidableEq
structure St where
  key : Key
  want : Want
  route : List Int
  pos : Int
  til : Int
  inn : Int
  out : Int
  keep : Int
  seen : Int
  deriving DecidableEq
/-- A state, and where its route lies. -/
structure RS where
  s : St
  a : Option Addr
  c : Nat
def wantV (w : Want) : Value := .agg #[.int .u64 w.bw, .int .i64 w.setup, .int .i64 w.hold, .int .u32 w.any, .int .u32 w.all, .int .u32 w.no]
def RS.enc (r : RS) : List Value := [.int .i64 r.s.key.tail, .int .i64 r.s.key.tunnel, .int .i64 r.s.key.head, .int .i64 r.s.key.lsp, .int .u64 r.s.want.bw, .int .i64 r.s.want.setup, .int .i64 r.s.want.hold, .int .u32 r.s.want.any, .int .u32 r.s.want.all, .int .u32 r.s.want.no, .slice r.a r.s.route.length r.c, .int .i64 r.s.pos, .int .i64 r.s.til, .int .i64 r.s.inn, .int .i64 r.s.out, .int .i64 r.s.keep, .int .i64 r.s.seen]
theorem enc_rw (L : List RS) : Rw 17 (L.map RS.enc) := Rw.map (f := RS.enc) (fun _ => ⟨rfl, rfl⟩) L
/-- Its route can be read. -/
def RS.ok (A : AH) (r : RS) : Prop := Sl A 3 1 r.a (ints r.s.route) ∧ r.s.route.length ≤ 1000000 ∧ CapOk A 3 r.a r.s.route.length r.c
theorem RS.ok.ext {A A' : AH} {r : RS} (h : r.ok A) (hw : A.wf) (hx : Ext A A') : r.ok A' := ⟨Sl.ext h.1 hw hx, h.2.1, h.2.2.ext hw hx⟩
theorem RS.ok.kept {A A' : AH} {r : RS} (h : r.ok A) (hk : ∀ b o x, r.a = some ⟨b, o, none⟩ → A.get b = some x → A'.get b = A.get b) : r.ok A' := ⟨Sl.kept h.1 hk, h.2.1, h.2.2.kept hk⟩
/-- A route of its own: it may be written. -/
def RW (A : AH) (r : RS) : Prop := r.s.route ≠ [] → ∃ b, r.a = some ⟨b, 0, none⟩ ∧ A.get b = some (.row (ints r.s.route).flatten 3 false)
theorem RW.kept {A A' : AH} {r : RS} (h : RW A r) (hk : ∀ b o x, r.a = some ⟨b, o, none⟩ → A.get b = some x → A'.get b = A.get b) : RW A' r := fun hn => by
  have hobt := h hn
  obtain ⟨b, h1, h2⟩ := hobt
  exact ⟨b, h1, (hk b 0 _ h1 h2).trans h2⟩
theorem RW.ext {A A' : AH} {r : RS} (h : RW A r) (hw : A.wf) (hx : Ext A A') : RW A' r := h.kept fun b o x _ hx' => hx b (hw b x hx')
theorem clone_ok {A : AH} {a : Option Addr} {c : Nat} {l : List Int} (h : Sl A 3 1 a (ints l)) (hl : l.length ≤ 1000000000) : ACall Try.prog 53 [.slice a l.length c] A fun v A' => Ext A A' ∧ ∃ a' c', v = .slice a' l.length c' ∧ Sl A' 3 1 a' (ints l) ∧ (∀ b o, a' = some ⟨b, o, none⟩ → A.next ≤ b) ∧ (a = none ↔ a' = none) ∧ CapOk A' 3 a' l.length c' ∧ (l ≠ [] → ∃ b, a' = some ⟨b, 0, none⟩ ∧ A'.get b = some (.row (ints l).flatten 3 false)) := by
  refine code53.call (by simp) fun hwf => ?_
  unfold c53
  simp
  split
  · rename_i ha
    subst ha
    cases l with
    | nil => exact DN.of ⟨Ext.refl A, none, 0, rfl, h, by simp, by simp, Or.inl ⟨by simp, by unfold UNK; omega⟩, fun h => absurd rfl h⟩
    | cons x l => obtain ⟨b, o, cs, ro, h1, _⟩ := h.2.2 (by simp [ints]); cases h1
  · rename_i ha
    have hobt := appW_lit (e := 3) (z := 1) (y := 8) (c := c) (b := A.next) (o := 0) (h.ext hwf (Ext.alloc A (.row [] 3 false))) (by simp) (by omega) (by simp <;> omega) (by simp <;> omega)
    obtain ⟨b', o', c', A', h1, h2, h3, h4, h5, h6, h7⟩ := hobt
    rw [ints_len] at h1 h6
    simp [h1]
    exact DN.of ⟨(Ext.alloc A _).trans (by simp) h3, _, _, rfl, h2, fun b o hb => by injection hb with hb; injection hb with hb; omega, by simp [ha], h6, fun hn => by
      have hobt := h7 (by intro e; apply hn; have := congrArg List.length e; rw [ints_len] at this; exact List.eq_nil_of_length_eq_zero this)
      obtain ⟨e1, e2⟩ := hobt
      exact ⟨b', by rw [e1], e2⟩⟩
theorem own_ok {A : AH} {r : RS} (h : r.ok A) : ACall Try.prog 34 [.agg r.enc.toArray] A fun v A' => Ext A A' ∧ ∃ r' : RS, v = .agg r'.enc.toArray ∧ r'.s = r.s ∧ r'.ok A' ∧ (∀ b o, r'.a = some ⟨b, o, none⟩ → A.next ≤ b) ∧ (r.a = none ↔ r'.a = none) ∧ RW A' r' := by
  refine code34.call (by simp) fun hwf => ?_
  unfold c34
  simp [RS.enc]
  refine CN.use (clone_ok (A := _) (l := r.s.route) (h.1.ext hwf (((Ext.alloc A _).app (by simp) _))) (by have := h.2.1; omega)) ?_
  rintro _ A' hw' hn' ⟨hx, a', c', rfl, h2, h3, h4, h5, h6⟩
  have e1 := hx A.next (by simp <;> omega)
  have e2 := hx (A.next + 1) (by simp)
  simp at e1 e2
  simp [e1, e2]
  have hA : Ext A A' := ((Ext.alloc A _).app (by simp) _).trans (by simp <;> omega) hx
  simp at hn' h3
  refine DN.of ⟨(hA.setnew (by omega) _).setnew (by omega) _, ⟨r.s, a', c'⟩, rfl, rfl, ?_, fun b o hb => ?_, h4, fun hn => ?_⟩
  · exact ⟨h2.kept fun b o x hb _ => by have := h3 b o hb; rw [AH.get_set, if_neg (by omega), AH.get_set, if_neg (by omega)], h.2.1, h5.kept fun b o x hb _ => by have := h3 b o hb; rw [AH.get_set, if_neg (by omega), AH.get_set, if_neg (by omega)]⟩
  · have := h3 b o hb; omega
  · obtain ⟨b, e1, e2⟩ := h6 hn
    have := h3 b 0 e1
    exact ⟨b, e1, by rw [AH.get_set, if_neg (by omega), AH.get_set, if_neg (by omega)]; exact e2⟩
end Go.Proofs.Ytanpbdbicicepaa.AC
/- Which states may be. -/
namespace Go.Proofs.Ytanpbdbicicepaa.AC
open Go Go.AI Go.Proofs Go.Proofs.Ytanpbdbicicepaa.AQ
set_option linter.unusedVariables false
def smallB (n : Int) : Bool := decide (0 ≤ n ∧ n ≤ 65535)
def labelB (n : Int) : Bool := decide (n = 0 ∨ n = 3 ∨ 16 ≤ n ∧ n ≤ 1048575)
def tickB (n : Int) : Bool := decide (0 ≤ n ∧ n ≤ 1099511627776)
def rightB (w : Want) : Bool := decide (w.setup ≤ 7 ∧ w.hold ≤ w.setup ∧ 0 ≤ w.hold)
theorem small_ok (n : Int) (A : AH) : ACall Try.prog 40 [.int .i64 n] A fun v A' => v = .bool (smallB n) ∧ A' = A := by
  refine code40.call (by simp) fun hwf => ?_
  unfold c40
  simp
  split <;> exact DN.of ⟨by simp [smallB, *], rfl⟩
theorem tick_ok (n : Int) (A : AH) : ACall Try.prog 44 [.int .i64 n] A fun v A' => v = .bool (tickB n) ∧ A' = A := by
  refine code44.call (by simp) fun hwf => ?_
  unfold c44
  simp
  split <;> exact DN.of ⟨by simp [tickB, *], rfl⟩
theorem label_ok (n : Int) (A : AH) : ACall Try.prog 43 [.int .i64 n] A fun v A' => v = .bool (labelB n) ∧ A' = A := by
  refine code43.call (by simp) fun hwf => ?_
  unfold c43
  simp +contextual
  repeat' split
  all_goals exact DN.of ⟨by simp [labelB, *], rfl⟩
theorem right_ok (w : Want) (A : AH) : ACall Try.prog 41 [wantV w] A fun v A' => v = .bool (rightB w) ∧ Ext A A' := by
  refine code41.call (by simp) fun hwf => ?_
  unfold c41
  simp +contextual [wantV]
  repeat' split
  all_goals exact DN.of ⟨by simp [rightB, *], Ext.alloc A _⟩
theorem index_ok {A : AH} {a : Option Addr} {c : Nat} {l : List Int} (h : Sl A 3 1 a (ints l)) (hl : l.length ≤ 1000000000) (x : Int) : ACall Try.prog 62 [.slice a l.length c, .int .i64 x] A fun v A' => (∃ n : Int, v = .int .i64 n ∧ (0 ≤ n ↔ x ∈ l)) ∧ A' = A := by
  refine code62.call (by simp) fun hwf => ?_
  unfold c62
  simp
  refine LN.use (fun m E A' => ∃ k, m + k = l.length ∧ A' = A ∧ E.get 0 = .slice a l.length c ∧ E.get 1 = .int .i64 x ∧ E.get 7 = .int .i64 l.length ∧ E.get 8 = .int .i64 k ∧ x ∉ l.take k) l.length ⟨0, by simp, rfl, by simp, by simp, by simp, by simp, by simp⟩ ?_
  rintro m E _ - - ⟨k, hk, rfl, e0, e1, e7, e8, hI⟩
  simp [e7, e8]
  split
  · rename_i hlt
    have hobt := h.one (ints_at (l := l) (i := k) (by omega))
    obtain ⟨b, o, cs, ro, rfl, h1, h2⟩ := hobt
    simp [h1, h2, e0, e1, e8, hlt]
    split
    · rename_i he
      exact DN.of ⟨⟨_, rfl, ⟨fun _ => by rw [he]; exact List.getElem_mem _, fun _ => by omega⟩⟩, rfl⟩
    · rename_i he
      exact NX.of ⟨m - 1, by omega, k + 1, by omega, rfl, by simp [e0], by simp [e1], by simp [e7], by simp [i64_in (x := (k : Int) + 1) (by omega) (by omega)], by rw [List.take_succ_eq_append_getElem hlt, List.mem_append, List.mem_singleton]; exact fun e => e.elim hI he⟩
  · rename_i hlt
    rw [List.take_of_length_le (by omega)] at hI
    exact DN.of ⟨⟨_, rfl, by simp [hI]⟩, rfl⟩
theorem contains_ok {A : AH} {a : Option Addr} {c : Nat} {l : List Int} (h : Sl A 3 1 a (ints l)) (hl : l.length ≤ 1000000000) (x : Int) : ACall Try.prog 56 [.slice a l.length c, .int .i64 x] A fun v A' => v = .bool (decide (x ∈ l)) ∧ A' = A := by
  refine code56.call (by simp) fun hwf => ?_
  unfold c56
  simp
  refine CN.use (index_ok h hl x) ?_
  rintro _ _ - - ⟨⟨n, rfl, hn⟩, rfl⟩
  simp
  exact DN.of ⟨by simp [hn], rfl⟩
/-- Nodes of a route, none twice. -/
def ringB (l : List Int) : Bool := decide ((∀ x ∈ l, 0 ≤ x ∧ x < 16) ∧ l.Nodup ∧ 2 ≤ l.length ∧ l.length ≤ 16)
theorem slW_pre {z h n c : Nat} {b o : Nat} {k : IntKind} {A : AH} {cs : List Value} {E : TypeId} {ro : Bool} (hb : A.get b = some (.row cs E ro)) (hh : h ≤ n) (hc : (n ≤ c ∧ c < UNK) ∨ c = UNK ∧ szOf Try.prog E = some z) : slW Try.prog z (some ⟨b, o, none⟩) n c none (some (.int k h)) none A = some (.slice (some ⟨b, o, none⟩) h c) := by
  rcases hc with hc | ⟨rfl, hz⟩
  · rw [slW_hi (by omega) hc.1 hc.2, cutA_zero]
  · exact slU_hi hb hz hh
theorem ring_ok {A : AH} {a : Option Addr} {c : Nat} {l : List Int} (h : Sl A 3 1 a (ints l)) (hl : l.length ≤ 1000000000) (hc : CapOk A 3 a l.length c) : ACall Try.prog 42 [.slice a l.length c] A fun v A' => v = .bool (ringB l) ∧ A' = A := by
  refine code42.call (by simp) fun hwf => ?_
  unfold c42
  simp
  refine LN.use (fun m E A' => ∃ k, m + k = l.length ∧ A' = A ∧ E.get 0 = .slice a l.length c ∧ E.get 5 = .slice a l.length c ∧ E.get 6 = .int .i64 l.length ∧ E.get 7 = .int .i64 k ∧ (∀ x ∈ l.take k, 0 ≤ x ∧ x < 16) ∧ (l.take k).Nodup) l.length ⟨0, by simp, rfl, by simp, by simp, by simp, by simp, by simp, by simp⟩ ?_
  rintro m E _ - - ⟨k, hk, rfl, e0, e5, e6, e7, hI, hN⟩
  simp [e6, e7]
  split
  · rename_i hlt
    have hobt := h.one (ints_at (l := l) (i := k) (by omega))
    obtain ⟨b, o, cs, ro, rfl, h1, h2⟩ := hobt
    have hs := slW_pre (o := o) (h := k) (n := l.length) (c := c) (k := .i64) (z := 1) h1 (by omega) (hc.imp id fun ⟨q1, q2⟩ => ⟨q1, by obtain ⟨cs', ro', q3⟩ := q2 b o rfl; rw [h1] at q3; injection q3 with q3; injection q3 with _ q3 _; rw [q3]; exact sz3⟩)
    simp +contextual [h1, h2, e0, e5, e7, hlt, hs]
    have hmem : l[k] ∈ l := List.getElem_mem hlt
    split
    · rename_i hb
      exact DN.of ⟨by have : ringB l = false := by simp only [ringB, decide_eq_false_iff_not]; intro hh; have := hh.1 _ hmem; omega
                      rw [this], rfl⟩
    · split
      · rename_i hb
        exact DN.of ⟨by have : ringB l = false := by simp only [ringB, decide_eq_false_iff_not]; intro hh; have := hh.1 _ hmem; omega
                        rw [this], rfl⟩
      · rename_i hb1 hb2
        have hpre : Sl _ 3 1 (some ⟨b, o, none⟩) (ints (l.take k)) := h.pre (k := k) (by simp [ints])
        have hlk : (l.take k).length = k := by simp <;> omega
        have hco := contains_ok (c := c) hpre (by omega) l[k]
        rw [hlk] at hco
        refine CN.use hco ?_
        intro v A2 hw2 hn2 hr2
        have hv2 := hr2.1
        have hA2 := hr2.2
        clear hr2
        subst hv2
        subst hA2
        have htk := List.take_succ_eq_append_getElem hlt
        simp +contextual [e7]
        split
        · rename_i hin
          exact DN.of ⟨by have : ringB l = false := by
                            simp only [ringB, decide_eq_false_iff_not]; intro hh
                            have hn := hh.2.1.sublist (List.take_sublist (k + 1) l)
                            rw [htk, List.nodup_append] at hn
                            exact hn.2.2 _ (hin.resolve_left hb2) _ (List.mem_singleton.2 rfl) rfl
                          rw [this], rfl⟩
        · rename_i hin
          refine NX.of ⟨m - 1, by omega, k + 1, by omega, rfl, by simp [e0], by simp [e5], by simp [e6], by simp [i64_in (x := (k : Int) + 1) (by omega) (by omega)], ?_, ?_⟩
          · rw [htk]; intro x hx
            rcases List.mem_append.1 hx with hx | hx
            · exact hI x hx
            · rw [List.mem_singleton.1 hx]; omega
          · rw [htk, List.nodup_append]
            exact ⟨hN, by simp, fun x hx y hy e => hin (Or.inr (by rw [List.mem_singleton.1 hy] at e; rw [← e]; exact hx))⟩
  · rename_i hlt
    rw [List.take_of_length_le (by omega)] at hI hN
    simp +contextual [e0]
    split
    · exact DN.of ⟨by congr 1; simp only [ringB, decide_eq_decide]; constructor
                      · intro hh; exact ⟨hI, hN, by omega, by omega⟩
                      · intro hh; omega, rfl⟩
    · exact DN.of ⟨by congr 1; symm; simp only [ringB, decide_eq_false_iff_not]; intro hh; omega, rfl⟩
end Go.Proofs.Ytanpbdbicicepaa.AC
/- Which states may be: the whole. -/
namespace Go.Proofs.Ytanpbdbicicepaa.AC
open Go Go.AI Go.Proofs Go.Proofs.Ytanpbdbicicepaa.AQ
set_option linter.unusedVariables false
def mayB (s : St) : Bool := smallB s.key.tunnel && (smallB s.key.lsp && (rightB s.want && (ringB s.route && (decide (0 ≤ s.pos ∧ s.pos < s.route.length ∧ s.route[0]? = some s.key.head ∧ s.route[s.route.length - 1]? = some s.key.tail) && (labelB s.inn && (labelB s.out && (tickB s.til && (tickB s.keep && tickB s.seen))))))))
theorem may_ok {A : AH} {r : RS} (h : r.ok A) : ACall Try.prog 20 [.agg r.enc.toArray] A fun v A' => v = .bool (mayB r.s) ∧ Ext A A' := by
  refine code20.call (by simp) fun hwf => ?_
  unfold c20
  simp [RS.enc]
  refine CN.use (small_ok _ _) ?_
  rintro _ _ - - ⟨rfl, rfl⟩
  simp +contextual
  have x0 := Ext.alloc A (.row r.enc 39 false)
  simp [RS.enc] at x0
  split
  case isFalse => exact DN.of ⟨by simp [mayB, *], x0⟩
  rename_i b1
  refine CN.use (small_ok _ _) ?_
  rintro _ _ hw1 - ⟨rfl, rfl⟩
  simp +contextual [b1]
  split
  case isFalse => exact DN.of ⟨by simp [mayB, *], x0⟩
  rename_i b2
  refine CN.use (right_ok r.s.want _) ?_
  rintro _ A1 hw2 hn2 ⟨rfl, x1⟩
  have x2 := x0.trans (by simp) x1
  have z1 := x1 A.next (by simp)
  simp at z1
  have hl := h.2.1
  simp +contextual [z1]
  split
  case isFalse => exact DN.of ⟨by simp [mayB, *], x2⟩
  rename_i b3
  split
  case isTrue =>
    rename_i hlen
    exact DN.of ⟨by have : ringB r.s.route = false := by (simp [ringB]; omega)
                    simp [mayB, this], x2⟩
  rename_i h16
  refine CN.use (ring_ok (h.1.ext hwf x2) (by omega) (h.2.2.ext hwf x2)) ?_
  rintro _ _ - - ⟨rfl, rfl⟩
  simp +contextual [z1, b3, h16]
  split
  case isFalse => exact DN.of ⟨by simp [mayB, *], x2⟩
  rename_i b4
  split
  case isTrue => exact DN.of ⟨by simp [mayB]; omega, x2⟩
  rename_i b5
  split
  case isTrue => exact DN.of ⟨by simp [mayB]; omega, x2⟩
  rename_i b6
  generalize hB : A.alloc _ = B at *
  have h0 := h.1.ext hwf x2
  generalize hrt : r.s.route = l at *
  have hobt := h0.one (ints_at (l := l) (i := 0) (by omega))
  obtain ⟨b, o, cs, ro, ha, g1, g2⟩ := hobt
  have hobt := h0.one (ints_at (l := l) (i := l.length - 1) (by omega))
  obtain ⟨b', o', cs', ro', ha', g1', g3⟩ := hobt
  rw [ha] at ha'
  obtain ⟨rfl, rfl⟩ : b = b' ∧ o = o' := by injection ha' with e; injection e with e1 e2; exact ⟨e1, e2⟩
  rw [g1] at g1'
  obtain rfl : cs = cs' := by injection g1' with e; injection e
  have w1 := i64_in (x := (l.length : Int) - 1) (by omega) (by omega)
  have w2 : ((l.length : Int) - 1).toNat = l.length - 1 := by omega
  have w3 : 0 < l.length := by omega
  have w4 : (l.length : Int) - 1 < l.length := by omega
  have w5 : (1 : Int) ≤ l.length := by omega
  have d1 : l[0]? = some l[0] := List.getElem?_eq_getElem w3
  have d2 : l[l.length - 1]? = some l[l.length - 1] := List.getElem?_eq_getElem (by omega)
  rw [Nat.add_zero] at g2
  generalize hy1 : l[0] = y1 at g2 d1
  generalize hy2 : l[l.length - 1] = y2 at g3 d2
  simp +contextual [z1, ha, g1, g2, g3, w1, w2, w3, w4, w5, b5, b6]
  have hm : mayB r.s = (decide (y1 = r.s.key.head ∧ y2 = r.s.key.tail) && (labelB r.s.inn && (labelB r.s.out && (tickB r.s.til && (tickB r.s.keep && tickB r.s.seen))))) := by
    have e1 : 0 ≤ r.s.pos := by omega
    have e2 : r.s.pos < l.length := by omega
    simp [mayB, hrt, b1, b2, b3, b4, d1, d2, e1, e2]
  clear hB x0 x1 hw1 hn2
  split
  case isFalse => rename_i hno; exact DN.of ⟨by rw [hm]; simp [hno], x2⟩
  rename_i e1
  split
  case isFalse => rename_i hno; exact DN.of ⟨by rw [hm]; simp [hno], x2⟩
  rename_i e2
  refine CN.use (label_ok _ _) ?_
  rintro _ _ - - ⟨rfl, rfl⟩
  simp +contextual [z1, e1, e2]
  split
  case isFalse => rename_i hno; exact DN.of ⟨by rw [hm]; simp [hno], x2⟩
  rename_i e3
  refine CN.use (label_ok _ _) ?_
  rintro _ _ - - ⟨rfl, rfl⟩
  simp +contextual [z1, e1, e2, e3]
  split
  case isFalse => rename_i hno; exact DN.of ⟨by rw [hm]; simp [hno], x2⟩
  rename_i e4
  refine CN.use (tick_ok _ _) ?_
  rintro _ _ - - ⟨rfl, rfl⟩
  simp +contextual [z1, e1, e2, e3, e4]
  split
  case isFalse => rename_i hno; exact DN.of ⟨by rw [hm]; simp [hno], x2⟩
  rename_i e5
  refine CN.use (tick_ok _ _) ?_
  rintro _ _ - - ⟨rfl, rfl⟩
  simp +contextual [z1, e1, e2, e3, e4, e5]
  split
  case isFalse => rename_i hno; exact DN.of ⟨by rw [hm]; simp [hno], x2⟩
  rename_i e6
  refine CN.use (tick_ok _ _) ?_
  rintro _ _ - - ⟨rfl, rfl⟩
  simp +contextual [e1, e2, e3, e4, e5, e6]
  exact DN.of ⟨by rw [hm]; simp [e1, e2, e3, e4, e5, e6], x2⟩
end Go.Proofs.Ytanpbdbicicepaa.AC
/- A table of states: finding. -/
namespace Go.Proofs.Ytanpbdbicicepaa.AC
open Go Go.AI Go.Proofs Go.Proofs.Ytanpbdbicicepaa.AQ
set_option linter.unusedVariables false
/-- Where a state of a key stands, or would stand; whether it is there. -/
def fnd : List RS → Key → Nat × Bool
  | [], _ => (0, false)
  | r :: l, k => if r.s.key.bef k then ((fnd l k).1 + 1, (fnd l k).2) else (0, decide (r.s.key = k))
theorem may_route {s : St} (h : mayB s = true) : 2 ≤ s.route.length := by
  simp [mayB, ringB] at h; omega
/-- Where a state's route lies. -/
theorem RS.ok.blk {A : AH} {r : RS} (h : r.ok A) (hm : mayB r.s = true) : ∃ b o x, r.a = some ⟨b, o, none⟩ ∧ A.get b = some x := by
  have := may_route hm
  have hobt := h.1.2.2 (by intro e; have := congrArg List.length e; rw [ints_len] at this; simp only [List.length_nil] at this; omega)
  obtain ⟨b, o, cs, ro, h1, h2, _⟩ := hobt
  exact ⟨b, o, _, h1, h2⟩
@[simp] theorem enc_len (r : RS) : r.enc.length = 17 := (rfl)
@[simp] theorem enc_all (r : RS) : r.enc.take 17 = r.enc := (rfl)
@[simp] theorem enc_key (r : RS) : r.enc.take 4 = r.s.key.enc := (rfl)
@[simp] theorem enc_one (r : RS) : r.enc.all oneB = true := (rfl)
@[simp] theorem enc_g10 (r : RS) (h : 10 < r.enc.length) : r.enc[10]'h = .slice r.a r.s.route.length r.c := (rfl)
@[simp] theorem enc_g11 (r : RS) (h : 11 < r.enc.length) : r.enc[11]'h = .int .i64 r.s.pos := (rfl)
@[simp] theorem enc_g12 (r : RS) (h : 12 < r.enc.length) : r.enc[12]'h = .int .i64 r.s.til := (rfl)
@[simp] theorem enc_g13 (r : RS) (h : 13 < r.enc.length) : r.enc[13]'h = .int .i64 r.s.inn := (rfl)
@[simp] theorem enc_g14 (r : RS) (h : 14 < r.enc.length) : r.enc[14]'h = .int .i64 r.s.out := (rfl)
@[simp] theorem enc_g15 (r : RS) (h : 15 < r.enc.length) : r.enc[15]'h = .int .i64 r.s.keep := (rfl)
@[simp] theorem enc_g16 (r : RS) (h : 16 < r.enc.length) : r.enc[16]'h = .int .i64 r.s.seen := (rfl)
def Want.enc (w : Want) : List Value := [.int .u64 w.bw, .int .i64 w.setup, .int .i64 w.hold, .int .u32 w.any, .int .u32 w.all, .int .u32 w.no]
@[simp] theorem enc_want (r : RS) : (r.enc.drop 4).take 6 = r.s.want.enc := (rfl)
/-- A table. -/
structure Tab (A : AH) (tb : Nat) (most : Int) (ob : Option Nat) (L : List RS) : Prop where
  row : ∃ v, A.get tb = some (.row [.int .i64 most, v] 68 false) ∧ Lst A 39 17 ob v (L.map RS.enc)
  rts : ∀ r ∈ L, r.ok A ∧ mayB r.s = true ∧ (∀ b o, r.a = some ⟨b, o, none⟩ → b ≠ tb ∧ ob ≠ some b)
  len : L.length ≤ 1000000
  ne : ob ≠ some tb
theorem Tab.kept {A A' : AH} {tb : Nat} {most : Int} {ob : Option Nat} {L : List RS} (h : Tab A tb most ob L) (hw : A.wf) (hx : Ext A A') : Tab A' tb most ob L := by
  have hobt := h.row
  obtain ⟨v, h1, h2⟩ := hobt
  exact ⟨⟨v, hx.get hw h1, h2.kept fun b hb => hx b (h2.lt hw hb)⟩, fun r hr => ⟨(h.rts r hr).1.ext hw hx, (h.rts r hr).2⟩, h.len, h.ne⟩
theorem Tab.still {A A' : AH} {tb : Nat} {most : Int} {ob : Option Nat} {L : List RS} (h : Tab A tb most ob L) (h1 : A'.get tb = A.get tb) (h2 : ∀ b, ob = some b → A'.get b = A.get b) (h3 : ∀ r ∈ L, ∀ b o, r.a = some ⟨b, o, none⟩ → A'.get b = A.get b) : Tab A' tb most ob L := by
  have hobt := h.row
  obtain ⟨v, h4, h5⟩ := hobt
  exact ⟨⟨v, h1.trans h4, h5.kept h2⟩, fun r hr => ⟨(h.rts r hr).1.kept fun b o x hb _ => h3 r hr b o hb, (h.rts r hr).2⟩, h.len, h.ne⟩
theorem find_ok {A : AH} {tb : Nat} {most : Int} {ob : Option Nat} {L : List RS} (h : Tab A tb most ob L) (k : Key) : ACall Try.prog 33 [.pointer (some ⟨tb, 0, none⟩), keyV k] A fun v A' => Ext A A' ∧ v = .tuple #[.int .i64 (fnd L k).1, .bool (fnd L k).2] := by
  refine code33.call (by simp) fun hwf => ?_
  unfold c33
  have hobt := h.row
  obtain ⟨v, h1, h2⟩ := hobt
  have hobt := h2.sl
  obtain ⟨a, c, rfl, h3, h4⟩ := hobt
  have hlt := hwf _ _ h1
  rw [List.length_map] at h1
  have hlen := h.len
  simp [keyV, h1, Nat.ne_of_lt hlt]
  refine LN.use (fun m E A' => ∃ j, m + j = L.length ∧ Ext A A' ∧ A'.get A.next = some (.row [.int .i64 k.tail, .int .i64 k.tunnel, .int .i64 k.head, .int .i64 k.lsp] 27 false) ∧ E.get 0 = .pointer (some ⟨tb, 0, none⟩) ∧ E.get 3 = .pointer (some ⟨A.next, 0, none⟩) ∧ E.get 11 = .slice a L.length c ∧ E.get 12 = .int .i64 L.length ∧ E.get 13 = .int .i64 j ∧ fnd L k = ((fnd (L.drop j) k).1 + j, (fnd (L.drop j) k).2)) L.length ⟨0, by simp, Ext.alloc A _, by simp, by simp, by simp, by simp, by simp, by simp, by simp⟩ ?_
  rintro m E A' hw hn ⟨j, hj, hx, hk, e0, e3, e11, e12, e13, hI⟩
  simp [e11, e12, e13]
  split
  · rename_i hlt
    have hobt := (h3.ext hwf hx).at (i := j) (by simpa using hlt)
    obtain ⟨b, o, cs, ro, rfl, g1, g2, g3⟩ := hobt
    rw [List.getElem_map] at g3
    have hne : A.next ≠ A'.next := by simp at hn; omega
    rw [List.drop_eq_getElem_cons hlt, fnd] at hI
    generalize hr : L[j] = r at g3 hI
    simp [hlt, g1, g2, g3, RS.enc, e3, hk, hne]
    refine CN.use (before_ok r.s.key k _) ?_
    rintro _ A2 hw2 hn2 ⟨hx2, rfl⟩
    have q1 := hx2 A.next (by simp at hn ⊢; omega)
    have q2 := hx2 A'.next (by simp)
    simp [hne, hk] at q1 q2
    have hxx : Ext A A2 := ((hx.app (by simp at hn; omega) _).trans (by simp at hn ⊢; omega) hx2)
    simp
    split
    · rename_i hb
      rw [if_pos hb] at hI
      simp [e13]
      refine NX.of ⟨m - 1, by omega, j + 1, by omega, hxx, q1, by simp [e0], by simp [e3], by simp [e11], by simp [e12], by simp [i64_in (x := (j : Int) + 1) (by omega) (by omega)], ?_⟩
      rw [hI]
      simp; omega
    · rename_i hb
      rw [if_neg hb] at hI
      simp [q1, q2, e3]
      refine DN.of ⟨hxx, ?_⟩
      rw [hI]
      cases k
      generalize r.s.key = rk
      cases rk
      simp
      grind
  · rename_i hlt
    simp [e0, hx.get hwf h1]
    refine DN.of ⟨hx, ?_⟩
    rw [hI, List.drop_eq_nil_of_le (by omega)]
    simp [fnd]; omega
end Go.Proofs.Ytanpbdbicicepaa.AC
/- Contracts of slices.Insert and slices.Delete, of states. -/
namespace Go.Proofs.Ytanpbdbicicepaa.AC
open Go Go.AI Go.Proofs Go.Proofs.Ytanpbdbicicepaa.AQ
set_option linter.unusedVariables false
theorem overlaps_ok {A : AH} {b1 o1 n1 c1 b2 o2 n2 c2 : Nat} {cs1 cs2 : List Value} {e1 e2 : TypeId} (h1 : A.get b1 = some (.row cs1 e1 false)) (h2 : A.get b2 = some (.row cs2 e2 false)) (hne : b1 ≠ b2) (hc : cs2 ≠ []) (hn1 : n1 ≠ 0) (hn2 : n2 ≠ 0) :
    ACall Try.prog 54 [.slice (some ⟨b1, o1, none⟩) n1 c1, .slice (some ⟨b2, o2, none⟩) n2 c2] A fun v A' => v = .bool false ∧ A' = A :=
  overlaps_apart (T := 42) (R' := 4) (e := 39) (size := 17) Try.underlying42 (by intro w; kernel_rfl)
    (fun args w v h => by rw [run_callFunc_extern Try.func54 (by kernel_rfl) (by kernel_rfl) (by kernel_rfl) (e := Extern.SlicesOverlaps.overlaps #[42, 42] #[4]) (by kernel_rfl), h]; rfl) h1 h2 hne hc hn1 hn2
theorem insert_exact {A : AH} {b vb c i : Nat} {L : List (List Value)} {r rest : List Value} (hb : A.get b = some (.row (L.flatten ++ rest) 39 false)) (hv : A.get vb = some (.row r 39 false)) (hne : vb ≠ b) (hR : Rw 17 L) (hr : r.length = 17 ∧ r.all oneB = true)
    (hc : c < UNK) (hn : L.length ≤ c) (hcz : c * 17 = L.flatten.length + rest.length) (hi : i ≤ L.length) (hL : L.length ≤ 1000000) :
    ACall Try.prog 35 [.slice (some ⟨b, 0, none⟩) L.length c, .int .i64 i, .slice (some ⟨vb, 0, none⟩) 1 1] A fun v A' => InsP 39 17 b (L.take i ++ r :: L.drop i) A v A' := by
  refine code35.call (by simp) fun hwf => ?_
  unfold c35
  have hfl := flat_len hR.len
  have hfv : ∀ A' : AH, A'.get vb = some (.row r 39 false) → firstOf A' 17 1 (.slice (some ⟨vb, 0, none⟩) 1 1) = some r := fun A' h => by
    rw [firstOf_row h (by omega)]; simp [List.take_of_length_le, hr.1]
  have hRi : Rw 17 (L.take i ++ r :: L.drop i) := (hR.sub fun r hr => List.mem_of_mem_take hr).app (Rw.cons hr (hR.sub fun r hr => List.mem_of_mem_drop hr))
  have hlen : (L.take i ++ r :: L.drop i).length = L.length + 1 := by simp <;> omega
  simp [slW_lo (P := Try.prog) (z := 17) (a := some ⟨b, 0, none⟩) (k := .i64) (A := A) hi hn hc]
  have hcap := aCap_exact (P := Try.prog) sl42 (some ⟨b, 0, none⟩) L.length c (by omega)
  have hRd : Rw 17 (L.drop i) := hR.sub fun r hr => List.mem_of_mem_drop hr
  by_cases hin : i = L.length
  · subst hin
    by_cases hroom : L.length + 1 ≤ c
    · have hap := appW_in (e := 39) (z := 17) (y := 144) (o := 0) (hfv A hv) (by omega) (l := L.length) (by omega) (by omega) (by omega) hc hroom hb (by simp [hfl] at hcz ⊢; omega) hr.2
      rw [Nat.zero_add, spl_at' _ _ _ hfl.symm] at hap
      simp [hap]
      refine DN.of ⟨b, ⟨hRi, Or.inr ⟨b, c, rest.drop 17, rfl, by simp, by rw [AH.get_set, if_pos rfl]; simp [hr.1], Or.inr ⟨hc, by rw [hlen]; exact hroom, ?_⟩⟩⟩, fun k hk hkb => by rw [AH.get_set, if_neg hkb], Or.inl rfl⟩
      rw [flat_len hRi.len, hlen, List.length_drop]; omega
    · have hap := appW_out (e := 39) (z := 17) (y := 144) (o := 0) (hfv A hv) (by omega) (l := L.length) (by omega) (by omega) (by omega) hc (by omega) (firstOf_row hb (by simp [hfl]))
      rw [List.drop_zero, take_flat hR _ _ (Nat.le_refl _)] at hap
      simp [hap]
      refine DN.of ⟨A.next, ⟨hRi, Or.inr ⟨A.next, UNK, [], rfl, by simp, by rw [AH.get_new]; simp, Or.inl ⟨rfl, rfl⟩⟩⟩, fun k hk hkb => by rw [AH.get_alloc, if_neg (by omega)], Or.inr (Nat.le_refl _)⟩
  · have hinI : ¬ (i : Int) = L.length := by omega
    have hti : (L.take i).flatten.length = i * 17 := by rw [flat_len (fun r hr => hR.len r (List.mem_of_mem_take hr)), List.length_take, Nat.min_eq_left hi]
    have hdi : (L.drop i).flatten.length = (L.length - i) * 17 := by rw [flat_len hRd.len, List.length_drop]
    have e1 : ((L.length + 1 - i : Nat) : Int) = (L.length : Int) + 1 - i := by omega
    have e2 : i + (L.length + 1 - i) = L.length + 1 := by omega
    have w1 := i64_in (x := (L.length : Int) + 1) (by omega) (by omega)
    have w2 := i64_in (x := (L.length : Int) + 1 - i) (by omega) (by omega)
    have w3 := i64_in (x := (i : Int) + 1) (by omega) (by omega)
    simp [hcap, hinI, w1]
    split
    · rename_i hroom
      have g1 := slW_hi (P := Try.prog) (z := 17) (a := some ⟨b, 0, none⟩) (k := .i64) (A := A) (h := i) (n := L.length) (c := c) (by omega) hn hc
      rw [cutA_zero] at g1
      have g2 : ∃ Z, Z.length = (L.length + 1 - i) * 17 ∧ appZ 39 17 144 (Value.agg #[.int .i64 0, .int .i64 0, .int .i64 0, .int .i64 0, .int .u64 0, .int .i64 0, .int .i64 0, .int .u32 0, .int .u32 0, .int .u32 0, .slice none 0 0, .int .i64 0, .int .i64 0, .int .i64 0, .int .i64 0, .int .i64 0, .int .i64 0]).cells.toList (.slice (some ⟨b, 0, none⟩) i c) (.int .i64 ((L.length : Int) + 1 - i)) A = some (.slice (some ⟨A.next, 0, none⟩) (L.length + 1) UNK, A.alloc (.row ((L.take i).flatten ++ Z) 39 false)) := by
        refine ⟨zrep (L.length + 1 - i) (Value.agg #[.int .i64 0, .int .i64 0, .int .i64 0, .int .i64 0, .int .u64 0, .int .i64 0, .int .i64 0, .int .u32 0, .int .u32 0, .int .u32 0, .slice none 0 0, .int .i64 0, .int .i64 0, .int .i64 0, .int .i64 0, .int .i64 0, .int .i64 0]).cells.toList, zrep_len _ rfl _, ?_⟩
        have := appZ_out (e := 39) (z := 17) (y := 144) (l := i) (n := L.length + 1 - i) (k := .i64) (zc := (Value.agg #[.int .i64 0, .int .i64 0, .int .i64 0, .int .i64 0, .int .u64 0, .int .i64 0, .int .i64 0, .int .u32 0, .int .u32 0, .int .u32 0, .slice none 0 0, .int .i64 0, .int .i64 0, .int .i64 0, .int .i64 0, .int .i64 0, .int .i64 0]).cells.toList) (by omega) (by omega) (by omega) hc (by omega) (firstOf_row (n' := i) (c := c) (o := 0) (n := i) hb (by rw [List.length_append]; omega))
        rw [e1, e2, List.drop_zero, take_flat hR _ _ hi] at this
        exact this
      obtain ⟨Z, hZ, g2⟩ := g2
      simp at g2
      have hbn : A.next ≠ b := fun e => by have := hwf _ _ hb; omega
      have hvn : vb ≠ A.next := fun e => by have := hwf _ _ hv; omega
      have g3 := slU_lo (P := Try.prog) (A := A.alloc (.row ((L.take i).flatten ++ Z) 39 false)) (z := 17) (n := L.length + 1) (o := 0) (i := i) (k := .i64) (AH.get_new _ _) sz39 (by omega)
      rw [Nat.zero_add] at g3
      have g4 := cpW_row (z := 17) (d := A.next) (o := i * 17) (dn := L.length + 1 - i) (dc := UNK) (sn := 1) (sc := 1) (b := some ⟨vb, 0, none⟩) (A := A.alloc (.row ((L.take i).flatten ++ Z) 39 false)) (vs := r) (by rw [Nat.min_eq_left (by omega)]; exact hfv _ (by rw [AH.get_alloc, if_neg hvn]; exact hv)) (by omega) (AH.get_new _ _) (by rw [List.length_append, hti, hr.1, hZ]; omega) hr.2
      rw [spl_at' _ _ _ hti.symm] at g4
      have ei : ((i + 1 : Nat) : Int) = (i : Int) + 1 := by omega
      obtain ⟨A2, hA2⟩ : ∃ A2, A2 = (A.alloc (.row ((L.take i).flatten ++ Z) 39 false)).set A.next (.row ((L.take i).flatten ++ (r ++ Z.drop r.length)) 39 false) := ⟨_, rfl⟩
      have a1 : A2.get A.next = some (.row ((L.take i).flatten ++ (r ++ Z.drop r.length)) 39 false) := by rw [hA2, AH.get_set, if_pos rfl]
      have a2 : ∀ k, k ≠ A.next → A2.get k = A.get k := fun k hk => by rw [hA2, AH.get_set, if_neg hk, AH.get_alloc, if_neg hk]
      have g5 := slU_lo (P := Try.prog) (z := 17) (n := L.length + 1) (o := 0) (i := i + 1) (k := .i64) a1 sz39 (by omega)
      rw [ei, Nat.zero_add] at g5
      have g6 := slW_lo (P := Try.prog) (z := 17) (a := some ⟨b, 0, none⟩) (k := .i64) (A := A2) hi hn hc
      rw [cutA_ne (by omega), Nat.zero_add] at g6
      have hz0 : (Z.drop r.length).drop (L.drop i).flatten.length = [] := List.drop_eq_nil_of_le (by rw [List.length_drop, hZ, hdi, hr.1]; omega)
      have g7 := cpW_row (z := 17) (d := A.next) (o := (i + 1) * 17) (dn := L.length + 1 - (i + 1)) (dc := UNK) (sn := L.length - i) (sc := c - i) (b := some ⟨b, i * 17, none⟩) (A := A2) (vs := (L.drop i).flatten) (by rw [Nat.min_eq_left (by omega), firstOf_row ((a2 b hbn.symm).trans hb) (by rw [List.length_append, hfl]; omega), part_flat hR _ _ hi]) (by omega) a1 (by rw [List.length_append, List.length_append, List.length_drop, hti, hr.1, hZ, hdi]; omega) hRd.flat
      rw [← List.append_assoc, spl_at' _ _ _ (by rw [List.length_append, hti, hr.1]; omega), hz0, List.append_nil] at g7
      rw [show L.length + 1 - (i + 1) = L.length - i by omega] at g5 g7
      simp [-AH.alloc_set, -AH.set_set, w1, g1, w2, g2, g3, g4, w3, ← hA2, g5, g6, g7]
      refine DN.of ⟨A.next, ⟨hRi, Or.inr ⟨A.next, UNK, [], rfl, by rw [hlen], by rw [AH.get_set, if_pos rfl]; simp, Or.inl ⟨rfl, rfl⟩⟩⟩, fun k hk hkb => by rw [AH.get_set, if_neg (by omega)]; exact a2 k (by omega), Or.inr (Nat.le_refl _)⟩
    · rename_i hroom
      have ei : ((i + 1 : Nat) : Int) = (i : Int) + 1 := by omega
      have en : ((L.length + 1 : Nat) : Int) = (L.length : Int) + 1 := by omega
      have g1 := slW_hi (P := Try.prog) (z := 17) (a := some ⟨b, 0, none⟩) (k := .i64) (A := A) (h := L.length + 1) (n := L.length) (c := c) (by omega) hn hc
      rw [cutA_zero, en] at g1
      have g2 := fun A => slW_lo (P := Try.prog) (z := 17) (a := some ⟨b, 0, none⟩) (k := .i64) (A := A) (n := L.length + 1) (i := i + 1) (c := c) (by omega) (by omega) hc
      have g3 := fun A => slW_lo (P := Try.prog) (z := 17) (a := some ⟨b, 0, none⟩) (k := .i64) (A := A) (n := L.length + 1) (i := i) (c := c) (by omega) (by omega) hc
      simp only [cutA_ne (show c ≠ i + 1 by omega), cutA_ne (show c ≠ i by omega), Nat.zero_add, ei, show L.length + 1 - (i + 1) = L.length - i by omega] at g2 g3
      simp [w1, g1, w3, g2]
      refine CN.use (overlaps_ok hv hb hne (by intro e; have := congrArg List.length e; simp at this; simp [this.2] at hcz; have := this.1; omega) (by omega) (by omega)) ?_
      rintro _ A - - ⟨rfl, rfl⟩
      have g4 := cpW_row (z := 17) (d := b) (o := (i + 1) * 17) (dn := L.length - i) (dc := c - (i + 1)) (sn := L.length + 1 - i) (sc := c - i) (b := some ⟨b, i * 17, none⟩) (A := A) (vs := (L.drop i).flatten) (by rw [Nat.min_eq_right (by omega), firstOf_row hb (by rw [List.length_append, hfl]; omega), part_flat hR _ _ hi]) (by omega) hb (by rw [List.length_append, hfl, hdi]; omega) hRd.flat
      have g5 := fun (cs : List Value) (hcs : 17 ≤ cs.length - i * 17) => cpW_row (z := 17) (d := b) (o := i * 17) (dn := L.length + 1 - i) (dc := c - i) (sn := 1) (sc := 1) (b := some ⟨vb, 0, none⟩) (A := A.set b (.row cs 39 false)) (vs := r) (by rw [Nat.min_eq_left (by omega)]; exact hfv _ (by rw [AH.get_set, if_neg hne]; exact hv)) (by omega) (by rw [AH.get_set, if_pos rfl]) (by rw [hr.1]; omega) hr.2
      have hsp := spl_length (L.flatten ++ rest) ((i + 1) * 17) (L.drop i).flatten (by rw [List.length_append, hfl, hdi]; omega)
      have g6 := g5 (spl (L.flatten ++ rest) ((i + 1) * 17) (L.drop i).flatten) (by rw [hsp, List.length_append, hfl]; omega)
      rw [shift_rows hR hi hr.1 (by omega)] at g6
      simp [-AH.alloc_set, -AH.set_set, w1, w3, g2, g3, g4, g6]
      refine DN.of ⟨b, ⟨hRi, Or.inr ⟨b, c, rest.drop 17, rfl, by rw [hlen], by rw [AH.get_set, if_pos rfl]; simp, Or.inr ⟨hc, by rw [hlen]; omega, ?_⟩⟩⟩, fun k hk hkb => by rw [AH.get_set, if_neg hkb, AH.get_set, if_neg hkb], Or.inl rfl⟩
      rw [flat_len hRi.len, hlen, List.length_drop]; omega
theorem delete_exact {A : AH} {b c i : Nat} {L : List (List Value)} {rest : List Value} (hb : A.get b = some (.row (L.flatten ++ rest) 39 false)) (hR : Rw 17 L)
    (hc : c < UNK) (hn : L.length ≤ c) (hcz : c * 17 = L.flatten.length + rest.length) (hi : i < L.length) (hL : L.length ≤ 1000000) :
    ACall Try.prog 51 [.slice (some ⟨b, 0, none⟩) L.length c, .int .i64 i, .int .i64 ((i : Int) + 1)] A fun v A' => Lst A' 39 17 (some b) v (L.take i ++ L.drop (i + 1)) ∧ (∀ k, k < A.next → k ≠ b → A'.get k = A.get k) := by
  refine code51.call (by simp) fun hwf => ?_
  unfold c51
  have hfl := flat_len hR.len
  have hRi : Rw 17 (L.take i ++ L.drop (i + 1)) := (hR.sub fun r hr => List.mem_of_mem_take hr).app (hR.sub fun r hr => List.mem_of_mem_drop hr)
  have hlen : (L.take i ++ L.drop (i + 1)).length = L.length - 1 := by simp <;> omega
  have hRd : Rw 17 (L.drop (i + 1)) := hR.sub fun r hr => List.mem_of_mem_drop hr
  have hdi : (L.drop (i + 1)).flatten.length = (L.length - (i + 1)) * 17 := by rw [flat_len hRd.len, List.length_drop]
  have ei : ((i + 1 : Nat) : Int) = (i : Int) + 1 := by omega
  have en : ((L.length - 1 : Nat) : Int) = (L.length : Int) - 1 := by omega
  have g1 := slW_3 (P := Try.prog) (z := 17) (a := some ⟨b, 0, none⟩) (k1 := .i64) (k2 := .i64) (k3 := .i64) (A := A) (l := i) (h := i + 1) (k := L.length) (n := L.length) (c := c) (by omega) (by omega) hn hn hc
  have g2 := slW_hi (P := Try.prog) (z := 17) (a := some ⟨b, 0, none⟩) (k := .i64) (A := A) (h := i) (n := L.length) (c := c) (by omega) hn hc
  have g3 := slW_lo (P := Try.prog) (z := 17) (a := some ⟨b, 0, none⟩) (k := .i64) (A := A) (n := L.length) (i := i + 1) (c := c) (by omega) hn hc
  rw [ei] at g1 g3
  rw [cutA_zero] at g2
  have g4 : ∀ A, slW Try.prog 17 (some ⟨b, 0, none⟩) (L.length - 1) c (some (.int .i64 ((L.length - 1 : Nat) : Int))) (some (.int .i64 (L.length : Int))) none A = some (.slice (some ⟨b, (L.length - 1) * 17, none⟩) 1 (c - (L.length - 1))) := fun A => by
    have := slW_lohi (P := Try.prog) (z := 17) (a := some ⟨b, 0, none⟩) (k := .i64) (k' := .i64) (A := A) (l := L.length - 1) (h := L.length) (n := L.length - 1) (c := c) (by omega) (by omega) (by omega) hc
    rw [cutA_ne (by omega), Nat.zero_add, show L.length - (L.length - 1) = 1 by omega] at this
    exact this
  have hz1 : (zrep 1 (Value.agg #[.int .i64 0, .int .i64 0, .int .i64 0, .int .i64 0, .int .u64 0, .int .i64 0, .int .i64 0, .int .u32 0, .int .u32 0, .int .u32 0, .slice none 0 0, .int .i64 0, .int .i64 0, .int .i64 0, .int .i64 0, .int .i64 0, .int .i64 0]).cells.toList) = (Value.agg #[.int .i64 0, .int .i64 0, .int .i64 0, .int .i64 0, .int .u64 0, .int .i64 0, .int .i64 0, .int .u32 0, .int .u32 0, .int .u32 0, .slice none 0 0, .int .i64 0, .int .i64 0, .int .i64 0, .int .i64 0, .int .i64 0, .int .i64 0]).cells.toList := by simp
  have g5 : ∀ (A : AH) (cs : List Value), A.get b = some (.row cs 39 false) → cs.length = (L.flatten ++ rest).length → clW (Value.agg #[.int .i64 0, .int .i64 0, .int .i64 0, .int .i64 0, .int .u64 0, .int .i64 0, .int .i64 0, .int .u32 0, .int .u32 0, .int .u32 0, .slice none 0 0, .int .i64 0, .int .i64 0, .int .i64 0, .int .i64 0, .int .i64 0, .int .i64 0]).cells.toList (.slice (some ⟨b, (L.length - 1) * 17, none⟩) 1 (c - (L.length - 1))) A = some (A.set b (.row (spl cs ((L.length - 1) * 17) (Value.agg #[.int .i64 0, .int .i64 0, .int .i64 0, .int .i64 0, .int .u64 0, .int .i64 0, .int .i64 0, .int .u32 0, .int .u32 0, .int .u32 0, .slice none 0 0, .int .i64 0, .int .i64 0, .int .i64 0, .int .i64 0, .int .i64 0, .int .i64 0]).cells.toList) 39 false)) := fun A cs hA hcs => by
    have := clW_row (zc := (Value.agg #[.int .i64 0, .int .i64 0, .int .i64 0, .int .i64 0, .int .u64 0, .int .i64 0, .int .i64 0, .int .u32 0, .int .u32 0, .int .u32 0, .slice none 0 0, .int .i64 0, .int .i64 0, .int .i64 0, .int .i64 0, .int .i64 0, .int .i64 0]).cells.toList) (d := b) (o := (L.length - 1) * 17) (n := 1) (c := c - (L.length - 1)) (A := A) (by omega) hA (by rw [hcs, List.length_append, hfl]; simp; omega) (by rw [hz1]; rfl)
    rwa [hz1] at this
  have hdel := del_rows (z := 17) (i := i) (L := L) (rest := rest) (zc := (Value.agg #[.int .i64 0, .int .i64 0, .int .i64 0, .int .i64 0, .int .u64 0, .int .i64 0, .int .i64 0, .int .u32 0, .int .u32 0, .int .u32 0, .slice none 0 0, .int .i64 0, .int .i64 0, .int .i64 0, .int .i64 0, .int .i64 0, .int .i64 0]).cells.toList) hR hi rfl
  have done : ∀ cs, cs = (L.take i ++ L.drop (i + 1)).flatten ++ ((Value.agg #[.int .i64 0, .int .i64 0, .int .i64 0, .int .i64 0, .int .u64 0, .int .i64 0, .int .i64 0, .int .u32 0, .int .u32 0, .int .u32 0, .slice none 0 0, .int .i64 0, .int .i64 0, .int .i64 0, .int .i64 0, .int .i64 0, .int .i64 0]).cells.toList ++ rest) → ∀ A', A'.get b = some (.row cs 39 false) → Lst A' 39 17 (some b) (.slice (some ⟨b, 0, none⟩) (L.length - 1) c) (L.take i ++ L.drop (i + 1)) := fun cs hcs A' hA' => by
    subst hcs
    refine ⟨hRi, Or.inr ⟨b, c, _, rfl, by rw [hlen], hA', Or.inr ⟨hc, by rw [hlen]; omega, ?_⟩⟩⟩
    rw [flat_len hRi.len, hlen, List.length_append]; simp; omega
  by_cases hlast : i + 1 = L.length
  · have g6 := appW_zero (e := 39) (z := 17) (y := 144) (a := some ⟨b, 0, none⟩) (l := i) (c := c) (c2 := c - (i + 1)) (A := A) (Pla.cut (Pla.yes b 0) c (i + 1) 17) (Or.inr (by omega))
    rw [show L.length - (i + 1) = 0 by omega] at g3
    have el : L.length - 1 = i := by omega
    rw [el] at g4 done
    have g7 := g5 A _ hb rfl
    rw [el] at g7
    rw [show L.drop (i + 1) = [] from List.drop_eq_nil_of_le (by omega), List.flatten_nil, spl_nil, el] at hdel
    simp at g4 g7 g1 g2 g3
    simp [-AH.set_set, g1, g2, g3, g6, g4, g7]
    rw [if_neg (by omega)]
    refine DN.of ⟨?_, fun k hk hkb => by rw [AH.get_set, if_neg hkb]⟩
    rw [show L.drop (i + 1) = [] from List.drop_eq_nil_of_le (by omega)] at done ⊢
    exact done _ hdel _ (by rw [AH.get_set, if_pos rfl]; simp)
  · have g6 := appW_in (e := 39) (z := 17) (y := 144) (b := b) (o := 0) (l := i) (c := c) (A := A) (n := L.length - (i + 1)) (c2 := c - (i + 1)) (a2 := some ⟨b, (i + 1) * 17, none⟩) (new := (L.drop (i + 1)).flatten) (by rw [firstOf_row hb (by rw [List.length_append, hfl]; omega), part_flat hR _ _ (by omega)]) (by omega) (by omega) (by omega) (by omega) hc (by omega) hb (by rw [List.length_append, hfl]; omega) hRd.flat
    rw [show i + (L.length - (i + 1)) = L.length - 1 by omega, Nat.zero_add] at g6
    rw [cutA_ne (by omega), Nat.zero_add] at g3
    have g7 := g5 (A.set b (.row (spl (L.flatten ++ rest) (i * 17) (L.drop (i + 1)).flatten) 39 false)) _ (by rw [AH.get_set, if_pos rfl]) (spl_length _ _ _ (by rw [List.length_append, hfl, hdi]; omega))
    rw [hdel] at g7
    simp at g7 g1 g2 g3 g6
    simp [-AH.set_set, g1, g2, g3, g6, g4, g7]
    rw [if_neg (by omega)]
    refine DN.of ⟨done _ rfl _ (by simp), fun k hk hkb => by simp [hkb]⟩
theorem insert_nil {A : AH} {vb : Nat} {r : List Value} (hv : A.get vb = some (.row r 39 false)) (hr : r.length = 17 ∧ r.all oneB = true) :
    ACall Try.prog 35 [.slice none 0 0, .int .i64 0, .slice (some ⟨vb, 0, none⟩) 1 1] A fun v A' => ∃ b', Lst A' 39 17 (some b') v [r] ∧ (∀ k, k < A.next → A'.get k = A.get k) ∧ A.next ≤ b' := by
  refine code35.call (by simp) fun hwf => ?_
  unfold c35
  have g1 := slW_lo (P := Try.prog) (z := 17) (a := none) (k := .i64) (A := A) (n := 0) (i := 0) (c := 0) (Nat.le_refl _) (Nat.le_refl _) (by simp [UNK])
  simp at g1
  have hfv : firstOf A 17 1 (.slice (some ⟨vb, 0, none⟩) 1 1) = some r := by rw [firstOf_row hv (by omega)]; simp [List.take_of_length_le, hr.1]
  have g2 : appW 39 17 144 (.slice none 0 0) (.slice (some ⟨vb, 0, none⟩) 1 1) A = some (.slice (some ⟨A.next, 0, none⟩) 1 UNK, A.alloc (.row r 39 false)) := by
    unfold appW
    simp [hfv]
  simp [g1, g2]
  exact DN.of ⟨A.next, ⟨Rw.one hr, Or.inr ⟨A.next, UNK, [], rfl, rfl, by rw [AH.get_new]; simp, Or.inl ⟨rfl, rfl⟩⟩⟩, fun k hk => by rw [AH.get_alloc, if_neg (by omega)], Nat.le_refl _⟩
theorem insert_ok {A : AH} {ob : Option Nat} {v : Value} {vb i : Nat} {L : List (List Value)} {r : List Value} (h : Lst A 39 17 ob v L) (hv : A.get vb = some (.row r 39 false)) (hne : ob ≠ some vb) (hr : r.length = 17 ∧ r.all oneB = true) (hi : i ≤ L.length) (hL : L.length ≤ 1000000) :
    ACall Try.prog 35 [v, .int .i64 i, .slice (some ⟨vb, 0, none⟩) 1 1] A fun v' A' => ∃ b', Lst A' 39 17 (some b') v' (L.take i ++ r :: L.drop i) ∧ (∀ k, k < A.next → ob ≠ some k → A'.get k = A.get k) ∧ (ob = some b' ∨ A.next ≤ b') := by
  rcases h.2 with ⟨rfl, rfl, rfl⟩ | ⟨b, c, rest, rfl, rfl, hb, hc⟩
  · obtain rfl : i = 0 := by simpa using hi
    exact (insert_nil hv hr).mono fun v' A' _ _ ⟨b', h1, h2, h3⟩ => ⟨b', by simpa using h1, fun k hk _ => h2 k hk, Or.inr h3⟩
  · have hvb : vb ≠ b := fun e => hne (by rw [e])
    rcases hc with ⟨rfl, rfl⟩ | ⟨h1, h2, h3⟩
    · rw [List.append_nil] at hb
      refine ACall.reveal code35.enters sz39 hb fun c ex hn hcU hcz => ?_
      refine (insert_exact (A := A.set b (.row (L.flatten ++ ex) 39 false)) (by rw [AH.get_set, if_pos rfl]) (by rw [AH.get_set, if_neg hvb]; exact hv) hvb h.1 hr hcU hn hcz hi hL).mono fun v' A' _ _ ⟨b', q1, q2, q3⟩ => ⟨b', q1, fun k hk hkb => ?_, q3.imp (fun e => by rw [e]) id⟩
      have hkb' : k ≠ b := fun e => hkb (by rw [e])
      rw [q2 k hk hkb', AH.get_set, if_neg hkb']
    · exact (insert_exact hb hv hvb h.1 hr h1 h2 h3 hi hL).mono fun v' A' _ _ ⟨b', q1, q2, q3⟩ => ⟨b', q1, fun k hk hkb => q2 k hk (fun e => hkb (by rw [e])), q3.imp (fun e => by rw [e]) id⟩
theorem delete_ok {A : AH} {ob : Option Nat} {v : Value} {i : Nat} {L : List (List Value)} (h : Lst A 39 17 ob v L) (hi : i < L.length) (hL : L.length ≤ 1000000) :
    ACall Try.prog 51 [v, .int .i64 i, .int .i64 ((i : Int) + 1)] A fun v' A' => Lst A' 39 17 ob v' (L.take i ++ L.drop (i + 1)) ∧ (∀ k, k < A.next → ob ≠ some k → A'.get k = A.get k) := by
  rcases h.2 with ⟨rfl, rfl, rfl⟩ | ⟨b, c, rest, rfl, rfl, hb, hc⟩
  · simp at hi
  · rcases hc with ⟨rfl, rfl⟩ | ⟨h1, h2, h3⟩
    · rw [List.append_nil] at hb
      refine ACall.reveal code51.enters sz39 hb fun c ex hn hcU hcz => ?_
      refine (delete_exact (A := A.set b (.row (L.flatten ++ ex) 39 false)) (by rw [AH.get_set, if_pos rfl]) h.1 hcU hn hcz hi hL).mono fun v' A' _ _ ⟨q1, q2⟩ => ⟨q1, fun k hk hkb => ?_⟩
      have hkb' : k ≠ b := fun e => hkb (by rw [e])
      rw [q2 k hk hkb', AH.get_set, if_neg hkb']
    · exact (delete_exact hb h.1 h1 h2 h3 hi hL).mono fun v' A' _ _ ⟨q1, q2⟩ => ⟨q1, fun k hk hkb => q2 k hk (fun e => hkb (by rw [e]))⟩
end Go.Proofs.Ytanpbdbicicepaa.AC
/- A table's methods. -/
namespace Go.Proofs.Ytanpbdbicicepaa.AC
open Go Go.AI Go.Proofs Go.Proofs.Ytanpbdbicicepaa.AQ
set_option linter.unusedVariables false
theorem good_nil (A : AH) : ACall Try.prog 32 [.pointer none] A fun v A' => v = .bool false ∧ A' = A := by
  refine code32.call (by simp) fun hwf => ?_
  unfold c32
  simp
  exact DN.of ⟨rfl, rfl⟩
theorem good_ok {A : AH} {tb : Nat} {most : Int} {v : Value} {T : TypeId} {ro : Bool} (h : A.get tb = some (.row [.int .i64 most, v] T ro)) : ACall Try.prog 32 [.pointer (some ⟨tb, 0, none⟩)] A fun v A' => v = .bool (decide (0 < most)) ∧ A' = A := by
  refine code32.call (by simp) fun hwf => ?_
  unfold c32
  simp [h]
  exact DN.of ⟨rfl, rfl⟩
/-- A change of a table alone. -/
def TabP (tb : Nat) (most : Int) (ob : Option Nat) (L L' : List RS) (A A' : AH) : Prop :=
  ∃ ob', Tab A' tb most ob' L' ∧ (∀ k, k < A.next → k ≠ tb → ob ≠ some k → A'.get k = A.get k) ∧ (ob' = ob ∨ ∃ b', ob' = some b' ∧ A.next ≤ b') ∧ ∀ r ∈ L', r ∈ L ∨ ∀ b o, r.a = some ⟨b, o, none⟩ → A.next ≤ b
theorem TabP.same {A A' : AH} {tb : Nat} {most : Int} {ob : Option Nat} {L : List RS} (h : Tab A tb most ob L) (hw : A.wf) (hx : Ext A A') : TabP tb most ob L L A A' := ⟨ob, h.kept hw hx, fun j hj _ _ => hx j hj, Or.inl rfl, fun r hr => Or.inl hr⟩
def dropL (L : List RS) (k : Key) : List RS := L.take (fnd L k).1 ++ L.drop ((fnd L k).1 + 1)
theorem fnd_lt : ∀ {L : List RS} {k : Key}, (fnd L k).2 = true → (fnd L k).1 < L.length
  | [], k, h => by simp [fnd] at h
  | r :: l, k, h => by
    simp only [fnd] at h ⊢
    split
    · rename_i hb
      rw [if_pos hb] at h
      have := fnd_lt (L := l) h
      simp only [List.length_cons]; omega
    · simp
theorem fnd_le : ∀ (L : List RS) (k : Key), (fnd L k).1 ≤ L.length
  | [], k => by simp [fnd]
  | r :: l, k => by
    simp only [fnd]
    split
    · have := fnd_le l k; simp only [List.length_cons]; omega
    · simp
theorem drop_ok {A : AH} {tb : Nat} {most : Int} {ob : Option Nat} {L : List RS} (h : Tab A tb most ob L) (hm : 0 < most) (k : Key) : ACall Try.prog 23 [.pointer (some ⟨tb, 0, none⟩), keyV k] A fun v A' =>
    v = .int .i64 (if (fnd L k).2 = true then 0 else 8) ∧ TabP tb most ob L (if (fnd L k).2 = true then dropL L k else L) A A' := by
  refine code23.call (by simp) fun hwf => ?_
  unfold c23
  have hobt := h.row
  obtain ⟨v, h1, h2⟩ := hobt
  simp [keyV]
  have x1 : Ext A (A.alloc (.row [.int .i64 k.tail, .int .i64 k.tunnel, .int .i64 k.head, .int .i64 k.lsp] 27 false)) := Ext.alloc A _
  refine CN.use (good_ok (x1.get hwf h1)) ?_
  rintro _ _ hw0 - ⟨rfl, rfl⟩
  simp [hm]
  refine CN.use (find_ok (h.kept hwf x1) k) ?_
  rintro _ A2 hw2 hn2 ⟨x2, rfl⟩
  have x3 := x1.trans (by simp) x2
  have h3 := h.kept hwf x3
  simp
  have g1 := x3.get hwf h1
  have g2 := h2.kept fun b hb => x3 b (h2.lt hwf hb)
  have hn3 : A.next ≤ A2.next := by simp at hn2; omega
  split
  · rename_i hf
    have hi := fnd_lt hf
    have hlen := h.len
    simp [g1, i64_in (x := ((fnd L k).1 : Int) + 1) (by omega) (by omega)]
    refine CN.use (delete_ok g2 (by simpa using hi) (by simpa using hlen)) ?_
    rintro v3 A3 hw3 hn4 ⟨q1, q2⟩
    have g3 := (q2 tb (hw2 _ _ g1) h.ne).trans g1
    have hobt := q1.sl
    obtain ⟨a3, c3, rfl, -, -⟩ := hobt
    generalize ((L.map RS.enc).take (fnd L k).1 ++ (L.map RS.enc).drop ((fnd L k).1 + 1)).length = N at q1 ⊢
    simp [g3]
    refine DN.of ⟨by rw [if_pos hf], ob, ⟨⟨_, by rw [AH.get_set, if_pos rfl], ?_⟩, fun r hr => ?_, ?_, h.ne⟩, fun j hj h1 h2 => ?_, Or.inl rfl, fun r hr => Or.inl ?_⟩
    · rw [if_pos hf, dropL, List.map_append, List.map_take, List.map_drop]
      exact q1.kept fun b hb => by rw [AH.get_set, if_neg (fun e => h.ne (by rw [hb, e]))]
    · rw [if_pos hf] at hr
      have hobt := h3.rts r ((List.mem_append.1 hr).elim List.mem_of_mem_take List.mem_of_mem_drop)
      obtain ⟨r1, rm, r3⟩ := hobt
      exact ⟨r1.kept fun b o x hb hx => by rw [AH.get_set, if_neg (r3 b o hb).1]; exact q2 b (hw2 _ _ hx) (r3 b o hb).2, rm, r3⟩
    · rw [if_pos hf, dropL]; simp; omega
    · rw [AH.get_set, if_neg h1, q2 j (by omega) h2, x3 j hj]
    · rw [if_pos hf] at hr; exact (List.mem_append.1 hr).elim List.mem_of_mem_take List.mem_of_mem_drop
  · rename_i hf
    exact DN.of ⟨by rw [if_neg hf], by rw [if_neg hf]; exact TabP.same h hwf x3⟩
def zeroS : St := ⟨⟨0, 0, 0, 0⟩, ⟨0, 0, 0, 0, 0, 0⟩, [], 0, 0, 0, 0, 0, 0⟩
def zeroR : RS := ⟨zeroS, none, 0⟩
theorem zeroR_ok (A : AH) : zeroR.ok A := ⟨Sl.nil Pla.no A _ 1, by decide, Or.inl ⟨by decide, by decide⟩⟩
/-- The state of a key. -/
def getL (L : List RS) (k : Key) : Option RS := if (fnd L k).2 = true then L[(fnd L k).1]? else none
theorem get_ok {A : AH} {tb : Nat} {most : Int} {ob : Option Nat} {L : List RS} (h : Tab A tb most ob L) (hm : 0 < most) (k : Key) : ACall Try.prog 16 [.pointer (some ⟨tb, 0, none⟩), keyV k] A fun v A' =>
    Ext A A' ∧ ∃ r : RS, v = .tuple #[.agg r.enc.toArray, .int .i64 (if (fnd L k).2 = true then 0 else 8)] ∧ r.ok A' ∧ r.s = ((getL L k).map RS.s).getD zeroS ∧ (∀ b o, r.a = some ⟨b, o, none⟩ → A.next ≤ b) ∧ RW A' r := by
  refine code16.call (by simp) fun hwf => ?_
  unfold c16
  have hobt := h.row
  obtain ⟨v, h1, h2⟩ := hobt
  simp [keyV]
  obtain ⟨A1, hA1⟩ : ∃ A1, A1 = (A.alloc (.row [.int .i64 k.tail, .int .i64 k.tunnel, .int .i64 k.head, .int .i64 k.lsp] 27 false)).alloc (.row zeroR.enc 39 false) := ⟨_, rfl⟩
  have x1 : Ext A A1 := by rw [hA1]; exact (Ext.alloc A _).app (by simp) _
  have n1 : A1.next = A.next + 2 := by rw [hA1]; rfl
  have z1 : A1.get (A.next + 1) = some (.row zeroR.enc 39 false) := by rw [hA1, AH.get_alloc]; simp
  have z2 : A1.get A.next = some (.row [.int .i64 k.tail, .int .i64 k.tunnel, .int .i64 k.head, .int .i64 k.lsp] 27 false) := by rw [hA1, AH.get_alloc, AH.get_alloc]; simp
  simp [RS.enc, zeroR, zeroS] at hA1 z1
  rw [← hA1]
  refine CN.use (good_ok (x1.get hwf h1)) ?_
  rintro _ _ hw0 - ⟨rfl, rfl⟩
  simp [hm, z2]
  refine CN.use (find_ok (h.kept hwf x1) k) ?_
  rintro _ A2 hw2 hn2 ⟨x2, rfl⟩
  have x3 := x1.trans (by omega) x2
  have h3 := h.kept hwf x3
  have g1 := x3.get hwf h1
  have g2 := h2.kept fun b hb => x3 b (h2.lt hwf hb)
  have z3 := x2.get hw0 z1
  simp
  split
  · rename_i hf
    have hi := fnd_lt hf
    have hobt := g2.sl
    obtain ⟨a, c, rfl, s1, s2⟩ := hobt
    have hobt := s1.at (i := (fnd L k).1) (by simpa using hi)
    obtain ⟨b, o, cs, ro, rfl, t1, t2, t3⟩ := hobt
    rw [List.getElem_map] at t3
    have hmem : L[(fnd L k).1] ∈ L := List.getElem_mem hi
    have hobt := h3.rts _ hmem
    obtain ⟨r1, rm, r3⟩ := hobt
    have hg : getL L k = some L[(fnd L k).1] := by rw [getL, if_pos hf, List.getElem?_eq_getElem hi]
    generalize L[(fnd L k).1] = r at t3 r1 hg
    simp [g1, t1, t2, t3, hi]
    refine CN.use (own_ok r1) ?_
    rintro _ A3 hw3 hn3 ⟨x4, r', rfl, q1, q2, q3, q4⟩
    have z4 := x4.get hw2 z3
    simp [RS.enc, z4]
    refine DN.of ⟨(x3.trans (by omega) x4).setnew (by omega) _, r', by rw [if_pos hf]; rfl, q2.kept fun b o x hb _ => ?_, by rw [hg]; exact q1, fun b o hb => ?_, q4.2.kept fun b o x hb _ => ?_⟩
    · have := q3 b o hb; rw [AH.get_set, if_neg (by omega)]
    · have := q3 b o hb; omega
    · have := q3 b o hb; rw [AH.get_set, if_neg (by omega)]
  · rename_i hf
    simp [z3]
    have hg : getL L k = none := by rw [getL, if_neg hf]
    refine DN.of ⟨x3.setnew (by omega) _, zeroR, by rw [if_neg hf]; rfl, zeroR_ok _, by rw [hg]; rfl, fun b o hb => (by cases hb), fun hn => absurd rfl hn⟩
end Go.Proofs.Ytanpbdbicicepaa.AC
/- What Put does. -/
namespace Go.Proofs.Ytanpbdbicicepaa.AC
open Go Go.AI Go.Proofs Go.Proofs.Ytanpbdbicicepaa.AQ
set_option linter.unusedVariables false
theorem TabP.upd {A A4 : AH} {tb i b : Nat} {most : Int} {L : List RS} {v : Value} {X : Blk} {r : RS} (h : Tab A tb most (some b) L) (hw : A.wf) (x7 : Ext A A4) (hi : i < L.length) (hm : mayB r.s = true) (q2 : r.ok A4) (q3 : ∀ b o, r.a = some ⟨b, o, none⟩ → A.next ≤ b) (t1 : A4.get tb = some (.row [.int .i64 most, v] 68 false))
    (g5 : Lst (A4.set b X) 39 17 (some b) v ((L.map RS.enc).take i ++ r.enc :: (L.map RS.enc).drop (i + 1))) : TabP tb most (some b) L (L.take i ++ r :: L.drop (i + 1)) A (A4.set b X) := by
  have hobt := h.row
  obtain ⟨v0, h1, h2⟩ := hobt
  have hbt : tb ≠ b := fun e => h.ne (by rw [e])
  have hbn := h2.lt hw rfl
  have htn := hw _ _ h1
  have hlen := h.len
  refine ⟨some b, ⟨⟨_, by rw [AH.get_set, if_neg hbt]; exact t1, ?_⟩, ?_, ?_, h.ne⟩, ?_, Or.inl rfl, ?_⟩
  · simpa [List.map_take, List.map_drop] using g5
  · intro s hs
    rcases mem_upd hs with rfl | hs
    · exact ⟨q2.kept fun b' o x hb _ => by have := q3 b' o hb; rw [AH.get_set, if_neg (by omega)], hm, fun b' o hb' => by have := q3 b' o hb'; exact ⟨by omega, fun e => by injection e with e; omega⟩⟩
    · obtain ⟨w1, w2⟩ := h.rts s hs
      exact ⟨(w1.ext hw x7).kept fun b' o x hb _ => by rw [AH.get_set, if_neg (fun e => (w2.2 b' o hb).2 (by rw [e]))], w2⟩
  · simp; omega
  · intro k hk hk1 hk2; rw [AH.get_set, if_neg (fun e => hk2 (by rw [e])), x7 k hk]
  · intro s hs
    rcases mem_upd hs with rfl | hs
    · exact Or.inr fun b' o hb' => q3 b' o hb'
    · exact Or.inl hs
theorem TabP.ins {A A5 A6 : AH} {tb i b : Nat} {most : Int} {ob : Option Nat} {L : List RS} {v : Value} {r : RS} (h : Tab A tb most ob L) (hw : A.wf) (x8 : Ext A A5) (hw5 : A5.wf) (hn : A.next ≤ A5.next) (hi : i ≤ L.length) (hl : L.length < 1000000) (hm : mayB r.s = true) (q2 : r.ok A5) (q3 : ∀ b o, r.a = some ⟨b, o, none⟩ → A.next ≤ b)
    (p1 : Lst A6 39 17 (some b) v ((L.map RS.enc).take i ++ r.enc :: (L.map RS.enc).drop i)) (p2 : ∀ k, k < A5.next → ob ≠ some k → A6.get k = A5.get k) (p3 : ob = some b ∨ A5.next ≤ b) : TabP tb most ob L (L.take i ++ r :: L.drop i) A (A6.set tb (.row [.int .i64 most, v] 68 false)) := by
  have hobt := h.row
  obtain ⟨v0, h1, h2⟩ := hobt
  have htn := hw _ _ h1
  have hbt : b ≠ tb := by
    rcases p3 with e | e
    · exact fun e' => h.ne (by rw [e, e'])
    · omega
  have key : ∀ s : RS, s.ok A5 → mayB s.s = true → (∀ b' o, s.a = some ⟨b', o, none⟩ → b' ≠ tb ∧ ob ≠ some b') → s.ok (A6.set tb (.row [.int .i64 most, v] 68 false)) ∧ mayB s.s = true ∧ (∀ b' o, s.a = some ⟨b', o, none⟩ → b' ≠ tb ∧ some b ≠ some b') := by
    intro s h1 h2 h3
    have hobt := h1.blk h2
    obtain ⟨b1, o1, x, e1, e2⟩ := hobt
    have hlt := hw5 _ _ e2
    refine ⟨h1.kept fun b' o x hb hx => ?_, h2, fun b' o hb => ⟨(h3 b' o hb).1, fun e => ?_⟩⟩
    · rw [AH.get_set, if_neg (h3 b' o hb).1]
      exact p2 b' (hw5 _ _ hx) (h3 b' o hb).2
    · have h4 := h3 b' o hb
      rw [e1] at hb; injection hb with hb; injection hb with hb _
      rcases p3 with e3 | e3
      · exact h4.2 (e3.trans e)
      · injection e with e; omega
  refine ⟨some b, ⟨⟨_, by rw [AH.get_set, if_pos rfl], ?_⟩, ?_, ?_, fun e => hbt (by injection e)⟩, ?_, ?_, ?_⟩
  · rw [List.map_append, List.map_cons, List.map_take, List.map_drop]
    exact p1.kept fun b hb => by injection hb with hb; subst hb; rw [AH.get_set, if_neg hbt]
  · intro s hs
    rcases mem_ins hs with rfl | hs
    · exact key _ q2 hm fun b' o hb => by
        have := q3 b' o hb
        exact ⟨by omega, fun e => by have := h2.lt hw e; omega⟩
    · obtain ⟨w1, w2, w3⟩ := h.rts s hs
      exact key _ (w1.ext hw x8) w2 w3
  · simp; omega
  · intro k hk hk1 hk2; rw [AH.get_set, if_neg hk1, p2 k (by omega) hk2, x8 k hk]
  · rcases p3 with e | e
    · exact Or.inl e.symm
    · exact Or.inr ⟨b, rfl, by omega⟩
  · intro s hs
    rcases mem_ins hs with rfl | hs
    · exact Or.inr q3
    · exact Or.inl hs
/-- What Put answers, and what it leaves. -/
def putC (most : Int) (L : List RS) (s : St) : Int := if mayB s = true then (if (fnd L s.key).2 = true then 0 else if most ≤ L.length then 7 else 0) else 2
def putL (most : Int) (L : List RS) (r : RS) : List RS :=
  if mayB r.s = true then (if (fnd L r.s.key).2 = true then L.take (fnd L r.s.key).1 ++ r :: L.drop ((fnd L r.s.key).1 + 1) else if most ≤ L.length then L else L.take (fnd L r.s.key).1 ++ r :: L.drop (fnd L r.s.key).1) else L
set_option maxHeartbeats 400000 in
theorem put_ok {A : AH} {tb : Nat} {most : Int} {ob : Option Nat} {L : List RS} (h : Tab A tb most ob L) (hm : 0 < most) (hm2 : most ≤ 1000000) {r : RS} (hr : r.ok A) : ACall Try.prog 9 [.pointer (some ⟨tb, 0, none⟩), .agg r.enc.toArray] A fun v A' =>
    v = .int .i64 (putC most L r.s) ∧ ∃ r', r'.s = r.s ∧ (r.a = none ↔ r'.a = none) ∧ TabP tb most ob L (putL most L r') A A' := by
  refine code9.call (by simp) fun hwf => ?_
  unfold c9
  have hobt := h.row
  obtain ⟨v, h1, h2⟩ := hobt
  simp
  obtain ⟨A1, hA1⟩ : ∃ A1, A1 = A.alloc (.row r.enc 39 false) := ⟨_, rfl⟩
  have x1 : Ext A A1 := by rw [hA1]; exact Ext.alloc A _
  have n1 : A1.next = A.next + 1 := by rw [hA1]; rfl
  have z1 : A1.get A.next = some (.row r.enc 39 false) := by rw [hA1, AH.get_alloc]; simp
  rw [← hA1]
  refine CN.use (good_ok (x1.get hwf h1)) ?_
  rintro _ _ hw0 - ⟨rfl, rfl⟩
  simp [hm, z1]
  refine CN.use (may_ok (hr.ext hwf x1)) ?_
  rintro _ A2 hw2 hn2 ⟨rfl, x2⟩
  have z2 := x2.get hw0 z1
  have x3 := x1.trans (by omega) x2
  simp
  split
  case isFalse => rename_i hb; exact DN.of ⟨by simp [putC, hb], r, rfl, Iff.rfl, by simp only [putL, hb, if_false]; exact TabP.same h hwf x3⟩
  rename_i hb
  simp [z2]
  refine CN.use (find_ok (h.kept hwf x3) r.s.key) ?_
  rintro _ A3 hw3 hn3 ⟨x4, rfl⟩
  have x5 := x3.trans (by omega) x4
  have z3 := x4.get hw2 z2
  have h3 := h.kept hwf x5
  have g1 := x5.get hwf h1
  have g2 := h2.kept fun b hb => x5 b (h2.lt hwf hb)
  have hlen := h.len
  have hne := h.ne
  simp
  split
  · rename_i hf
    have hi := fnd_lt hf
    simp [g1, z3]
    refine CN.use (own_ok (hr.ext hwf x5)) ?_
    rintro _ A4 hw4 hn4 ⟨x6, r', rfl, q1, q2, q3, q4⟩
    have x7 := x5.trans (by omega) x6
    have hobt := (h2.kept fun b hb => x7 b (h2.lt hwf hb)).upd (i := (fnd L r.s.key).1) (r := r'.enc) (by simpa using hi) ⟨rfl, rfl⟩
    obtain ⟨b, c, cs, rfl, rfl, g3, g4, g5⟩ := hobt
    have t1 := x7.get hwf h1
    rw [List.length_map] at t1
    have hbn : b < A.next := h2.lt hwf rfl
    have hbt : tb ≠ b := fun e => hne (by rw [e])
    simp [g3, hi, g4, t1]
    exact DN.of ⟨by simp [putC, hb, hf], r', q1, q4.1, by simp only [putL, q1, hb, hf, if_true]; exact TabP.upd h hwf x7 hi (by rw [q1]; exact hb) q2 (fun b o hb => by have := q3 b o hb; omega) t1 (by rw [List.length_map] at g5; exact g5)⟩
  · rename_i hf
    have hobt := g2.sl
    obtain ⟨a, c, rfl, -, -⟩ := hobt
    simp [g1, z3]
    split
    · rename_i hfull
      exact DN.of ⟨by simp [putC, hb, hf, hfull], r, rfl, Iff.rfl, by simp only [putL, hb, hf, hfull, if_true, if_false]; exact TabP.same h hwf x5⟩
    · rename_i hfull
      refine CN.use (own_ok (hr.ext hwf x5)) ?_
      rintro _ A4 hw4 hn4 ⟨x6, r', rfl, q1, q2, q3, q4⟩
      have x7 := x5.trans (by omega) x6
      have t1 := x7.get hwf h1
      rw [List.length_map] at t1
      simp [t1]
      have hex : ∃ A5, A5 = A4.alloc (.row r'.enc 39 false) := ⟨_, rfl⟩
      obtain ⟨A5, hA5⟩ := hex
      have x8 : Ext A A5 := by rw [hA5]; exact x7.app (by omega) _
      have n5 : A5.next = A4.next + 1 := by rw [hA5]; rfl
      have z5 : A5.get A4.next = some (.row r'.enc 39 false) := by rw [hA5, AH.get_alloc, if_pos rfl]
      have q5 : r'.ok A5 := q2.ext hw4 (by rw [hA5]; exact Ext.alloc _ _)
      have hw5 : A5.wf := by rw [hA5]; exact AH.wf_alloc hw4 _
      have hle := fnd_le L r.s.key
      have hins := insert_ok (h2.kept fun b hb => x8 b (h2.lt hwf hb)) z5 (fun e => by have := h2.lt hwf e; omega) (r := r'.enc) ⟨rfl, rfl⟩ (i := (fnd L r.s.key).1) (by simpa using hle) (by simpa using hlen)
      rw [List.length_map] at hins
      subst hA5
      refine CN.use hins ?_
      rintro v6 A6 hw6 hn6 ⟨b', p1, p2, p3⟩
      have t6 := (p2 tb (by have := hwf _ _ h1; omega) hne).trans (x8.get hwf h1)
      have hP := TabP.ins h hwf x8 hw5 (by omega) hle (by omega) (by rw [q1]; exact hb) q5 (fun b o hb => by have := q3 b o hb; omega) p1 p2 p3
      have hform := p1.form
      refine Exists.elim hform fun a6 hform => ?_
      refine Exists.elim hform fun n6 hform => ?_
      refine Exists.elim hform fun c6 hform => ?_
      subst hform
      simp [t6]
      exact DN.of ⟨by simp [putC, hb, hf, hfull], r', q1, q4.1, by simp only [putL, q1, hb, hf, hfull, if_true, if_false]; exact hP⟩
end Go.Proofs.Ytanpbdbicicepaa.AC
/- What All, those, Late, Lapsed, Len and New do. -/
namespace Go.Proofs.Ytanpbdbicicepaa.AC
open Go Go.AI Go.Proofs Go.Proofs.Ytanpbdbicicepaa.AQ
set_option linter.unusedVariables false
theorem new_bad {n : Int} (h : n < 1 ∨ 64 < n) (A : AH) : ACall Try.prog 8 [.int .i64 n] A fun v A' => v = .pointer none ∧ A' = A := by
  refine code8.call (by simp) fun hwf => ?_
  unfold c8
  simp +contextual
  repeat' split
  all_goals first | exact DN.of ⟨rfl, rfl⟩ | omega
theorem new_ok {n : Int} (h : ¬ (n < 1 ∨ 64 < n)) (A : AH) : ACall Try.prog 8 [.int .i64 n] A fun v A' => v = .pointer (some ⟨A.next, 0, none⟩) ∧ Ext A A' ∧ Tab A' A.next n none [] := by
  refine code8.call (by simp) fun hwf => ?_
  unfold c8
  simp +contextual
  repeat' split
  all_goals first | omega | skip
  exact DN.of ⟨rfl, Ext.alloc A _, ⟨_, AH.get_new _ _, by exact Lst.nil _ _ _⟩, by simp, by simp, by simp⟩
theorem len_ok {A : AH} {tb : Nat} {most : Int} {ob : Option Nat} {L : List RS} (h : Tab A tb most ob L) (hm : 0 < most) : ACall Try.prog 15 [.pointer (some ⟨tb, 0, none⟩)] A fun v A' => v = .int .i64 L.length ∧ A' = A := by
  refine code15.call (by simp) fun hwf => ?_
  unfold c15
  have hobt := h.row
  obtain ⟨v, h1, h2⟩ := hobt
  have hobt := h2.sl
  obtain ⟨a, c, rfl, -, -⟩ := hobt
  simp
  refine CN.use (good_ok h1) ?_
  rintro _ _ hw0 - ⟨rfl, rfl⟩
  simp [hm, h1]
  exact DN.of ⟨rfl, rfl⟩
theorem all_ok {A : AH} {tb : Nat} {most : Int} {ob : Option Nat} {L : List RS} (h : Tab A tb most ob L) (hm : 0 < most) : ACall Try.prog 11 [.pointer (some ⟨tb, 0, none⟩)] A fun v A' =>
    Ext A A' ∧ ∃ (L' : List RS) (b : Nat), Lst A' 39 17 (some b) v (L'.map RS.enc) ∧ L'.map RS.s = L.map RS.s ∧ A.next ≤ b ∧ ∀ r ∈ L', r.ok A' ∧ (∀ b' o, r.a = some ⟨b', o, none⟩ → A.next ≤ b' ∧ b' ≠ b) ∧ RW A' r := by
  refine code11.call (by simp) fun hwf => ?_
  unfold c11
  have hobt := h.row
  obtain ⟨v, h1, h2⟩ := hobt
  have hobt := h2.sl
  obtain ⟨a, c, rfl, h3, -⟩ := hobt
  rw [List.length_map] at h1
  have hlen := h.len
  simp
  refine CN.use (good_ok h1) ?_
  rintro _ A hw0 - ⟨rfl, rfl⟩
  have hobt := mkW_zero 39 17 144 (c := L.length) .i64 .i64 A (by omega) (by omega) zc39_ok
  obtain ⟨R, k1, k2⟩ := hobt
  simp [hm, h1, k1, Nat.ne_of_lt (hwf _ _ h1)]
  refine LN.use (fun m E A' => ∃ (k b : Nat) (v : Value) (L' : List RS), m + k = L.length ∧ Ext A A' ∧ A.next ≤ A'.next ∧ Lst A' 39 17 (some b) v (L'.map RS.enc) ∧ L'.map RS.s = (L.take k).map RS.s ∧ A.next ≤ b ∧ (∀ r ∈ L', (r.ok A' ∧ RW A' r) ∧ ∀ b' o, r.a = some ⟨b', o, none⟩ → A.next ≤ b' ∧ b' < A'.next ∧ b' ≠ b) ∧ E.get 3 = v ∧ E.get 18 = .slice a L.length c ∧ E.get 19 = .int .i64 L.length ∧ E.get 20 = .int .i64 k) L.length
    ⟨0, A.next, _, [], by simp, Ext.alloc A _, by simp, k2, by simp, Nat.le_refl _, by simp, by simp, by simp, by simp, by simp⟩ ?_
  rintro m E A' hw' hn' ⟨k, b, v, L', hk, hx, hn, hL', hs, hb, hr, e3, e18, e19, e20⟩
  simp [e19, e20]
  split
  · rename_i hlt
    have hobt := (h3.ext hwf hx).at (i := k) (by simpa using hlt)
    obtain ⟨b0, o, cs, ro, ha, g1, g2, g3⟩ := hobt
    subst ha
    rw [List.getElem_map] at g3
    have hmem : L[k] ∈ L := List.getElem_mem hlt
    have hobt := h.rts _ hmem
    obtain ⟨r1, rm, -⟩ := hobt
    have hsk : (L.take (k + 1)).map RS.s = (L.take k).map RS.s ++ [L[k].s] := by rw [List.take_succ_eq_append_getElem hlt, List.map_append]; rfl
    generalize L[k] = r at g3 r1 rm hsk
    simp [e18, e20, hlt, g1, g2, g3]
    have x1 := hx.app hn (.row r.enc 39 false)
    refine CN.use (own_ok (r1.ext hwf x1)) ?_
    rintro _ A2 hw2 hn2 ⟨x2, r', rfl, q1, q2, q3, q4⟩
    simp at hn2 q3
    have hL2 : Lst A2 39 17 (some b) v (L'.map RS.enc) := hL'.kept fun b' e => by
      have := hL'.lt hw' e
      rw [x2 b' (by simp <;> omega), AH.get_alloc, if_neg (by omega)]
    simp [e3]
    have hobt := q2.blk (by rw [q1]; exact rm)
    obtain ⟨b5, o5, y5, q5, q6⟩ := hobt
    have q7 := hw2 _ _ q6
    have hcnt : L'.length = k := by have := congrArg List.length hs; simpa [Nat.le_of_lt hlt] using this
    have hobt := hL2.push (y := 144) (r := r'.enc) hw2 ⟨rfl, rfl⟩ (by decide) (by decide) (by simp <;> omega) (by simp <;> omega)
    obtain ⟨v4, A4, ob4, p1, p2, p3, p4, p5⟩ := hobt
    obtain ⟨b4, rfl⟩ : ∃ b4, ob4 = some b4 := by rcases p4 with rfl | rfl <;> exact ⟨_, rfl⟩
    have hb4 : b4 = b ∨ b4 = A2.next + 1 := by simpa using p4
    have hb2 := hL'.lt hw' rfl
    have x4 := (x1.trans (by simp <;> omega) x2)
    have hok : ∀ s : RS, s.ok A2 → (∀ b' o, s.a = some ⟨b', o, none⟩ → b' < A2.next ∧ b' ≠ b) → RW A2 s → s.ok A4 ∧ RW A4 s := fun s h1 h2 h3 => ⟨h1.kept fun b' o x hb' _ => p3 b' (h2 b' o hb').1 fun e => (h2 b' o hb').2 (by injection e with e; exact e.symm), h3.kept fun b' o x hb' _ => p3 b' (h2 b' o hb').1 fun e => (h2 b' o hb').2 (by injection e with e; exact e.symm)⟩
    simp [p1, e20]
    refine NX.of ⟨m - 1, by omega, k + 1, b4, v4, L' ++ [r'], by omega, fun j hj => (p3 j (by omega) (fun e => by injection e with e; omega)).trans (x4 j hj), by omega, by simpa using p2, by rw [List.map_append, hs, hsk]; simp [q1], by omega, ?_, by simp, by simp [e18], by simp [e19], by simp [i64_in (x := (k : Int) + 1) (by omega) (by omega)]⟩
    intro s hs
    rcases List.mem_append.1 hs with hs | hs
    · obtain ⟨w1, w2⟩ := hr s hs
      exact ⟨hok s ((w1.1.ext hw' (Ext.alloc A' _)).ext (AH.wf_alloc hw' _) x2) (fun b' o hb' => by have := w2 b' o hb'; exact ⟨by omega, this.2.2⟩) ((w1.2.ext hw' (Ext.alloc A' _)).ext (AH.wf_alloc hw' _) x2), fun b' o hb' => by have := w2 b' o hb'; exact ⟨by omega, by omega, by omega⟩⟩
    · rw [List.mem_singleton] at hs; subst hs
      refine ⟨hok _ q2 (fun b' o hb' => ?_) q4.2, fun b' o hb' => ?_⟩
      all_goals
        have := q3 b' o hb'
        rw [q5] at hb'; injection hb' with hb'; injection hb' with hb' _
        omega
  · rename_i hlt
    rw [List.take_of_length_le (by omega)] at hs
    subst e3
    exact DN.of ⟨hx, L', b, hL', hs, hb, fun r h => ⟨(hr r h).1.1, fun b' o e => ⟨((hr r h).2 b' o e).1, ((hr r h).2 b' o e).2.2⟩, (hr r h).1.2⟩⟩
end Go.Proofs.Ytanpbdbicicepaa.AC
/- What those, Late, Lapsed do. -/
namespace Go.Proofs.Ytanpbdbicicepaa.AC
open Go Go.AI Go.Proofs Go.Proofs.Ytanpbdbicicepaa.AQ
set_option linter.unusedVariables false
theorem key_rw (L : List Key) : Rw 4 (L.map Key.enc) := Rw.map (f := Key.enc) (fun _ => ⟨rfl, rfl⟩) L
def lateP (now : Int) (s : St) : Bool := decide (s.til < now)
def lapsP (now : Int) (s : St) : Bool := decide (s.out ≠ 0 ∧ s.keep < now)
def keysOf (p : St → Bool) (L : List RS) : List Key := ((L.map RS.s).filter p).map St.key
theorem those_ok {A : AH} {tb pb : Nat} {most : Int} {ob : Option Nat} {L : List RS} (h : Tab A tb most ob L) (hm : 0 < most) (f : FuncId) (p : St → Bool)
    (hf : ∀ (A1 : AH) (r : RS), Ext A A1 → ACall Try.prog f [.agg r.enc.toArray, .pointer (some ⟨pb, 0, none⟩)] A1 fun v A' => v = .bool (p r.s) ∧ Ext A1 A') :
    ACall Try.prog 36 [.pointer (some ⟨tb, 0, none⟩), .func (.func f) #[] #[.pointer (some ⟨pb, 0, none⟩)]] A fun v A' =>
    Ext A A' ∧ ∃ ob', Lst A' 27 4 ob' v ((keysOf p L).map Key.enc) ∧ Fresh A.next ob' := by
  refine code36.call (by simp) fun hwf => ?_
  unfold c36
  have hobt := h.row
  obtain ⟨v, h1, h2⟩ := hobt
  have hobt := h2.sl
  obtain ⟨a, c, rfl, h3, -⟩ := hobt
  rw [List.length_map] at h1
  have hlen := h.len
  simp
  refine CN.use (good_ok h1) ?_
  rintro _ A hw0 - ⟨rfl, rfl⟩
  simp [hm, h1]
  refine LN.use (fun m E A' => ∃ (k : Nat) (ob' : Option Nat) (v : Value), m + k = L.length ∧ Ext A A' ∧ A.next ≤ A'.next ∧ Lst A' 27 4 ob' v ((keysOf p (L.take k)).map Key.enc) ∧ Fresh A.next ob' ∧ E.get 5 = v ∧ E.get 1 = .func (.func f) #[] #[.pointer (some ⟨pb, 0, none⟩)] ∧ E.get 14 = .slice a L.length c ∧ E.get 15 = .int .i64 L.length ∧ E.get 16 = .int .i64 k) L.length
    ⟨0, none, _, by simp, Ext.refl A, Nat.le_refl _, by simpa [keysOf] using Lst.nil A _ _, Fresh.no _, by simp, by simp, by simp, by simp, by simp⟩ ?_
  rintro m E A' hw' hn' ⟨k, ob', v, hk, hx, hn, hL', hob, e5, e1, e14, e15, e16⟩
  simp [e15, e16]
  split
  · rename_i hlt
    have hobt := (h3.ext hwf hx).at (i := k) (by simpa using hlt)
    obtain ⟨b0, o, cs, ro, ha, g1, g2, g3⟩ := hobt
    subst ha
    rw [List.getElem_map] at g3
    have hsk : keysOf p (L.take (k + 1)) = keysOf p (L.take k) ++ (if p L[k].s = true then [L[k].s.key] else []) := by rw [List.take_succ_eq_append_getElem hlt]; unfold keysOf; rw [List.map_append, List.filter_append, List.map_append]; simp only [List.map_cons, List.map_nil, List.filter_cons, List.filter_nil]; split <;> simp
    generalize L[k] = r at g3 hsk
    simp [e14, e1, hlt, g1, g2, g3]
    have x1 := hx.app hn (.row r.enc 39 false)
    refine CN.use (hf _ r x1) ?_
    rintro _ A2 hw2 hn2 ⟨rfl, x2⟩
    have z2 := x2 A'.next (by simp)
    simp at z2 hn2
    have x3 := x1.trans (by simp <;> omega) x2
    have hL2 : Lst A2 27 4 ob' v ((keysOf p (L.take k)).map Key.enc) := hL'.kept fun b' e => by
      have := hL'.lt hw' e
      rw [x2 b' (by simp <;> omega), AH.get_alloc, if_neg (by omega)]
    have hw16 := i64_in (x := (k : Int) + 1) (by omega) (by omega)
    simp
    split
    · rename_i hp
      rw [if_pos hp] at hsk
      have hcnt : (keysOf p (L.take k)).length ≤ L.length := by unfold keysOf; rw [List.length_map]; exact Nat.le_trans (List.length_filter_le _ _) (by simp <;> omega)
      have hobt := hL2.push (y := 32) (r := r.s.key.enc) hw2 ⟨rfl, rfl⟩ (by decide) (by decide) (by simp <;> omega) (by simp <;> omega)
      obtain ⟨v4, A4, ob4, p1, p2, p3, p4, p5⟩ := hobt
      simp [z2, e5, p1, e16]
      refine NX.of ⟨m - 1, by omega, k + 1, ob4, v4, by omega, fun j hj => (p3 j (by omega) (fun e => by have := hob _ e; omega)).trans (x3 j hj), by omega, by rw [hsk]; simpa using p2, ?_, by simp, by simp [e1], by simp [e14], by simp [e15], by simp [hw16]⟩
      rcases p4 with rfl | rfl
      · exact hob
      · exact Fresh.yes (by omega)
    · rename_i hp
      rw [if_neg hp, List.append_nil] at hsk
      simp [e16]
      exact NX.of ⟨m - 1, by omega, k + 1, ob', v, by omega, x3, by omega, by rw [hsk]; exact hL2, hob, by simp [e5], by simp [e1], by simp [e14], by simp [e15], by simp [hw16]⟩
  · rename_i hlt
    rw [List.take_of_length_le (by omega)] at hL'
    subst e5
    exact DN.of ⟨hx, ob', hL', hob⟩
theorem late1_ok {A : AH} {pb : Nat} {now : Int} {T : TypeId} {ro : Bool} (h : A.get pb = some (.row [.int .i64 now] T ro)) (r : RS) : ACall Try.prog 37 [.agg r.enc.toArray, .pointer (some ⟨pb, 0, none⟩)] A fun v A' => v = .bool (decide (r.s.til < now)) ∧ Ext A A' := by
  refine code37.call (by simp) fun hwf => ?_
  unfold c37
  simp [RS.enc, h, Nat.ne_of_lt (hwf _ _ h)]
  exact DN.of ⟨rfl, Ext.alloc A _⟩
theorem lapsed1_ok {A : AH} {pb : Nat} {now : Int} {T : TypeId} {ro : Bool} (h : A.get pb = some (.row [.int .i64 now] T ro)) (r : RS) : ACall Try.prog 38 [.agg r.enc.toArray, .pointer (some ⟨pb, 0, none⟩)] A fun v A' => v = .bool (decide (r.s.out ≠ 0 ∧ r.s.keep < now)) ∧ Ext A A' := by
  refine code38.call (by simp) fun hwf => ?_
  unfold c38
  simp +contextual [RS.enc, h, Nat.ne_of_lt (hwf _ _ h)]
  split <;> exact DN.of ⟨by simp [*], Ext.alloc A _⟩
theorem late_ok {A : AH} {tb : Nat} {most : Int} {ob : Option Nat} {L : List RS} (h : Tab A tb most ob L) (hm : 0 < most) (now : Int) : ACall Try.prog 13 [.pointer (some ⟨tb, 0, none⟩), .int .i64 now] A fun v A' =>
    Ext A A' ∧ ∃ ob', Lst A' 27 4 ob' v ((keysOf (lateP now) L).map Key.enc) ∧ Fresh A.next ob' := by
  refine code13.call (by simp) fun hwf => ?_
  unfold c13
  simp
  have x1 := Ext.alloc A (.row [.int .i64 now] 3 false)
  refine CN.use (those_ok (h.kept hwf x1) hm _ (lateP now) fun A1 r hx => late1_ok ((hx A.next (by simp)).trans (AH.get_new A _)) r) ?_
  rintro v A2 hw2 hn2 ⟨x2, ob', q1, q2⟩
  simp
  exact DN.of ⟨x1.trans (by simp) x2, ob', q1, fun b e => by have := q2 b e; simp at this; omega⟩
theorem lapsed_ok {A : AH} {tb : Nat} {most : Int} {ob : Option Nat} {L : List RS} (h : Tab A tb most ob L) (hm : 0 < most) (now : Int) : ACall Try.prog 14 [.pointer (some ⟨tb, 0, none⟩), .int .i64 now] A fun v A' =>
    Ext A A' ∧ ∃ ob', Lst A' 27 4 ob' v ((keysOf (lapsP now) L).map Key.enc) ∧ Fresh A.next ob' := by
  refine code14.call (by simp) fun hwf => ?_
  unfold c14
  simp
  have x1 := Ext.alloc A (.row [.int .i64 now] 3 false)
  refine CN.use (those_ok (h.kept hwf x1) hm _ (lapsP now) fun A1 r hx => lapsed1_ok ((hx A.next (by simp)).trans (AH.get_new A _)) r) ?_
  rintro v A2 hw2 hn2 ⟨x2, ob', q1, q2⟩
  simp
  exact DN.of ⟨x1.trans (by simp) x2, ob', q1, fun b e => by have := q2 b e; simp at this; omega⟩
end Go.Proofs.Ytanpbdbicicepaa.AC
/- The laws' own functions: one, alive, within, Theirs. -/
namespace Go.Proofs.Ytanpbdbicicepaa.AC
open Go Go.AI Go.Proofs Go.Proofs.Ytanpbdbicicepaa.AQ
set_option linter.unusedVariables false
def oneS : St := ⟨⟨2, 1, 0, 1⟩, ⟨0, 0, 0, 0, 0, 0⟩, [0, 1, 2], 1, 5, 0, 16, 3, 0⟩
theorem one_ok (A : AH) : ACall Try.prog 30 [] A fun v A' => Ext A A' ∧ ∃ b, v = .agg (RS.enc ⟨oneS, some ⟨b, 0, none⟩, 3⟩).toArray ∧ RS.ok A' ⟨oneS, some ⟨b, 0, none⟩, 3⟩ ∧ A.next ≤ b ∧ A'.get b = some (.row (ints [0, 1, 2]).flatten 3 false) := by
  refine code30.call (by simp) fun hwf => ?_
  unfold c30
  simp
  refine DN.of ⟨((Ext.alloc A _).app (by simp) _).setnew (Nat.le_refl _) _, A.next + 1, rfl, ⟨Sl.row (cs := (ints [0, 1, 2]).flatten) (ro := false) (ints_rw _) (by simp [AH.get_set, AH.get_alloc]; rfl) rfl, show 3 ≤ 1000000 by decide, Or.inl ⟨Nat.le_refl 3, show 3 < UNK by decide⟩⟩, by omega, by simp [AH.get_set, AH.get_alloc]; rfl⟩
theorem theirs_ok {A : AH} (r : RS) : ACall Try.prog 10 [.agg r.enc.toArray] A fun v A' => Ext A A' ∧ v = .agg r.enc.toArray := by
  refine code10.call (by simp) fun hwf => ?_
  unfold c10
  simp [RS.enc]
  exact DN.of ⟨((Ext.alloc A _).app (by simp) _).setnew (by omega) _, rfl⟩
theorem alive_ok (A : AH) : ACall Try.prog 7 [] A fun v A' => v = .bool true ∧ Ext A A' := by
  refine code7.call (by simp) fun hwf => ?_
  unfold c7
  simp
  refine CN.use (new_ok (by decide) A) ?_
  rintro _ A1 hw1 hn1 ⟨rfl, x1, t1⟩
  simp
  refine CN.use (one_ok A1) ?_
  rintro _ A2 hw2 hn2 ⟨x2, b, rfl, r2, hb, -⟩
  have t2 := t1.kept hw1 x2
  generalize hr : (RS.mk oneS (some ⟨b, 0, none⟩) 3) = r at *
  have hs : r.s = oneS := by rw [← hr]
  simp
  have hmay : mayB oneS = true := by decide
  have x3 : Ext A2 (A2.alloc (.row r.enc 39 false)) := Ext.alloc A2 _
  refine CN.use (may_ok (r2.ext hw2 x3)) ?_
  rintro _ A3 hw3 hn3 ⟨rfl, x4⟩
  have z3 := x4 A2.next (by simp)
  simp at z3 hn3
  have x5 := x3.trans (by simp) x4
  simp [hs, hmay, z3]
  refine CN.use (put_ok (t2.kept hw2 x5) (by decide) (by decide) (r2.ext hw2 x5)) ?_
  rintro _ A4 hw4 hn4 ⟨rfl, r', q1, q2, ob, q3, q4, q5, q6⟩
  have hp : putL 2 [] r' = [r'] := by simp [putL, q1, hs, hmay, fnd]
  have hc : putC 2 [] r.s = 0 := by simp [putC, hs, hmay, fnd]
  rw [hp] at q3
  simp [hc]
  refine CN.use (len_ok q3 (by decide)) ?_
  rintro _ A4 hw5 - ⟨rfl, rfl⟩
  simp
  have hq1 : r'.s = oneS := q1.trans hs
  have htb : A.next < A1.next := by obtain ⟨v0, t0, -⟩ := t1.row; exact hw1 _ _ t0
  have z4 : A4.get A2.next = some (.row r.enc 39 false) := (q4 _ (by omega) (by omega) (by simp)).trans z3
  have y4 : Ext A A4 := fun j hj => (q4 j (by omega) (by omega) (by simp)).trans ((x5 j (by omega)).trans ((x2 j (by omega)).trans (x1 j hj)))
  have q30 := q3
  have e4 : Ext A4 A4 := Ext.refl A4
  refine CN.use (late_ok (q3.kept hw4 e4) (by decide) 5) ?_
  rintro v A5 hwA5 hnA5 ⟨u0, ob0, f0, -⟩
  have k0 : keysOf (lateP 5) [r'] = [] := by unfold keysOf; rw [List.map_cons, hq1]; rfl
  rw [k0] at f0
  have hobt := f0.sl
  obtain ⟨a, c, rfl, -, -⟩ := hobt
  have e5 : Ext A4 A5 := e4.trans (by omega) u0
  simp
  refine CN.use (late_ok (q3.kept hw4 e5) (by decide) 6) ?_
  rintro v A6 hwA6 hnA6 ⟨u1, ob1, f1, -⟩
  have k1 : keysOf (lateP 6) [r'] = [oneS.key] := by unfold keysOf; rw [List.map_cons, hq1]; rfl
  rw [k1] at f1
  have hobt := f1.sl
  obtain ⟨a, c, rfl, -, -⟩ := hobt
  have e6 : Ext A4 A6 := e5.trans (by omega) u1
  simp
  refine CN.use (lapsed_ok (q3.kept hw4 e6) (by decide) 4) ?_
  rintro v A7 hwA7 hnA7 ⟨u2, ob2, f2, -⟩
  have k2 : keysOf (lapsP 4) [r'] = [oneS.key] := by unfold keysOf; rw [List.map_cons, hq1]; rfl
  rw [k2] at f2
  have hobt := f2.sl
  obtain ⟨a, c, rfl, -, -⟩ := hobt
  have e7 : Ext A4 A7 := e6.trans (by omega) u2
  simp
  refine CN.use (lapsed_ok (q3.kept hw4 e7) (by decide) 3) ?_
  rintro v A8 hwA8 hnA8 ⟨u3, ob3, f3, -⟩
  have k3 : keysOf (lapsP 3) [r'] = [] := by unfold keysOf; rw [List.map_cons, hq1]; rfl
  rw [k3] at f3
  have hobt := f3.sl
  obtain ⟨a, c, rfl, -, -⟩ := hobt
  have e8 : Ext A4 A8 := e7.trans (by omega) u3
  simp
  simp [e8.get hw4 z4]
  have t8 := q3.kept hw4 e8
  refine CN.use (drop_ok t8 (by decide) r.s.key) ?_
  have fk : fnd [r'] r.s.key = (0, true) := by rw [hs]; unfold fnd; rw [hq1]; rfl
  have fd : dropL [r'] r.s.key = [] := by simp [dropL, fk]
  rw [fk]
  simp only [if_true, fd]
  rintro _ A9 hwA9 hnA9 ⟨rfl, ob9, v1, v2, v3, -⟩
  have z9 : A9.get A2.next = some (.row r.enc 39 false) := by
    rw [v2 _ (by omega) (by omega) ?_]
    · exact e8.get hw4 z4
    · rintro rfl
      rcases q5 with h | ⟨b', h, h'⟩
      · cases h
      · injection h with h; omega
  simp [z9]
  refine CN.use (drop_ok v1 (by decide) r.s.key) ?_
  have fk2 : fnd [] r.s.key = (0, false) := rfl
  rw [fk2]
  simp only [Bool.false_eq_true, if_false]
  rintro _ A10 hwA10 hnA10 ⟨rfl, ob10, w1, w2, w3, -⟩
  simp
  refine DN.of ⟨rfl, fun j hj => ?_⟩
  rw [w2 j (by omega) (by omega) ?_, v2 j (by omega) (by omega) ?_, e8 j (by omega), y4 j hj]
  · rintro rfl
    rcases q5 with h | ⟨b', h, h'⟩
    · cases h
    · injection h with h; omega
  · rintro rfl
    rcases v3 with h | ⟨b', h, h'⟩
    · rcases q5 with h2 | ⟨b', h2, h'⟩
      · rw [h2] at h; cases h
      · rw [h2] at h; injection h with h; omega
    · injection h with h; omega
end Go.Proofs.Ytanpbdbicicepaa.AC
/- Are all keys of one list in another one? -/
namespace Go.Proofs.Ytanpbdbicicepaa.AC
open Go Go.AI Go.Proofs Go.Proofs.Ytanpbdbicicepaa.AQ
set_option linter.unusedVariables false
theorem within_ok {A : AH} {a b : Option Addr} {c d : Nat} {xs ys : List Key} (h : Sl A 27 4 a (xs.map Key.enc)) (h' : Sl A 27 4 b (ys.map Key.enc)) (hl : xs.length ≤ 1000000000) (hl' : ys.length ≤ 1000000000) :
    ACall Try.prog 12 [.slice a xs.length c, .slice b ys.length d] A fun v A' => v = .bool (decide (∀ x ∈ xs, x ∈ ys)) ∧ Ext A A' := by
  refine code12.call (by simp) fun hwf => ?_
  unfold c12
  simp
  refine LN.use (fun m E A' => ∃ k : Nat, m + k = xs.length ∧ Ext A A' ∧ A.next ≤ A'.next ∧ E.get 1 = .slice b ys.length d ∧ E.get 10 = .slice a xs.length c ∧ E.get 11 = .int .i64 xs.length ∧ E.get 12 = .int .i64 k ∧ ∀ x ∈ xs.take k, x ∈ ys) xs.length
    ⟨0, by simp, Ext.refl A, Nat.le_refl _, by simp, by simp, by simp, by simp, by simp⟩ ?_
  rintro m E A1 hw1 hn1 ⟨k, hk, hx, hn, e1, e10, e11, e12, hI⟩
  simp [e11, e12]
  split
  · rename_i hlt
    have hobt := (h.ext hwf hx).at (i := k) (by simpa using hlt)
    obtain ⟨b0, o, cs, ro, rfl, g1, g2, g3⟩ := hobt
    rw [List.getElem_map] at g3
    have hsk := List.take_succ_eq_append_getElem hlt
    generalize xs[k] = x at g3 hsk
    simp [e1, e10, hlt, g1, g2, g3]
    have x1 := hx.app hn (.row x.enc 27 false)
    refine LN.use (fun m2 E A2 => ∃ j : Nat, m2 + j = ys.length ∧ Ext A A2 ∧ A.next ≤ A2.next ∧ A2.get A1.next = some (.row x.enc 27 false) ∧ E.get 1 = .slice b ys.length d ∧ E.get 6 = .pointer (some ⟨A1.next, 0, none⟩) ∧ E.get 7 = .bool (decide (x ∈ ys.take j)) ∧ E.get 10 = .slice (some ⟨b0, o, none⟩) xs.length c ∧ E.get 11 = .int .i64 xs.length ∧ E.get 12 = .int .i64 k ∧ E.get 16 = .slice b ys.length d ∧ E.get 17 = .int .i64 ys.length ∧ E.get 18 = .int .i64 j) ys.length
      ⟨0, by simp, x1, by simp <;> omega, AH.get_new _ _, by simp [e1], by simp, by simp, by simp [e10], by simp [e11], by simp [e12], by simp, by simp, by simp⟩ ?_
    rintro m2 E2 A2 hw2 hn2 ⟨j, hj, hx2, hn3, z2, f1, f6, f7, f10, f11, f12, f16, f17, f18⟩
    simp [f17, f18]
    split
    · rename_i hlt2
      have hobt := (h'.ext hwf hx2).at (i := j) (by simpa using hlt2)
      obtain ⟨b1, o1, cs1, ro1, rfl, g4, g5, g6⟩ := hobt
      rw [List.getElem_map] at g6
      have hsk2 := List.take_succ_eq_append_getElem hlt2
      generalize ys[j] = y at g6 hsk2
      have hne : A1.next ≠ A2.next := by have := hw2 _ _ z2; omega
      have x2 := hx2.app hn3 (.row y.enc 27 false)
      have hw16 := i64_in (x := (j : Int) + 1) (by omega) (by omega)
      simp +contextual [f16, f6, f7, f18, hlt2, g4, g5, g6, z2, hne]
      have hw20 := i64_in (x := (j : Int) + 1) (by omega) (by omega)
      have hne7 : ∀ z, (z ∈ ys.take (j + 1)) = (z ∈ ys.take j ∨ z = y) := fun z => by rw [hsk2]; simp
      split
      · rename_i hin
        exact NX.of ⟨m2 - 1, by omega, j + 1, by omega, x2, by simp <;> omega, by simp [hne, z2], by simp [f1], by simp [f6], by simp [hne7, hin], by simp [f10], by simp [f11], by simp [f12], by simp [f16], by simp [f17], by simp [hw20]⟩
      · rename_i hin
        exact NX.of ⟨m2 - 1, by omega, j + 1, by omega, x2, by simp <;> omega, by simp [hne, z2], by simp [f1], by simp [f6], by simp [hne7, hin], by simp [f10], by simp [f11], by simp [f12], by simp [f16], by simp [f17], by simp [hw20]⟩
    · rename_i hlt2
      rw [List.take_of_length_le (by omega)] at f7
      simp [f7, f12]
      have hw20 := i64_in (x := (k : Int) + 1) (by omega) (by omega)
      split
      · rename_i hin
        exact NX.of ⟨m - 1, by omega, k + 1, by omega, hx2, by omega, by simp [f1], by simp [f10], by simp [f11], by simp [hw20], by rw [hsk]; intro z hz; rcases List.mem_append.1 hz with hz | hz; exact hI z hz; rw [List.mem_singleton.1 hz]; exact hin⟩
      · rename_i hin
        exact DN.of ⟨by congr 1; symm; simp only [decide_eq_false_iff_not]; intro hh; exact hin (hh x (List.mem_of_mem_take (i := k + 1) (by rw [hsk]; simp))), hx2⟩
  · rename_i hlt
    rw [List.take_of_length_le (by omega)] at hI
    exact DN.of ⟨by simp; exact hI, hx⟩
theorem within_true {A : AH} {a b : Option Addr} {c d : Nat} {xs ys : List Key} (h : Sl A 27 4 a (xs.map Key.enc)) (h' : Sl A 27 4 b (ys.map Key.enc)) (hl : xs.length ≤ 1000000000) (hl' : ys.length ≤ 1000000000) (hP : ∀ x ∈ xs, x ∈ ys) :
    ACall Try.prog 12 [.slice a xs.length c, .slice b ys.length d] A fun v A' => v = .bool true ∧ Ext A A' :=
  (within_ok h h' hl hl').mono fun v A' _ _ ⟨h1, h2⟩ => ⟨by rw [h1, decide_eq_true hP], h2⟩
end Go.Proofs.Ytanpbdbicicepaa.AC
/- The law SoftTime, walked. -/
namespace Go.Proofs.Ytanpbdbicicepaa.AC
open Go Go.AI Go.Proofs Go.Proofs.Ytanpbdbicicepaa.AQ
set_option linter.unusedVariables false
structure Act where
  drop : Bool
  r : RS
  now : Int
def Act.enc (x : Act) : List Value := .bool x.drop :: (x.r.enc ++ [.int .i64 x.now])
@[simp] theorem act_len (x : Act) : x.enc.length = 19 := by simp [Act.enc]
@[simp] theorem act_one (x : Act) : x.enc.all oneB = true := by simp [Act.enc]
@[simp] theorem act_all (x : Act) : x.enc.take 19 = x.enc := List.take_of_length_le (by simp)
@[simp] theorem act_r (x : Act) : (x.enc.drop 1).take 17 = x.r.enc := (rfl)
@[simp] theorem act_k (x : Act) : (x.enc.drop 1).take 4 = x.r.s.key.enc := (rfl)
@[simp] theorem act_r' (x : Act) : x.enc.tail.take 17 = x.r.enc := (rfl)
@[simp] theorem act_k' (x : Act) : x.enc.tail.take 4 = x.r.s.key.enc := (rfl)
@[simp] theorem act_g0 (x : Act) (h : 0 < x.enc.length) : x.enc[0]'h = .bool x.drop := (rfl)
@[simp] theorem act_g11 (x : Act) (h : 11 < x.enc.length) : x.enc[11]'h = .slice x.r.a x.r.s.route.length x.r.c := (rfl)
@[simp] theorem act_g18 (x : Act) (h : 18 < x.enc.length) : x.enc[18]'h = .int .i64 x.now := (rfl)
theorem act_rw (L : List Act) : Rw 19 (L.map Act.enc) := Rw.map (f := Act.enc) (fun x => ⟨by simp [Act.enc], by simp [Act.enc]⟩) L
/-- A state that is an argument: its route can be read. -/
def RS.arg (A : AH) (r : RS) : Prop := Sl A 3 1 r.a (ints r.s.route) ∧ CapOk A 3 r.a r.s.route.length r.c
theorem RS.arg.ok {A : AH} {r : RS} (h : r.arg A) (hl : r.s.route.length ≤ 1000000) : r.ok A := ⟨h.1, hl, h.2⟩
theorem act_cell {cs : List Value} {p : Nat} {x : Act} (h : (cs.drop p).take 19 = x.enc) : cs[p + 1 + 10]? = some (.slice x.r.a x.r.s.route.length x.r.c) ∧ (cs.drop (p + 1)).take 17 = x.r.enc := by
  constructor
  · rw [Nat.add_assoc, at_cell h (by omega)]; rfl
  · rw [at_part h (by omega)]
    show ((x.r.enc ++ [Value.int .i64 x.now]).drop 0).take 17 = x.r.enc
    rw [List.drop_zero, List.take_append_of_le_length (by simp)]; rfl
theorem keysOf_sub {p q : St → Bool} {L : List RS} (h : ∀ s, p s = true → q s = true) : ∀ x ∈ keysOf p L, x ∈ keysOf q L := by
  intro x hx
  simp only [keysOf, List.mem_map, List.mem_filter] at hx ⊢
  obtain ⟨s, ⟨h1, h2⟩, h3⟩ := hx
  exact ⟨s, ⟨h1, h s h2⟩, h3⟩
theorem keysOf_all {p : St → Bool} {L : List RS} : ∀ x ∈ keysOf p L, x ∈ (L.map RS.s).map St.key := by
  intro x hx
  simp only [keysOf, List.mem_map, List.mem_filter] at hx ⊢
  obtain ⟨s, ⟨h1, h2⟩, h3⟩ := hx
  exact ⟨s, h1, h3⟩
set_option maxHeartbeats 2000000 in
theorem softTime_walk {A : AH} {a : Option Addr} {c : Nat} {acts : List Act} (h : Sl A 36 19 a (acts.map Act.enc)) (hr : ∀ x ∈ acts, x.r.arg A) (now later : Int) (hnow : -9223372036854775808 ≤ now) (hla : 0 ≤ later ∧ later ≤ 255) :
    ACall Try.prog 3 [.slice a acts.length c, .int .i64 now, .int .u8 later] A fun v A' => v = .bool true := by
  refine code3.call (by simp) fun hwf => ?_
  unfold c3
  simp
  refine CN.use (alive_ok A) ?_
  rintro _ A1 hw1 hn1 ⟨rfl, x1⟩
  simp
  refine CN.use (new_ok (by decide) A1) ?_
  rintro _ A2 hw2 hn2 ⟨rfl, x2, t2⟩
  have htb : A1.next < A2.next := by obtain ⟨v0, t0, -⟩ := t2.row; exact hw2 _ _ t0
  simp
  refine LN.use (fun m E A' => ∃ (i : Nat) (ob : Option Nat) (L : List RS), m + i = 80 ∧ Ext A A' ∧ A2.next ≤ A'.next ∧ Tab A' A1.next 64 ob L ∧ Fresh A.next ob ∧ E.get 0 = .slice a acts.length c ∧ E.get 1 = .int .i64 now ∧ E.get 2 = .int .u8 later ∧ E.get 7 = .pointer (some ⟨A1.next, 0, none⟩) ∧ E.get 8 = .int .i64 i) 80
    ⟨0, none, [], by simp, x1.trans hn1 x2, Nat.le_refl _, t2, Fresh.no _, by simp, by simp, by simp, by simp, by simp⟩ ?_
  rintro m E A3 hw3 hn3 ⟨i, ob, L, hi, hx, hn, ht, hob, e0, e1, e2, e7, e8⟩
  by_cases hgo : i < acts.length ∧ (i : Int) < 80
  · simp [e0, e8, hgo.1, hgo.2]
    have hobt := (h.ext hwf hx).at (i := i) (by simpa using hgo.1)
    obtain ⟨b0, o, cs, ro, rfl, g1, g2, g3⟩ := hobt
    rw [List.getElem_map] at g3
    have hmem := List.getElem_mem hgo.1
    have hrx := hr _ hmem
    generalize acts[i] = x at g3 hrx
    have hobt := act_cell g3
    obtain ⟨g4, g5⟩ := hobt
    simp [e0, e8, hgo.1, g1, g4]
    split
    · rename_i h1000
      have hok := (hrx.ok (by omega)).ext hwf hx
      have g6 : o + i * 19 + 1 + 17 ≤ cs.length := by omega
      simp [g5, g6]
      refine CN.use (theirs_ok x.r) ?_
      rintro _ A4 hw4 hn4 ⟨x4, rfl⟩
      simp [e7]
      refine CN.use (put_ok (ht.kept hw3 x4) (by decide) (by decide) (hok.ext hw3 x4)) ?_
      rintro _ A5 hw5 hn5 ⟨rfl, r', q1, -, ob', q2, q3, q4, -⟩
      have hob' : Fresh A.next ob' := by
        rcases q4 with rfl | ⟨b', rfl, hb'⟩
        · exact hob
        · exact Fresh.yes (by omega)
      simp [e8]
      refine NX.of ⟨m - 1, by omega, i + 1, ob', _, by omega, fun j hj => ?_, by omega, q2, hob', by simp [e0], by simp [e1], by simp [e2], by simp [e7], by simp [i64_in (x := (i : Int) + 1) (by omega) (by omega)]⟩
      rw [q3 j (by omega) (by omega) (fun e => by have := hob _ e; omega), x4 j (by omega), hx j hj]
    · rename_i h1000
      exact NX.of ⟨m - 1, by omega, i + 1, ob, L, by omega, hx, hn, ht, hob, by simp [e0], by simp [e1], by simp [e2], by simp [e7], by simp [i64_in (x := (i : Int) + 1) (by omega) (by omega)]⟩
  · have hex : ¬ i < acts.length ∨ (i < acts.length ∧ ¬ (i : Int) < 80) := by omega
    rcases hex with k1 | ⟨k1, k2⟩
    all_goals
      simp [*]
      clear k1
      split
      · exact DN.of rfl
      rename_i hnow2
      refine CN.use (all_ok ht (by decide)) ?_
      rintro v A4 hw4 hn4 ⟨x4, L', b, p1, p2, p3, p4⟩
      have hobt := p1.sl
      obtain ⟨a4, c4, rfl, p5, -⟩ := hobt
      have hlen' : L'.length = L.length := by have := congrArg List.length p2; simpa using this
      have hlenL := ht.len
      have hkey : ∀ x, x ∈ L'.map (fun r => r.s.key) ↔ x ∈ (L.map RS.s).map St.key := fun x => by rw [← p2]; simp
      simp
      refine LN.use (fun m E A' => ∃ (k : Nat) (ob' : Option Nat) (v : Value), m + k = L'.length ∧ Ext A4 A' ∧ A4.next ≤ A'.next ∧ Lst A' 27 4 ob' v (((L'.take k).map fun r => r.s.key).map Key.enc) ∧ Fresh A4.next ob' ∧ E.get 9 = v ∧ E.get 1 = .int .i64 now ∧ E.get 2 = .int .u8 later ∧ E.get 7 = .pointer (some ⟨A1.next, 0, none⟩) ∧ E.get 47 = .slice a4 L'.length c4 ∧ E.get 48 = .int .i64 L'.length ∧ E.get 49 = .int .i64 k) L'.length
        ⟨0, none, _, by simp, Ext.refl A4, Nat.le_refl _, by simpa using Lst.nil A4 _ _, Fresh.no _, by simp, by simp [e1], by simp [e2], by simp [e7], by simp, by simp, by simp⟩ ?_
      rintro m2 E2 A5 hw5 hn5 ⟨k, ob5, v5, hk, hx5, hn5', hL5, hob5, f9, f1, f2, f7, f47, f48, f49⟩
      simp [f48, f49]
      split
      · rename_i hlt
        have hobt := (p5.ext hw4 hx5).at (i := k) (by simpa using hlt)
        obtain ⟨b0, o, cs, ro, rfl, g1, g2, g3⟩ := hobt
        rw [List.getElem_map] at g3
        have hsk : (L'.take (k + 1)).map (fun r => r.s.key) = (L'.take k).map (fun r => r.s.key) ++ [L'[k].s.key] := by rw [List.take_succ_eq_append_getElem hlt, List.map_append]; rfl
        generalize L'[k] = r at g3 hsk
        have hobt := Lst.push (y := 32) (r := r.s.key.enc) (A := A5.alloc (.row r.enc 39 false)) (hL5.kept fun b' e => by have := hL5.lt hw5 e; rw [AH.get_alloc, if_neg (by omega)]) (AH.wf_alloc hw5 _) ⟨rfl, rfl⟩ (by decide) (by decide) (by simp <;> omega) (by simp <;> omega)
        obtain ⟨v6, A6, ob6, u1, u2, u3, u4, u5⟩ := hobt
        simp at u1 u3 u4 u5
        simp [f47, f9, hlt, g1, g2, g3, u1, f49]
        refine NX.of ⟨m2 - 1, by omega, k + 1, ob6, v6, by omega, fun j hj => ?_, by omega, by rw [hsk]; simpa using u2, ?_, by simp, by simp [f1], by simp [f2], by simp [f7], by simp [f47], by simp [f48], by simp [i64_in (x := (k : Int) + 1) (by omega) (by omega)]⟩
        · rw [u3 j (by omega) (fun e => by have := hob5 _ e; omega), if_neg (by omega), hx5 j hj]
        · rcases u4 with rfl | rfl
          · exact hob5
          · exact Fresh.yes (by omega)
      · rename_i hlt
        rw [List.take_of_length_le (by omega)] at hL5
        -- TAIL
        have y5 : Ext A3 A5 := x4.trans hn4 hx5
        have hn5'' : A3.next ≤ A5.next := by omega
        have hobt := hL5.slm
        obtain ⟨a5, c5, rfl, s5⟩ := hobt
        have hKl : (L'.map (fun r => r.s.key)).length = L.length := by simp [hlen']
        generalize L'.map (fun r => r.s.key) = K at hkey hL5 s5 f9 hKl
        have hw61 := i64_in (x := later) (by omega) (by omega)
        have hw62 := i64_in (x := now + later) (by omega) (by omega)
        have hlle : ∀ p : St → Bool, (keysOf p L).length ≤ 1000000000 := fun p => by unfold keysOf; rw [List.length_map]; exact Nat.le_trans (List.length_filter_le _ _) (by simp <;> omega)
        simp [f1, f2, f7, hw61, hw62]
        refine CN.use (late_ok (ht.kept hw3 y5) (by decide) (now)) ?_
        rintro v A6 hw6 hn6 ⟨x6, ob6, l6, -⟩
        have y6 : Ext A3 A6 := y5.trans (by omega) x6
        have z6 : A3.next ≤ A6.next := by omega
        have hobt := l6.slm
        obtain ⟨a6, c6, rfl, s6⟩ := hobt
        simp [f1, f2, f7, f9]
        refine CN.use (late_ok (ht.kept hw3 y6) (by decide) (now + later)) ?_
        rintro v A7 hw7 hn7 ⟨x7, ob7, l7, -⟩
        have y7 : Ext A3 A7 := y6.trans (by omega) x7
        have z7 : A3.next ≤ A7.next := by omega
        have hobt := l7.slm
        obtain ⟨a7, c7, rfl, s7⟩ := hobt
        simp [f1, f2, f7, f9]
        refine CN.use (within_true (s6.ext hw6 x7) s7 (hlle _) (hlle _) (keysOf_sub fun s h => by simp [lateP] at h ⊢; omega)) ?_
        rintro _ A8 hw8 hn8 ⟨rfl, x8⟩
        have y8 : Ext A3 A8 := y7.trans (by omega) x8
        simp [f1, f2, f7, f9]
        refine CN.use (lapsed_ok (ht.kept hw3 y8) (by decide) (now)) ?_
        rintro v A9 hw9 hn9 ⟨x9, ob9, l9, -⟩
        have y9 : Ext A3 A9 := y8.trans (by omega) x9
        have z9 : A3.next ≤ A9.next := by omega
        have hobt := l9.slm
        obtain ⟨a9, c9, rfl, s9⟩ := hobt
        simp [f1, f2, f7, f9]
        refine CN.use (lapsed_ok (ht.kept hw3 y9) (by decide) (now + later)) ?_
        rintro v A10 hw10 hn10 ⟨x10, ob10, l10, -⟩
        have y10 : Ext A3 A10 := y9.trans (by omega) x10
        have z10 : A3.next ≤ A10.next := by omega
        have hobt := l10.slm
        obtain ⟨a10, c10, rfl, s10⟩ := hobt
        simp [f1, f2, f7, f9]
        refine CN.use (within_true (s9.ext hw9 x10) s10 (hlle _) (hlle _) (keysOf_sub fun s h => by simp [lapsP] at h ⊢; exact ⟨h.1, by omega⟩)) ?_
        rintro _ A11 hw11 hn11 ⟨rfl, x11⟩
        have y11 : Ext A3 A11 := y10.trans (by omega) x11
        simp [f1, f2, f7, f9]
        refine CN.use (late_ok (ht.kept hw3 y11) (by decide) (now + later)) ?_
        rintro v A12 hw12 hn12 ⟨x12, ob12, l12, -⟩
        have y12 : Ext A3 A12 := y11.trans (by omega) x12
        have z12 : A3.next ≤ A12.next := by omega
        have hobt := l12.slm
        obtain ⟨a12, c12, rfl, s12⟩ := hobt
        simp [f1, f2, f7, f9]
        refine CN.use (within_true s12 (((((((s5.ext hw5 x6).ext hw6 x7).ext hw7 x8).ext hw8 x9).ext hw9 x10).ext hw10 x11).ext hw11 x12) (hlle _) (by omega) (fun x hx => (hkey x).2 (keysOf_all (p := lateP (now + later)) x hx))) ?_
        rintro _ A13 hw13 hn13 ⟨rfl, x13⟩
        have y13 : Ext A3 A13 := y12.trans (by omega) x13
        simp [f1, f2, f7, f9]
        refine CN.use (lapsed_ok (ht.kept hw3 y13) (by decide) (now + later)) ?_
        rintro v A14 hw14 hn14 ⟨x14, ob14, l14, -⟩
        have y14 : Ext A3 A14 := y13.trans (by omega) x14
        have z14 : A3.next ≤ A14.next := by omega
        have hobt := l14.slm
        obtain ⟨a14, c14, rfl, s14⟩ := hobt
        simp [f1, f2, f7, f9]
        refine CN.use (within_true s14 (((((((((s5.ext hw5 x6).ext hw6 x7).ext hw7 x8).ext hw8 x9).ext hw9 x10).ext hw10 x11).ext hw11 x12).ext hw12 x13).ext hw13 x14) (hlle _) (by omega) (fun x hx => (hkey x).2 (keysOf_all (p := lapsP (now + later)) x hx))) ?_
        rintro _ A15 hw15 hn15 ⟨rfl, x15⟩
        have y15 : Ext A3 A15 := y14.trans (by omega) x15
        simp [f1, f2, f7, f9]
        refine CN.use (len_ok (ht.kept hw3 y15) (by decide)) ?_
        rintro _ A99 - - ⟨rfl, rfl⟩
        simp [hKl]
        exact DN.of rfl
end Go.Proofs.Ytanpbdbicicepaa.AC
/- The reference: which states may be. -/
namespace Go.Proofs.Ytanpbdbicicepaa.AC
open Go Go.AI Go.Proofs Go.Proofs.Ytanpbdbicicepaa.AQ
set_option linter.unusedVariables false
def nodeB (n : Int) : Bool := decide (0 ≤ n ∧ n < 16)
def bindB (n : Int) : Bool := decide (16 ≤ n ∧ n ≤ 1048575)
def nodesB (l : List Int) : Bool := decide (l.length ≤ 16 ∧ ∀ x ∈ l, 0 ≤ x ∧ x < 16)
theorem rsmall_ok (n : Int) (A : AH) : ACall Try.prog 45 [.int .i64 n] A fun v A' => v = .bool (smallB n) ∧ A' = A := by
  refine code45.call (by simp) fun hwf => ?_
  unfold c45
  simp +contextual
  repeat' split
  all_goals exact DN.of ⟨by simp [smallB, *], rfl⟩
theorem rnode_ok (n : Int) (A : AH) : ACall Try.prog 63 [.int .i64 n] A fun v A' => v = .bool (nodeB n) ∧ A' = A := by
  refine code63.call (by simp) fun hwf => ?_
  unfold c63
  simp +contextual
  repeat' split
  all_goals exact DN.of ⟨by simp [nodeB, *], rfl⟩
theorem rtick_ok (n : Int) (A : AH) : ACall Try.prog 49 [.int .i64 n] A fun v A' => v = .bool (tickB n) ∧ A' = A := by
  refine code49.call (by simp) fun hwf => ?_
  unfold c49
  simp +contextual
  repeat' split
  all_goals exact DN.of ⟨by simp [tickB, *], rfl⟩
theorem rbind_ok (n : Int) (A : AH) : ACall Try.prog 59 [.int .i64 n] A fun v A' => v = .bool (bindB n) ∧ A' = A := by
  refine code59.call (by simp) fun hwf => ?_
  unfold c59
  simp +contextual
  repeat' split
  all_goals exact DN.of ⟨by simp [bindB, *], rfl⟩
theorem rlabel_ok (n : Int) (A : AH) : ACall Try.prog 48 [.int .i64 n] A fun v A' => v = .bool (labelB n) ∧ A' = A := by
  refine code48.call (by simp) fun hwf => ?_
  unfold c48
  simp +contextual
  split
  · exact DN.of ⟨by simp [labelB, *], rfl⟩
  rename_i h0
  split
  · exact DN.of ⟨by simp [labelB, *], rfl⟩
  rename_i h3
  refine CN.use (rbind_ok n A) ?_
  rintro _ A - - ⟨rfl, rfl⟩
  simp [h0, h3]
  exact DN.of ⟨by simp [labelB, bindB, h0, h3], rfl⟩
theorem rright_ok (w : Want) (A : AH) : ACall Try.prog 46 [wantV w] A fun v A' => v = .bool (rightB w) ∧ Ext A A' := by
  refine code46.call (by simp) fun hwf => ?_
  unfold c46
  simp +contextual [wantV]
  repeat' split
  all_goals exact DN.of ⟨by simp [rightB, *]; try omega, Ext.alloc A _⟩
theorem rhas_ok {A : AH} {a : Option Addr} {c : Nat} {l : List Int} (h : Sl A 3 1 a (ints l)) (hl : l.length ≤ 1000000000) (x : Int) : ACall Try.prog 58 [.slice a l.length c, .int .i64 x] A fun v A' => v = .bool (decide (x ∈ l)) ∧ A' = A := by
  refine code58.call (by simp) fun hwf => ?_
  unfold c58
  simp
  refine LN.use (fun m E A' => ∃ k : Nat, m + k = l.length ∧ A' = A ∧ E.get 0 = .slice a l.length c ∧ E.get 1 = .int .i64 x ∧ E.get 5 = .int .i64 k ∧ x ∉ l.take k) l.length ⟨0, by simp, rfl, by simp, by simp, by simp, by simp⟩ ?_
  rintro m E _ - - ⟨k, hk, rfl, e0, e1, e5, hI⟩
  simp [e0, e5]
  split
  · rename_i hlt
    have hobt := h.one (ints_at (l := l) (i := k) (by omega))
    obtain ⟨b, o, cs, ro, rfl, h1, h2⟩ := hobt
    simp [h1, h2, e0, e1, e5, hlt]
    split
    · rename_i he
      exact DN.of ⟨by congr 1; symm; simp; rw [← he]; exact List.getElem_mem _, rfl⟩
    · rename_i he
      exact NX.of ⟨m - 1, by omega, k + 1, by omega, rfl, by simp [e0], by simp [e1], by simp [i64_in (x := (k : Int) + 1) (by omega) (by omega)], by rw [List.take_succ_eq_append_getElem hlt, List.mem_append, List.mem_singleton]; exact fun e => e.elim hI (fun e => he e.symm)⟩
  · rename_i hlt
    rw [List.take_of_length_le (by omega)] at hI
    exact DN.of ⟨by simp [hI], rfl⟩
theorem rnodes_ok {A : AH} {a : Option Addr} {c : Nat} {l : List Int} (h : Sl A 3 1 a (ints l)) (hl : l.length ≤ 1000000000) : ACall Try.prog 57 [.slice a l.length c] A fun v A' => v = .bool (nodesB l) ∧ A' = A := by
  refine code57.call (by simp) fun hwf => ?_
  unfold c57
  simp
  split
  · exact DN.of ⟨by congr 1; symm; simp only [nodesB, decide_eq_false_iff_not]; omega, rfl⟩
  rename_i h16
  refine LN.use (fun m E A' => ∃ k : Nat, m + k = l.length ∧ A' = A ∧ E.get 0 = .slice a l.length c ∧ E.get 3 = .int .i64 k ∧ ∀ x ∈ l.take k, 0 ≤ x ∧ x < 16) l.length ⟨0, by simp, rfl, by simp, by simp, by simp⟩ ?_
  rintro m E _ - - ⟨k, hk, rfl, e0, e3, hI⟩
  simp [e0, e3]
  split
  · rename_i hlt
    have hobt := h.one (ints_at (l := l) (i := k) (by omega))
    obtain ⟨b, o, cs, ro, rfl, h1, h2⟩ := hobt
    simp [h1, h2, e0, e3, hlt]
    refine CN.use (rnode_ok _ _) ?_
    rintro _ A - - ⟨rfl, rfl⟩
    simp [e3]
    split
    · rename_i he
      refine NX.of ⟨m - 1, by omega, k + 1, by omega, rfl, by simp [e0], by simp [i64_in (x := (k : Int) + 1) (by omega) (by omega)], ?_⟩
      rw [List.take_succ_eq_append_getElem hlt]; intro x hx
      rcases List.mem_append.1 hx with hx | hx
      · exact hI x hx
      · rw [List.mem_singleton.1 hx]; exact of_decide_eq_true he
    · rename_i he
      exact DN.of ⟨by congr 1; symm; simp only [nodesB, decide_eq_false_iff_not]; intro hh; exact he (decide_eq_true (hh.2 _ (List.getElem_mem _))), rfl⟩
  · rename_i hlt
    rw [List.take_of_length_le (by omega)] at hI
    exact DN.of ⟨by congr 1; symm; simp only [nodesB, decide_eq_true_eq]; exact ⟨by omega, hI⟩, rfl⟩
theorem rring_ok {A : AH} {a : Option Addr} {c : Nat} {l : List Int} (h : Sl A 3 1 a (ints l)) (hl : l.length ≤ 1000000000) (hc : CapOk A 3 a l.length c) : ACall Try.prog 47 [.slice a l.length c] A fun v A' => v = .bool (ringB l) ∧ A' = A := by
  refine code47.call (by simp) fun hwf => ?_
  unfold c47
  simp
  by_cases h2 : (l.length : Int) < 2
  · simp [h2]
    exact DN.of ⟨by congr 1; symm; simp only [ringB, decide_eq_false_iff_not]; omega, rfl⟩
  simp [h2]
  refine CN.use (rnodes_ok h hl) ?_
  rintro _ A - - ⟨rfl, rfl⟩
  simp [h2]
  split
  case isFalse =>
    rename_i hn
    exact DN.of ⟨by congr 1; symm; simp only [ringB, decide_eq_false_iff_not]; intro hh; exact hn (decide_eq_true ⟨hh.2.2.2, hh.1⟩), rfl⟩
  rename_i hn
  have hn := of_decide_eq_true hn
  refine LN.use (fun m E A' => ∃ k : Nat, m + k = l.length ∧ A' = A ∧ E.get 0 = .slice a l.length c ∧ E.get 3 = .int .i64 k ∧ (l.take k).Nodup) l.length ⟨0, by simp, rfl, by simp, by simp, by simp⟩ ?_
  rintro m E _ - - ⟨k, hk, rfl, e0, e3, hN⟩
  simp [e0, e3]
  split
  · rename_i hlt
    have hobt := h.one (ints_at (l := l) (i := k) (by omega))
    obtain ⟨b, o, cs, ro, rfl, h1, h2'⟩ := hobt
    have hs := slW_pre (o := o) (h := k) (n := l.length) (c := c) (k := .i64) (z := 1) h1 (by omega) (hc.imp id fun ⟨q1, q2⟩ => ⟨q1, by obtain ⟨cs', ro', q3⟩ := q2 b o rfl; rw [h1] at q3; injection q3 with q3; injection q3 with _ q3 _; rw [q3]; exact sz3⟩)
    simp [h1, h2', e0, e3, hlt, hs]
    have hpre : Sl _ 3 1 (some ⟨b, o, none⟩) (ints (l.take k)) := h.pre (k := k) (by simp [ints])
    have hlk : (l.take k).length = k := by simp <;> omega
    have hco := rhas_ok (c := c) hpre (by omega) l[k]
    rw [hlk] at hco
    refine CN.use hco ?_
    intro v A2 hw2 hn2 hr2
    have hv2 := hr2.1
    have hA2 := hr2.2
    clear hr2
    subst hv2
    subst hA2
    have htk := List.take_succ_eq_append_getElem hlt
    simp [e3]
    split
    · rename_i hin
      exact DN.of ⟨by have : ringB l = false := by
                        simp only [ringB, decide_eq_false_iff_not]; intro hh
                        have hn := hh.2.1.sublist (List.take_sublist (k + 1) l)
                        rw [htk, List.nodup_append] at hn
                        exact hn.2.2 _ hin _ (List.mem_singleton.2 rfl) rfl
                      rw [this], rfl⟩
    · rename_i hin
      refine NX.of ⟨m - 1, by omega, k + 1, by omega, rfl, by simp [e0], by simp [i64_in (x := (k : Int) + 1) (by omega) (by omega)], ?_⟩
      rw [htk, List.nodup_append]
      exact ⟨hN, by simp, fun x hx y hy e => hin (by rw [List.mem_singleton.1 hy] at e; rw [← e]; exact hx)⟩
  · rename_i hlt
    rw [List.take_of_length_le (by omega)] at hN
    exact DN.of ⟨by congr 1; symm; simp only [ringB, decide_eq_true_eq]; exact ⟨hn.2, hN, by omega, by omega⟩, rfl⟩
theorem rmay_ok {A : AH} {r : RS} (h : r.ok A) : ACall Try.prog 21 [.agg r.enc.toArray] A fun v A' => v = .bool (mayB r.s) ∧ Ext A A' := by
  refine code21.call (by simp) fun hwf => ?_
  unfold c21
  simp [RS.enc]
  refine CN.use (rsmall_ok _ _) ?_
  rintro _ _ - - ⟨rfl, rfl⟩
  simp +contextual
  have x0 := Ext.alloc A (.row r.enc 34 false)
  simp [RS.enc] at x0
  split
  case isFalse => exact DN.of ⟨by simp [mayB, *], x0⟩
  rename_i b1
  refine CN.use (rsmall_ok _ _) ?_
  rintro _ _ hw1 - ⟨rfl, rfl⟩
  simp +contextual [b1]
  split
  case isFalse => exact DN.of ⟨by simp [mayB, *], x0⟩
  rename_i b2
  refine CN.use (rright_ok r.s.want _) ?_
  rintro _ A1 hw2 hn2 ⟨rfl, x1⟩
  have x2 := x0.trans (by simp) x1
  have z1 := x1 A.next (by simp)
  simp at z1
  have hl := h.2.1
  simp +contextual [z1]
  split
  case isFalse => exact DN.of ⟨by simp [mayB, *], x2⟩
  rename_i b3
  refine CN.use (rring_ok (h.1.ext hwf x2) (by omega) (h.2.2.ext hwf x2)) ?_
  rintro _ _ - - ⟨rfl, rfl⟩
  simp +contextual [z1, b3]
  split
  case isFalse => exact DN.of ⟨by simp [mayB, *], x2⟩
  rename_i b4
  split
  case isTrue => exact DN.of ⟨by simp [mayB]; omega, x2⟩
  rename_i b5
  split
  case isTrue => exact DN.of ⟨by simp [mayB]; omega, x2⟩
  rename_i b6
  generalize hB : A.alloc _ = B at *
  have h0 := h.1.ext hwf x2
  generalize hrt : r.s.route = l at *
  have hobt := h0.one (ints_at (l := l) (i := 0) (by omega))
  obtain ⟨b, o, cs, ro, ha, g1, g2⟩ := hobt
  have hobt := h0.one (ints_at (l := l) (i := l.length - 1) (by omega))
  obtain ⟨b', o', cs', ro', ha', g1', g3⟩ := hobt
  rw [ha] at ha'
  obtain ⟨rfl, rfl⟩ : b = b' ∧ o = o' := by injection ha' with e; injection e with e1 e2; exact ⟨e1, e2⟩
  rw [g1] at g1'
  obtain rfl : cs = cs' := by injection g1' with e; injection e
  have w1 := i64_in (x := (l.length : Int) - 1) (by omega) (by omega)
  have w2 : ((l.length : Int) - 1).toNat = l.length - 1 := by omega
  have w3 : 0 < l.length := by omega
  have w4 : (l.length : Int) - 1 < l.length := by omega
  have w5 : (1 : Int) ≤ l.length := by omega
  have d1 : l[0]? = some l[0] := List.getElem?_eq_getElem w3
  have d2 : l[l.length - 1]? = some l[l.length - 1] := List.getElem?_eq_getElem (by omega)
  rw [Nat.add_zero] at g2
  generalize hy1 : l[0] = y1 at g2 d1
  generalize hy2 : l[l.length - 1] = y2 at g3 d2
  simp +contextual [z1, ha, g1, g2, g3, w1, w2, w3, w4, w5, b5, b6]
  have hm : mayB r.s = (decide (y1 = r.s.key.head ∧ y2 = r.s.key.tail) && (labelB r.s.inn && (labelB r.s.out && (tickB r.s.til && (tickB r.s.keep && tickB r.s.seen))))) := by
    have e1 : 0 ≤ r.s.pos := by omega
    have e2 : r.s.pos < l.length := by omega
    simp [mayB, hrt, b1, b2, b3, b4, d1, d2, e1, e2]
  clear hB x0 x1 hw1 hn2
  split
  case isFalse => rename_i hno; exact DN.of ⟨by rw [hm]; simp [hno], x2⟩
  rename_i e1
  split
  case isFalse => rename_i hno; exact DN.of ⟨by rw [hm]; simp [hno], x2⟩
  rename_i e2
  refine CN.use (rlabel_ok _ _) ?_
  rintro _ _ - - ⟨rfl, rfl⟩
  simp +contextual [z1, e1, e2]
  split
  case isFalse => rename_i hno; exact DN.of ⟨by rw [hm]; simp [hno], x2⟩
  rename_i e3
  refine CN.use (rlabel_ok _ _) ?_
  rintro _ _ - - ⟨rfl, rfl⟩
  simp +contextual [z1, e1, e2, e3]
  split
  case isFalse => rename_i hno; exact DN.of ⟨by rw [hm]; simp [hno], x2⟩
  rename_i e4
  refine CN.use (rtick_ok _ _) ?_
  rintro _ _ - - ⟨rfl, rfl⟩
  simp +contextual [z1, e1, e2, e3, e4]
  split
  case isFalse => rename_i hno; exact DN.of ⟨by rw [hm]; simp [hno], x2⟩
  rename_i e5
  refine CN.use (rtick_ok _ _) ?_
  rintro _ _ - - ⟨rfl, rfl⟩
  simp +contextual [z1, e1, e2, e3, e4, e5]
  split
  case isFalse => rename_i hno; exact DN.of ⟨by rw [hm]; simp [hno], x2⟩
  rename_i e6
  refine CN.use (rtick_ok _ _) ?_
  rintro _ _ - - ⟨rfl, rfl⟩
  simp +contextual [e1, e2, e3, e4, e5, e6]
  exact DN.of ⟨by rw [hm]; simp [e1, e2, e3, e4, e5, e6], x2⟩
end Go.Proofs.Ytanpbdbicicepaa.AC
/- The reference: the same states, lists of states. -/
namespace Go.Proofs.Ytanpbdbicicepaa.AC
open Go Go.AI Go.Proofs Go.Proofs.Ytanpbdbicicepaa.AQ
set_option linter.unusedVariables false
theorem rbefore_ok (x y : Key) (A : AH) : ACall Try.prog 31 [keyV x, keyV y] A fun v A' => Ext A A' ∧ v = .bool (x.bef y) := by
  refine code31.call (by simp) fun hwf => ?_
  unfold c31
  simp [keyV]
  have hx : Ext A ((A.alloc (.row [.int .i64 x.tail, .int .i64 x.tunnel, .int .i64 x.head, .int .i64 x.lsp] 27 false)).alloc (.row [.int .i64 y.tail, .int .i64 y.tunnel, .int .i64 y.head, .int .i64 y.lsp] 27 false)) := (Ext.alloc A _).app (by simp) _
  repeat' split
  all_goals exact DN.of ⟨hx, by congr 1; simp only [Key.bef]; apply decide_eq_decide.2; omega⟩
def itemL (a : Option Addr) (n c : Nat) : List Value := [.int .i64 0, .int .i64 0, .int .i64 0, .int .i64 0, .int .u64 0, .slice a n c, .int .u64 0, .int .i64 0, .int .i64 0, .int .u32 0, .int .u32 0, .int .u32 0]
def itemV (a : Option Addr) (n c : Nat) : Value := .agg #[.int .i64 0, .int .i64 0, .int .i64 0, .int .i64 0, .int .u64 0, .slice a n c, .int .u64 0, .int .i64 0, .int .i64 0, .int .u32 0, .int .u32 0, .int .u32 0]
def sameL (l l' : List Int) : Bool := decide (l = l')
theorem rsame_ok {A : AH} {a a' : Option Addr} {c c' : Nat} {l l' : List Int} (h : Sl A 3 1 a (ints l)) (h' : Sl A 3 1 a' (ints l')) (hl : l.length ≤ 1000000000) :
    ACall Try.prog 39 [itemV a l.length c, itemV a' l'.length c'] A fun v A' => v = .bool (sameL l l') ∧ Ext A A' := by
  refine code39.call (by simp) fun hwf => ?_
  unfold c39
  simp [itemV]
  have hx : Ext A ((A.alloc (.row (itemL a l.length c) 80 false)).alloc (.row (itemL a' l'.length c') 80 false)) := (Ext.alloc A _).app (by simp) _
  by_cases hlenI : (l.length : Int) = l'.length
  · have hlen : l.length = l'.length := by omega
    simp [hlen]
    refine LN.use (fun m E A' => ∃ k : Nat, m + k = l'.length ∧ A' = (A.alloc (.row (itemL a l.length c) 80 false)).alloc (.row (itemL a' l'.length c') 80 false) ∧ E.get 2 = .pointer (some ⟨A.next, 0, none⟩) ∧ E.get 3 = .pointer (some ⟨A.next + 1, 0, none⟩) ∧ E.get 5 = .int .i64 k ∧ l.take k = l'.take k) l'.length
      ⟨0, by simp, by rw [hlen]; rfl, by simp, by simp, by simp, by simp⟩ ?_
    rintro m E A' hw1 hn1 ⟨k, hk, hA', e2, e3, e5, hI⟩
    have g1 : A'.get A.next = some (.row (itemL a l.length c) 80 false) := by rw [hA', AH.get_alloc, AH.get_alloc]; simp
    have g2 : A'.get (A.next + 1) = some (.row (itemL a' l'.length c') 80 false) := by rw [hA', AH.get_alloc]; simp
    rw [← hA'] at hx
    simp only [itemL] at g1 g2
    have k1 := h.ext hwf hx
    have k2 := h'.ext hwf hx
    simp [e2, e3, e5, g1, hlen]
    split
    · rename_i hlt
      have hobt := k1.one (ints_at (l := l) (i := k) (by omega))
      obtain ⟨b, o, cs, ro, rfl, h1, h2⟩ := hobt
      have hobt := k2.one (ints_at (l := l') (i := k) hlt)
      obtain ⟨b', o', cs', ro', rfl, h3, h4⟩ := hobt
      simp [e2, e3, e5, g1, g2, h1, h2, h3, h4, hlt, hlen]
      split
      · rename_i he
        refine NX.of ⟨m - 1, by omega, k + 1, by omega, hA', by simp [e2], by simp [e3], by simp [i64_in (x := (k : Int) + 1) (by omega) (by omega)], ?_⟩
        rw [List.take_succ_eq_append_getElem hlt, List.take_succ_eq_append_getElem (by omega : k < l.length), hI, he]
      · rename_i he
        exact DN.of ⟨by congr 1; symm; simp only [sameL, decide_eq_false_iff_not]; intro e; subst e; exact he rfl, hx⟩
    · rename_i hlt
      have he : l = l' := by
        have := hI
        rwa [List.take_of_length_le (by omega), List.take_of_length_le (by omega)] at this
      simp [e2, e3, g1, g2]
      exact DN.of ⟨by congr 1; symm; simp only [sameL, decide_eq_true_eq]; exact he, hx⟩
  · simp [hlenI]
    exact DN.of ⟨by congr 1; symm; simp only [sameL, decide_eq_false_iff_not]; intro e; exact hlenI (by rw [e]), hx⟩
def sameS (r r' : RS) : Bool := decide (r.s = r'.s)
theorem want_aEq (A : AH) (x y : Want) : aEq Try.prog A 20 31 (.agg x.enc.toArray) (.agg y.enc.toArray) = some (decide (x = y)) := by
  cases x; cases y; simp [Want.enc]
@[simp high] theorem want_eql (A : AH) (x y : Want) : aBin Try.prog A .eql 31 (.agg x.enc.toArray) (.agg y.enc.toArray) = some (.bool (decide (x = y))) := by
  rw [aBin_eql_agg A _ _ _ eg31, want_aEq]; rfl
theorem rsameS_ok {A : AH} {r r' : RS} (h : r.ok A) (h' : r'.ok A) : ACall Try.prog 18 [.agg r.enc.toArray, .agg r'.enc.toArray] A fun v A' => v = .bool (sameS r r') ∧ Ext A A' := by
  refine code18.call (by simp) fun hwf => ?_
  unfold c18
  have x1 : Ext A ((A.alloc (.row r.enc 34 false)).alloc (.row r'.enc 34 false)) := (Ext.alloc A _).app (by simp) _
  simp
  refine CN.use (rsame_ok (h.1.ext hwf x1) (h'.1.ext hwf x1) (by have := h.2.1; omega)) ?_
  rintro _ A2 hw2 hn2 ⟨rfl, x2⟩
  have x3 := x1.trans (by simp <;> omega) x2
  have z1 : A2.get A.next = some (.row r.enc 34 false) := by rw [x2 _ (by simp <;> omega)]; simp
  have z2 : A2.get (A.next + 1) = some (.row r'.enc 34 false) := by rw [x2 _ (by simp)]; simp
  simp
  split
  case isFalse => rename_i hs; exact DN.of ⟨by congr 1; symm; simp only [sameS, decide_eq_false_iff_not]; intro e; exact hs (by simp [sameL, e]), x3⟩
  rename_i hs
  have hs := of_decide_eq_true hs
  by_cases k0 : r.s.key = r'.s.key
  rotate_left
  · simp [z1, z2, k0]
    exact DN.of ⟨by congr 1; symm; simp only [sameS, decide_eq_false_iff_not]; intro e; exact k0 (by rw [e]), x3⟩
  by_cases k1 : r.s.want = r'.s.want
  rotate_left
  · simp [z1, z2, k0, k1]
    exact DN.of ⟨by congr 1; symm; simp only [sameS, decide_eq_false_iff_not]; intro e; exact k1 (by rw [e]), x3⟩
  by_cases k2 : r.s.pos = r'.s.pos
  rotate_left
  · simp [z1, z2, k0, k1, k2]
    exact DN.of ⟨by congr 1; symm; simp only [sameS, decide_eq_false_iff_not]; intro e; exact k2 (by rw [e]), x3⟩
  by_cases k3 : r.s.til = r'.s.til
  rotate_left
  · simp [z1, z2, k0, k1, k2, k3]
    exact DN.of ⟨by congr 1; symm; simp only [sameS, decide_eq_false_iff_not]; intro e; exact k3 (by rw [e]), x3⟩
  by_cases k4 : r.s.inn = r'.s.inn
  rotate_left
  · simp [z1, z2, k0, k1, k2, k3, k4]
    exact DN.of ⟨by congr 1; symm; simp only [sameS, decide_eq_false_iff_not]; intro e; exact k4 (by rw [e]), x3⟩
  by_cases k5 : r.s.out = r'.s.out
  rotate_left
  · simp [z1, z2, k0, k1, k2, k3, k4, k5]
    exact DN.of ⟨by congr 1; symm; simp only [sameS, decide_eq_false_iff_not]; intro e; exact k5 (by rw [e]), x3⟩
  by_cases k6 : r.s.keep = r'.s.keep
  rotate_left
  · simp [z1, z2, k0, k1, k2, k3, k4, k5, k6]
    exact DN.of ⟨by congr 1; symm; simp only [sameS, decide_eq_false_iff_not]; intro e; exact k6 (by rw [e]), x3⟩
  by_cases k7 : r.s.seen = r'.s.seen
  rotate_left
  · simp [z1, z2, k0, k1, k2, k3, k4, k5, k6, k7]
    exact DN.of ⟨by congr 1; symm; simp only [sameS, decide_eq_false_iff_not]; intro e; exact k7 (by rw [e]), x3⟩
  simp [z1, z2, k0, k1, k2, k3, k4, k5, k6, k7]
  refine DN.of ⟨by congr 1; symm; simp only [sameS, decide_eq_true_eq]; generalize r.s = s at *; generalize r'.s = s' at *; cases s; cases s'; simp_all, x3⟩
end Go.Proofs.Ytanpbdbicicepaa.AC
/- The laws' lists of states; the reference's comparisons. -/
namespace Go.Proofs.Ytanpbdbicicepaa.AC
open Go Go.AI Go.Proofs Go.Proofs.Ytanpbdbicicepaa.AQ
set_option linter.unusedVariables false
theorem ours_ok {A : AH} (r : RS) : ACall Try.prog 19 [.agg r.enc.toArray] A fun v A' => Ext A A' ∧ v = .agg r.enc.toArray := by
  refine code19.call (by simp) fun hwf => ?_
  unfold c19
  simp [RS.enc]
  exact DN.of ⟨((Ext.alloc A _).app (by simp) _).setnew (by omega) _, rfl⟩
theorem list_ok {A : AH} {a : Option Addr} {c : Nat} {L : List RS} (h : Sl A 39 17 a (L.map RS.enc)) (hl : L.length ≤ 1000000) : ACall Try.prog 26 [.slice a L.length c] A fun v A' =>
    Ext A A' ∧ ∃ ob, Lst A' 34 17 ob v (L.map RS.enc) ∧ Fresh A.next ob := by
  refine code26.call (by simp) fun hwf => ?_
  unfold c26
  simp
  refine LN.use (fun m E A' => ∃ (k : Nat) (ob : Option Nat) (v : Value), m + k = L.length ∧ Ext A A' ∧ A.next ≤ A'.next ∧ Lst A' 34 17 ob v ((L.take k).map RS.enc) ∧ Fresh A.next ob ∧ E.get 3 = v ∧ E.get 6 = .slice a L.length c ∧ E.get 7 = .int .i64 L.length ∧ E.get 8 = .int .i64 k) L.length
    ⟨0, none, _, by simp, Ext.refl A, Nat.le_refl _, by simpa using Lst.nil A _ _, Fresh.no _, by simp, by simp, by simp, by simp⟩ ?_
  rintro m E A' hw' hn' ⟨k, ob, v, hk, hx, hn, hL, hob, e3, e6, e7, e8⟩
  simp [e7, e8]
  split
  · rename_i hlt
    have hobt := (h.ext hwf hx).at (i := k) (by simpa using hlt)
    obtain ⟨b0, o, cs, ro, rfl, g1, g2, g3⟩ := hobt
    rw [List.getElem_map] at g3
    have hsk : (L.take (k + 1)).map RS.enc = (L.take k).map RS.enc ++ [L[k].enc] := by rw [List.take_succ_eq_append_getElem hlt, List.map_append]; rfl
    generalize L[k] = r at g3 hsk
    simp [e6, hlt, g1, g2, g3]
    have x1 := hx.app hn (.row r.enc 39 false)
    refine CN.use (ours_ok r) ?_
    rintro _ A2 hw2 hn2 ⟨x2, rfl⟩
    simp at hn2
    have hL2 : Lst A2 34 17 ob v ((L.take k).map RS.enc) := hL.kept fun b' e => by
      have := hL.lt hw' e
      rw [x2 b' (by simp <;> omega), AH.get_alloc, if_neg (by omega)]
    have hobt := hL2.push (y := 144) (r := r.enc) hw2 ⟨rfl, rfl⟩ (by decide) (by decide) (by simp <;> omega) (by simp <;> omega)
    obtain ⟨v4, A4, ob4, p1, p2, p3, p4, p5⟩ := hobt
    have x4 := x1.trans (by simp <;> omega) x2
    simp [e3, p1, e8]
    refine NX.of ⟨m - 1, by omega, k + 1, ob4, v4, by omega, fun j hj => (p3 j (by omega) (fun e => by have := hob _ e; omega)).trans (x4 j hj), by omega, by rw [hsk]; exact p2, ?_, by simp, by simp [e6], by simp [e7], by simp [i64_in (x := (k : Int) + 1) (by omega) (by omega)]⟩
    rcases p4 with rfl | rfl
    · exact hob
    · exact Fresh.yes (by omega)
  · rename_i hlt
    rw [List.take_of_length_le (by omega)] at hL
    subst e3
    exact DN.of ⟨hx, ob, hL, hob⟩
def keysB (a b : List Key) : Bool := decide (a = b)
theorem keys_ok {A : AH} {a a' : Option Addr} {c c' : Nat} {l l' : List Key} (h : Sl A 27 4 a (l.map Key.enc)) (h' : Sl A 27 4 a' (l'.map Key.enc)) (hl : l.length ≤ 1000000000) :
    ACall Try.prog 27 [.slice a l.length c, .slice a' l'.length c'] A fun v A' => v = .bool (keysB l l') ∧ A' = A := by
  refine code27.call (by simp) fun hwf => ?_
  unfold c27
  by_cases hlenI : (l.length : Int) = l'.length
  · have hlen : l.length = l'.length := by omega
    simp [hlen]
    refine LN.use (fun m E A' => ∃ k : Nat, m + k = l'.length ∧ A' = A ∧ E.get 0 = .slice a l'.length c ∧ E.get 1 = .slice a' l'.length c' ∧ E.get 12 = .int .i64 l'.length ∧ E.get 13 = .int .i64 k ∧ l.take k = l'.take k) l'.length
      ⟨0, by simp, rfl, by simp, by simp, by simp, by simp, by simp⟩ ?_
    rintro m E _ hw1 hn1 ⟨k, hk, rfl, e0, e1, e12, e13, hI⟩
    simp [e12, e13]
    split
    · rename_i hlt
      have hobt := h.at (i := k) (by simp <;> omega)
      obtain ⟨b, o, cs, ro, rfl, h1, h2, h3⟩ := hobt
      have hobt := h'.at (i := k) (by simp <;> omega)
      obtain ⟨b', o', cs', ro', rfl, h4, h5, h6⟩ := hobt
      rw [List.getElem_map] at h3 h6
      have t1 := List.take_succ_eq_append_getElem (l := l) (i := k) (by omega)
      have t2 := List.take_succ_eq_append_getElem (l := l') (i := k) (by omega)
      have hkk : l[k] ≠ l'[k] → l ≠ l' := fun hne e => hne (by subst e; rfl)
      generalize l[k]'(by omega) = x at h3 t1 hkk
      generalize l'[k] = y at h6 t2 hkk
      simp [e0, e1, e12, e13, h1, h2, h3, h4, h5, h6, hlt]
      split
      · rename_i he
        subst he
        exact NX.of ⟨m - 1, by omega, k + 1, by omega, rfl, by simp [e0], by simp [e1], by simp [e12], by simp [i64_in (x := (k : Int) + 1) (by omega) (by omega)], by rw [t1, t2, hI]⟩
      · rename_i he
        exact DN.of ⟨by congr 1; symm; simp only [keysB, decide_eq_false_iff_not]; exact hkk he, rfl⟩
    · rename_i hlt
      rw [List.take_of_length_le (by omega), List.take_of_length_le (by omega)] at hI
      exact DN.of ⟨by congr 1; symm; simp only [keysB, decide_eq_true_eq]; exact hI, rfl⟩
  · simp [hlenI]
    exact DN.of ⟨by congr 1; symm; simp only [keysB, decide_eq_false_iff_not]; intro e; exact hlenI (by rw [e]), rfl⟩
def allB (a b : List RS) : Bool := decide (a.map RS.s = b.map RS.s)
theorem rall_ok {A : AH} {a a' : Option Addr} {c c' : Nat} {l l' : List RS} (h : Sl A 34 17 a (l.map RS.enc)) (h' : Sl A 34 17 a' (l'.map RS.enc)) (hr : ∀ r ∈ l, r.ok A) (hr' : ∀ r ∈ l', r.ok A) (hl : l.length ≤ 1000000000) :
    ACall Try.prog 25 [.slice a l.length c, .slice a' l'.length c'] A fun v A' => v = .bool (allB l l') ∧ Ext A A' := by
  refine code25.call (by simp) fun hwf => ?_
  unfold c25
  by_cases hlenI : (l.length : Int) = l'.length
  · have hlen : l.length = l'.length := by omega
    simp [hlen]
    refine LN.use (fun m E A' => ∃ k : Nat, m + k = l'.length ∧ Ext A A' ∧ A.next ≤ A'.next ∧ E.get 0 = .slice a l'.length c ∧ E.get 1 = .slice a' l'.length c' ∧ E.get 5 = .int .i64 k ∧ (l.take k).map RS.s = (l'.take k).map RS.s) l'.length
      ⟨0, by simp, Ext.refl A, Nat.le_refl _, by simp, by simp, by simp, by simp⟩ ?_
    rintro m E A1 hw1 hn1 ⟨k, hk, hx, hn, e0, e1, e5, hI⟩
    simp [e0, e5]
    split
    · rename_i hlt
      have hobt := (h.ext hwf hx).at (i := k) (by simp <;> omega)
      obtain ⟨b, o, cs, ro, rfl, h1, h2, h3⟩ := hobt
      have hobt := (h'.ext hwf hx).at (i := k) (by simp <;> omega)
      obtain ⟨b', o', cs', ro', rfl, h4, h5, h6⟩ := hobt
      rw [List.getElem_map] at h3 h6
      have t1 := List.take_succ_eq_append_getElem (l := l) (i := k) (by omega)
      have t2 := List.take_succ_eq_append_getElem (l := l') (i := k) (by omega)
      have hkk : (l[k]).s ≠ (l'[k]).s → l.map RS.s ≠ l'.map RS.s := fun hne e => hne (by have := congrArg (fun z => z[k]?) e; simpa [hlt, hlen] using this)
      have m1 := hr l[k] (List.getElem_mem _)
      have m2 := hr' l'[k] (List.getElem_mem _)
      generalize l[k]'(by omega) = x at h3 t1 hkk m1
      generalize l'[k] = y at h6 t2 hkk m2
      simp [e0, e1, e5, h1, h2, h3, h4, h5, h6, hlt]
      refine CN.use (rsameS_ok (m1.ext hwf hx) (m2.ext hwf hx)) ?_
      rintro _ A2 hw2 hn2 ⟨rfl, x2⟩
      simp [e5]
      split
      · rename_i he
        have he := of_decide_eq_true he
        exact NX.of ⟨m - 1, by omega, k + 1, by omega, hx.trans hn x2, by omega, by simp [e0], by simp [e1], by simp [i64_in (x := (k : Int) + 1) (by omega) (by omega)], by rw [t1, t2, List.map_append, List.map_append, hI]; simp [he]⟩
      · rename_i he
        exact DN.of ⟨by congr 1; symm; simp only [allB, decide_eq_false_iff_not]; exact hkk fun e => he (decide_eq_true e), hx.trans hn x2⟩
    · rename_i hlt
      rw [List.take_of_length_le (by omega), List.take_of_length_le (by omega)] at hI
      exact DN.of ⟨by congr 1; symm; simp only [allB, decide_eq_true_eq]; exact hI, hx⟩
  · simp [hlenI]
    exact DN.of ⟨by congr 1; symm; simp only [allB, decide_eq_false_iff_not]; intro e; exact hlenI (by have := congrArg List.length e; simp at this; omega), Ext.refl A⟩
end Go.Proofs.Ytanpbdbicicepaa.AC
/- The reference's table. -/
namespace Go.Proofs.Ytanpbdbicicepaa.AC
open Go Go.AI Go.Proofs Go.Proofs.Ytanpbdbicicepaa.AQ
set_option linter.unusedVariables false
def tabV (a : Option Addr) (n c : Nat) (most : Int) : Value := .agg #[.slice a n c, .int .i64 most]
def hasB (L : List RS) (k : Key) : Bool := L.any fun r => decide (r.s.key = k)
theorem hasB_app (L M : List RS) (k : Key) : hasB (L ++ M) k = (hasB L k || hasB M k) := by simp [hasB]
theorem rhasT_ok {A : AH} {a : Option Addr} {c : Nat} {most : Int} {L : List RS} (h : Sl A 34 17 a (L.map RS.enc)) (hl : L.length ≤ 1000000) (k : Key) :
    ACall Try.prog 50 [tabV a L.length c most, keyV k] A fun v A' => v = .bool (hasB L k) ∧ Ext A A' := by
  refine code50.call (by simp) fun hwf => ?_
  unfold c50
  have e1 : keyV k = .agg k.enc.toArray := rfl
  rw [e1]
  have hx : Ext A ((A.alloc (.row [.slice a L.length c, .int .i64 most] 50 false)).alloc (.row k.enc 27 false)) := (Ext.alloc A _).app (by simp) _
  simp [tabV]
  refine LN.use (fun m E A' => ∃ j : Nat, m + j = L.length ∧ A' = (A.alloc (.row [.slice a L.length c, .int .i64 most] 50 false)).alloc (.row k.enc 27 false) ∧ E.get 2 = .pointer (some ⟨A.next, 0, none⟩) ∧ E.get 3 = .pointer (some ⟨A.next + 1, 0, none⟩) ∧ E.get 5 = .int .i64 j ∧ hasB (L.take j) k = false) L.length
    ⟨0, by simp, rfl, by simp, by simp, by simp, by simp [hasB]⟩ ?_
  rintro m E A' hw1 hn1 ⟨j, hj, hA', e2, e3, e5, hI⟩
  have g1 : A'.get A.next = some (.row [.slice a L.length c, .int .i64 most] 50 false) := by rw [hA', AH.get_alloc, AH.get_alloc]; simp
  have g2 : A'.get (A.next + 1) = some (.row k.enc 27 false) := by rw [hA', AH.get_alloc]; simp
  rw [← hA'] at hx
  simp [e2, e3, e5, g1]
  split
  · rename_i hlt
    have hobt := (h.ext hwf hx).at (i := j) (by simpa using hlt)
    obtain ⟨b, o, cs, ro, rfl, h1, h2, h3⟩ := hobt
    rw [List.getElem_map] at h3
    have h4 : (cs.drop (o + j * 17)).take 4 = L[j].s.key.enc := at_head h3 (by omega)
    have h5 : o + j * 17 + 4 ≤ cs.length := by omega
    have t1 := List.take_succ_eq_append_getElem hlt
    have hmem : L[j] ∈ L := List.getElem_mem hlt
    generalize L[j] = r at h4 t1 hmem
    simp [e2, e3, e5, g1, g2, h1, h4, h5, hlt]
    split
    · rename_i he
      exact DN.of ⟨by congr 1; symm; simp only [hasB, List.any_eq_true]; exact ⟨r, hmem, decide_eq_true he⟩, hx⟩
    · rename_i he
      exact NX.of ⟨m - 1, by omega, j + 1, by omega, hA', by simp [e2], by simp [e3], by simp [i64_in (x := (j : Int) + 1) (by omega) (by omega)], by rw [t1, hasB_app, hI]; simp [hasB, he]⟩
  · rename_i hlt
    rw [List.take_of_length_le (by omega)] at hI
    exact DN.of ⟨by rw [hI], hx⟩
def rgetL (L : List RS) (k : Key) : Option RS := L.find? fun r => decide (r.s.key = k)
theorem rget_ok {A : AH} {a : Option Addr} {c : Nat} {most : Int} {L : List RS} (h : Sl A 34 17 a (L.map RS.enc)) (hl : L.length ≤ 1000000) (k : Key) :
    ACall Try.prog 17 [tabV a L.length c most, keyV k] A fun v A' => v = .tuple #[.agg ((rgetL L k).getD zeroR).enc.toArray, .int .i64 (if (rgetL L k).isSome = true then 0 else 8)] ∧ Ext A A' := by
  refine code17.call (by simp) fun hwf => ?_
  unfold c17
  have e1 : keyV k = .agg k.enc.toArray := rfl
  rw [e1]
  obtain ⟨B, hB⟩ : ∃ B : AH, B = ((A.alloc (.row [.slice a L.length c, .int .i64 most] 50 false)).alloc (.row k.enc 27 false)).alloc (.row zeroR.enc 34 false) := ⟨_, rfl⟩
  have hx : Ext A B := by rw [hB]; exact ((Ext.alloc A _).app (by simp) _).app (by simp <;> omega) _
  simp [tabV]
  refine LN.use (fun m E A' => ∃ j : Nat, m + j = L.length ∧ A' = B ∧ E.get 2 = .pointer (some ⟨A.next, 0, none⟩) ∧ E.get 3 = .pointer (some ⟨A.next + 1, 0, none⟩) ∧ E.get 4 = .pointer (some ⟨A.next + 2, 0, none⟩) ∧ E.get 6 = .int .i64 j ∧ hasB (L.take j) k = false) L.length
    ⟨0, by simp, by rw [hB]; rfl, by simp, by simp, by simp, by simp, by simp [hasB]⟩ ?_
  rintro m E A' hw1 hn1 ⟨j, hj, rfl, e2, e3, e4, e6, hI⟩
  have g1 : A'.get A.next = some (.row [.slice a L.length c, .int .i64 most] 50 false) := by rw [hB, AH.get_alloc, if_neg (by simp <;> omega), AH.get_alloc, if_neg (by simp), AH.get_alloc, if_pos (by simp)]
  have g2 : A'.get (A.next + 1) = some (.row k.enc 27 false) := by rw [hB, AH.get_alloc, if_neg (by simp), AH.get_alloc, if_pos (by simp)]
  have g3 : A'.get (A.next + 2) = some (.row zeroR.enc 34 false) := by rw [hB, AH.get_alloc]; simp
  have hnone : ∀ {M : List RS}, hasB M k = false → rgetL M k = none := fun {M} hm => by
    simp only [hasB, List.any_eq_false] at hm
    exact List.find?_eq_none.2 hm
  simp [e2, e3, e4, e6, g1]
  split
  · rename_i hlt
    have hobt := (h.ext hwf hx).at (i := j) (by simpa using hlt)
    obtain ⟨b, o, cs, ro, rfl, h1, h2, h3⟩ := hobt
    rw [List.getElem_map] at h3
    have h4 : (cs.drop (o + j * 17)).take 4 = L[j].s.key.enc := at_head h3 (by omega)
    have h5 : o + j * 17 + 4 ≤ cs.length := by omega
    have t1 := List.take_succ_eq_append_getElem hlt
    have t3 : rgetL L k = rgetL (L.drop j) k := by
      have e : L = L.take j ++ L.drop j := (List.take_append_drop j L).symm
      unfold rgetL
      conv => lhs; rw [e]
      rw [List.find?_append]
      have := hnone hI
      unfold rgetL at this
      rw [this]; rfl
    have t2 := List.drop_eq_getElem_cons hlt
    generalize L[j] = r at h3 h4 t1 t2
    simp [e2, e3, e4, e6, g1, g2, h1, h2, h3, h4, h5, hlt]
    split
    · rename_i he
      have hg : rgetL L k = some r := by rw [t3, t2]; simp [rgetL, he]
      simp [e2, e4, e6, g1, g3, h1, h2, h3, hlt]
      exact DN.of ⟨by rw [hg]; rfl, hx.setnew (by omega) _⟩
    · rename_i he
      exact NX.of ⟨m - 1, by omega, j + 1, by omega, rfl, by simp [e2], by simp [e3], by simp [e4], by simp [i64_in (x := (j : Int) + 1) (by omega) (by omega)], by rw [t1, hasB_app, hI]; simp [hasB, he]⟩
  · rename_i hlt
    rw [List.take_of_length_le (by omega)] at hI
    simp [e4, g3]
    exact DN.of ⟨by rw [hnone hI]; rfl, hx.setnew (by omega) _⟩
end Go.Proofs.Ytanpbdbicicepaa.AC
/- The reference's table: Drop, Late, Lapsed. -/
namespace Go.Proofs.Ytanpbdbicicepaa.AC
open Go Go.AI Go.Proofs Go.Proofs.Ytanpbdbicicepaa.AQ
set_option linter.unusedVariables false
def otherB (k : Key) (r : RS) : Bool := decide (r.s.key ≠ k)
def rdropL (L : List RS) (k : Key) : List RS := if hasB L k = true then L.filter (otherB k) else L
/-- A table of the reference, answered. -/
def RTab (A : AH) (v : Value) (most : Int) (L : List RS) : Prop := ∃ a c, v = tabV a L.length c most ∧ Sl A 34 17 a (L.map RS.enc)
theorem RTab.ext {A A' : AH} {v : Value} {most : Int} {L : List RS} (h : RTab A v most L) (hw : A.wf) (hx : Ext A A') : RTab A' v most L := by
  obtain ⟨a, c, h1, h2⟩ := h
  exact ⟨a, c, h1, h2.ext hw hx⟩
/-- Its list is new. -/
def Nw (n n' : Nat) (v : Value) : Prop := ∀ b o l c most, v = tabV (some ⟨b, o, none⟩) l c most → n ≤ b ∧ b < n'
theorem rdrop_ok {A : AH} {v0 : Value} {most : Int} {L : List RS} (h0 : RTab A v0 most L) (hl : L.length ≤ 1000000) (k : Key) :
    ACall Try.prog 22 [v0, keyV k] A fun v A' => ∃ u, v = .tuple #[u, .int .i64 (if hasB L k = true then 0 else 8)] ∧ Ext A A' ∧ RTab A' u most (rdropL L k) ∧ (u = v0 ∨ Nw A.next A'.next u) := by
  obtain ⟨a, c, rfl, h⟩ := h0
  refine code22.call (by simp) fun hwf => ?_
  unfold c22
  have e1 : keyV k = .agg k.enc.toArray := rfl
  rw [e1]
  obtain ⟨B, hB⟩ : ∃ B : AH, B = ((A.alloc (.row [.slice a L.length c, .int .i64 most] 50 false)).alloc (.row k.enc 27 false)).alloc (.row [.slice none 0 0, .int .i64 0] 50 false) := ⟨_, rfl⟩
  have hx : Ext A B := by rw [hB]; exact ((Ext.alloc A _).app (by simp) _).app (by simp <;> omega) _
  have nB : B.next = A.next + 3 := by rw [hB]; rfl
  have g1 : B.get A.next = some (.row [.slice a L.length c, .int .i64 most] 50 false) := by rw [hB, AH.get_alloc, if_neg (by simp <;> omega), AH.get_alloc, if_neg (by simp), AH.get_alloc, if_pos rfl]
  have g2 : B.get (A.next + 1) = some (.row k.enc 27 false) := by rw [hB, AH.get_alloc, if_neg (by simp), AH.get_alloc, if_pos (by simp)]
  have g3 : B.get (A.next + 2) = some (.row [.slice none 0 0, .int .i64 0] 50 false) := by rw [hB, AH.get_alloc, if_pos (by simp)]
  simp [tabV]
  rw [← hB]
  refine CN.use (rhasT_ok (h.ext hwf hx) hl k) ?_
  rintro _ A2 hw2 hn2 ⟨rfl, x2⟩
  have x3 := hx.trans (by omega) x2
  have k1 : A2.get A.next = some (.row [.slice a L.length c, .int .i64 most] 50 false) := (x2 _ (by omega)).trans g1
  have k2 : A2.get (A.next + 1) = some (.row k.enc 27 false) := (x2 _ (by omega)).trans g2
  have k3 : A2.get (A.next + 2) = some (.row [.slice none 0 0, .int .i64 0] 50 false) := (x2 _ (by omega)).trans g3
  simp
  split
  case isFalse =>
    rename_i hh
    simp [k1, k3]
    exact DN.of ⟨_, by rw [if_neg hh]; rfl, x3.setnew (by omega) _, by rw [rdropL, if_neg hh]; exact ⟨a, c, rfl, h.ext hwf (x3.setnew (by omega) _)⟩, Or.inl rfl⟩
  rename_i hh
  refine LN.use (fun m E A' => ∃ (j : Nat) (ob : Option Nat) (v : Value), m + j = L.length ∧ Ext A2 A' ∧ A2.next ≤ A'.next ∧ Lst A' 34 17 ob v (((L.take j).filter (otherB k)).map RS.enc) ∧ Fresh A2.next ob ∧ E.get 2 = .pointer (some ⟨A.next, 0, none⟩) ∧ E.get 3 = .pointer (some ⟨A.next + 1, 0, none⟩) ∧ E.get 4 = .pointer (some ⟨A.next + 2, 0, none⟩) ∧ E.get 6 = v ∧ E.get 7 = .int .i64 j) L.length
    ⟨0, none, _, by simp, Ext.refl A2, Nat.le_refl _, by simpa using Lst.nil A2 _ _, Fresh.no _, by simp, by simp, by simp, by simp, by simp⟩ ?_
  rintro m E A3 hw3 hn3 ⟨j, ob, v, hj, x4, hn4, hL, hob, e2, e3, e4, e6, e7⟩
  have q1 := x4.get hw2 k1
  have q2 := x4.get hw2 k2
  have q3 := x4.get hw2 k3
  have x5 := x3.trans (by omega) x4
  simp [e2, e3, e4, e6, e7, q1]
  split
  · rename_i hlt
    have hobt := (h.ext hwf x5).at (i := j) (by simpa using hlt)
    obtain ⟨b, o, cs, ro, rfl, h1, h2, h3⟩ := hobt
    rw [List.getElem_map] at h3
    have h4 : (cs.drop (o + j * 17)).take 4 = L[j].s.key.enc := at_head h3 (by omega)
    have h5 : o + j * 17 + 4 ≤ cs.length := by omega
    have t1 : (L.take (j + 1)).filter (otherB k) = (L.take j).filter (otherB k) ++ (if otherB k L[j] = true then [L[j]] else []) := by
      rw [List.take_succ_eq_append_getElem hlt, List.filter_append]; simp only [List.filter_cons, List.filter_nil]
    generalize L[j] = r at h3 h4 t1
    simp [e2, e3, e7, q1, q2, h1, h4, h5, hlt]
    split
    · rename_i he
      rw [if_neg (by simp [otherB, he]), List.append_nil] at t1
      exact NX.of ⟨m - 1, by omega, j + 1, ob, v, by omega, x4, hn4, by rw [t1]; exact hL, hob, by simp [e2], by simp [e3], by simp [e4], by simp [e6], by simp [i64_in (x := (j : Int) + 1) (by omega) (by omega)]⟩
    · rename_i he
      rw [if_pos (by simp [otherB, he])] at t1
      have hcnt : ((L.take j).filter (otherB k)).length ≤ 1000000 := Nat.le_trans (List.length_filter_le _ _) (by simp <;> omega)
      have hobt := hL.push (y := 144) (r := r.enc) hw3 ⟨rfl, rfl⟩ (by decide) (by decide) (by rw [List.length_map]; omega) (by rw [List.length_map]; omega)
      obtain ⟨v4, A4, ob4, p1, p2, p3, p4, p5⟩ := hobt
      have hmin : min 17 (cs.length - (o + j * 17)) = 17 := by omega
      simp [e2, e6, e7, q1, h1, h2, h3, hlt, p1, hmin]
      refine NX.of ⟨m - 1, by omega, j + 1, ob4, v4, by omega, fun i hi => (p3 i (by omega) (fun e => by have := hob _ e; omega)).trans (x4 i hi), by omega, by rw [t1, List.map_append]; exact p2, ?_, by simp [e2], by simp [e3], by simp [e4], by simp, by simp [i64_in (x := (j : Int) + 1) (by omega) (by omega)]⟩
      rcases p4 with rfl | rfl
      · exact hob
      · exact Fresh.yes (by omega)
  · rename_i hlt
    rw [List.take_of_length_le (by omega)] at hL
    have hobt := hL.slm
    obtain ⟨a', c', rfl, hs'⟩ := hobt
    have hf1 : ∀ b o, a' = some ⟨b, o, none⟩ → A2.next ≤ b ∧ b < A3.next := fun b o e => by
      have hobt := hL.sl
      obtain ⟨a2, c2, e1, -, e2⟩ := hobt
      injection e1 with e1; rw [e] at e1
      exact ⟨hob b (e2 b o e1.symm).1, hL.lt hw3 (e2 b o e1.symm).1⟩
    simp [q1, q3, e4, e6]
    refine DN.of ⟨_, by rw [if_pos hh], (x5.setnew (by omega) _).setnew (by omega) _, ⟨a', c', by rw [rdropL, if_pos hh]; rfl, by rw [rdropL, if_pos hh]; exact hs'.kept fun b o x hb _ => by have := hf1 b o hb; rw [AH.get_set, if_neg (by omega), AH.get_set, if_neg (by omega)]⟩, Or.inr fun b o l c2 m2 e => ?_⟩
    unfold tabV at e
    injection e with e; injection e with e; injection e with e _; injection e with e _ _
    have := hf1 b o e
    exact ⟨by omega, this.2⟩
end Go.Proofs.Ytanpbdbicicepaa.AC
/- The reference's table: Late, Lapsed, Put. -/
namespace Go.Proofs.Ytanpbdbicicepaa.AC
open Go Go.AI Go.Proofs Go.Proofs.Ytanpbdbicicepaa.AQ
set_option linter.unusedVariables false
theorem keysOf_succ (p : St → Bool) (L : List RS) {k : Nat} (hlt : k < L.length) : keysOf p (L.take (k + 1)) = keysOf p (L.take k) ++ (if p L[k].s = true then [L[k].s.key] else []) := by
  rw [List.take_succ_eq_append_getElem hlt]; unfold keysOf; rw [List.map_append, List.filter_append, List.map_append]; simp only [List.map_cons, List.map_nil, List.filter_cons, List.filter_nil]; split <;> simp
theorem keysOf_len (p : St → Bool) (L : List RS) : (keysOf p L).length ≤ L.length := by unfold keysOf; rw [List.length_map]; exact Nat.le_trans (List.length_filter_le _ _) (by simp)
theorem rlate_ok {A : AH} {v0 : Value} {most : Int} {L : List RS} (h0 : RTab A v0 most L) (hl : L.length ≤ 1000000) (now : Int) : ACall Try.prog 28 [v0, .int .i64 now] A fun v A' =>
    Ext A A' ∧ ∃ ob, Lst A' 27 4 ob v ((keysOf (lateP now) L).map Key.enc) ∧ Fresh A.next ob := by
  obtain ⟨a, c, rfl, h⟩ := h0
  refine code28.call (by simp) fun hwf => ?_
  unfold c28
  simp [tabV]
  refine LN.use (fun m E A' => ∃ (j : Nat) (ob : Option Nat) (v : Value), m + j = L.length ∧ Ext A A' ∧ A.next + 1 ≤ A'.next ∧ A'.get A.next = some (.row [.slice a L.length c, .int .i64 most] 50 false) ∧ Lst A' 27 4 ob v ((keysOf (lateP now) (L.take j)).map Key.enc) ∧ Fresh (A.next + 1) ob ∧ E.get 1 = .int .i64 now ∧ E.get 2 = .pointer (some ⟨A.next, 0, none⟩) ∧ E.get 5 = v ∧ E.get 6 = .int .i64 j) L.length
    ⟨0, none, _, by simp, Ext.alloc A _, by simp, AH.get_new _ _, by simpa [keysOf] using Lst.nil _ _ _, Fresh.no _, by simp, by simp, by simp, by simp⟩ ?_
  rintro m E A3 hw3 hn3 ⟨j, ob, v, hj, hx, hn, k1, hL, hob, e1, e2, e5, e6⟩
  simp [e2, e6, k1]
  split
  · rename_i hlt
    have hobt := (h.ext hwf hx).at (i := j) (by simpa using hlt)
    obtain ⟨b, o, cs, ro, rfl, h1, h2, h3⟩ := hobt
    rw [List.getElem_map] at h3
    have h4 : (cs.drop (o + j * 17)).take 4 = L[j].s.key.enc := at_head h3 (by omega)
    have h5 : o + j * 17 + 4 ≤ cs.length := by omega
    have h6 : cs[o + j * 17 + 12]? = some (.int .i64 L[j].s.til) := by rw [at_cell h3 (by omega)]; rfl
    have t1 := keysOf_succ (lateP now) L hlt
    have hcnt := keysOf_len (lateP now) (L.take j)
    generalize L[j] = r at h4 h6 t1
    have hmin : min 4 (cs.length - (o + j * 17)) = 4 := by omega
    simp [e1, e2, e5, e6, k1, h1, h6, hlt]
    split
    · rename_i he
      rw [if_pos (show lateP now r.s = true from decide_eq_true he)] at t1
      have hobt := hL.push (y := 32) (r := r.s.key.enc) hw3 ⟨rfl, rfl⟩ (by decide) (by decide) (by simp at hcnt ⊢; omega) (by simp at hcnt ⊢; omega)
      obtain ⟨v4, A4, ob4, p1, p2, p3, p4, p5⟩ := hobt
      simp [e2, e5, e6, k1, h1, h4, h5, hlt, p1, hmin]
      refine NX.of ⟨m - 1, by omega, j + 1, ob4, v4, by omega, fun i hi => (p3 i (by omega) (fun e => by have := hob _ e; omega)).trans (hx i hi), by omega, (p3 _ (by omega) (fun e => by have := hob _ e; omega)).trans k1, by rw [t1, List.map_append]; exact p2, ?_, by simp [e1], by simp [e2], by simp, by simp [i64_in (x := (j : Int) + 1) (by omega) (by omega)]⟩
      rcases p4 with rfl | rfl
      · exact hob
      · exact Fresh.yes (by omega)
    · rename_i he
      rw [if_neg (by simpa [lateP] using he), List.append_nil] at t1
      exact NX.of ⟨m - 1, by omega, j + 1, ob, v, by omega, hx, hn, k1, by rw [t1]; exact hL, hob, by simp [e1], by simp [e2], by simp [e5], by simp [i64_in (x := (j : Int) + 1) (by omega) (by omega)]⟩
  · rename_i hlt
    rw [List.take_of_length_le (by omega)] at hL
    subst e5
    exact DN.of ⟨hx, ob, hL, fun b e => by have := hob b e; omega⟩
theorem rlapsed_ok {A : AH} {v0 : Value} {most : Int} {L : List RS} (h0 : RTab A v0 most L) (hl : L.length ≤ 1000000) (now : Int) : ACall Try.prog 29 [v0, .int .i64 now] A fun v A' =>
    Ext A A' ∧ ∃ ob, Lst A' 27 4 ob v ((keysOf (lapsP now) L).map Key.enc) ∧ Fresh A.next ob := by
  obtain ⟨a, c, rfl, h⟩ := h0
  refine code29.call (by simp) fun hwf => ?_
  unfold c29
  simp [tabV]
  refine LN.use (fun m E A' => ∃ (j : Nat) (ob : Option Nat) (v : Value), m + j = L.length ∧ Ext A A' ∧ A.next + 1 ≤ A'.next ∧ A'.get A.next = some (.row [.slice a L.length c, .int .i64 most] 50 false) ∧ Lst A' 27 4 ob v ((keysOf (lapsP now) (L.take j)).map Key.enc) ∧ Fresh (A.next + 1) ob ∧ E.get 1 = .int .i64 now ∧ E.get 2 = .pointer (some ⟨A.next, 0, none⟩) ∧ E.get 5 = v ∧ E.get 6 = .int .i64 j) L.length
    ⟨0, none, _, by simp, Ext.alloc A _, by simp, AH.get_new _ _, by simpa [keysOf] using Lst.nil _ _ _, Fresh.no _, by simp, by simp, by simp, by simp⟩ ?_
  rintro m E A3 hw3 hn3 ⟨j, ob, v, hj, hx, hn, k1, hL, hob, e1, e2, e5, e6⟩
  simp [e2, e6, k1]
  split
  · rename_i hlt
    have hobt := (h.ext hwf hx).at (i := j) (by simpa using hlt)
    obtain ⟨b, o, cs, ro, rfl, h1, h2, h3⟩ := hobt
    rw [List.getElem_map] at h3
    have h4 : (cs.drop (o + j * 17)).take 4 = L[j].s.key.enc := at_head h3 (by omega)
    have h5 : o + j * 17 + 4 ≤ cs.length := by omega
    have h6 : cs[o + j * 17 + 14]? = some (.int .i64 L[j].s.out) := by rw [at_cell h3 (by omega)]; rfl
    have h7 : cs[o + j * 17 + 15]? = some (.int .i64 L[j].s.keep) := by rw [at_cell h3 (by omega)]; rfl
    have t1 := keysOf_succ (lapsP now) L hlt
    have hcnt := keysOf_len (lapsP now) (L.take j)
    generalize L[j] = r at h4 h6 h7 t1
    have hmin : min 4 (cs.length - (o + j * 17)) = 4 := by omega
    by_cases he : r.s.out ≠ 0 ∧ r.s.keep < now
    · rw [if_pos (show lapsP now r.s = true from decide_eq_true he)] at t1
      have hobt := hL.push (y := 32) (r := r.s.key.enc) hw3 ⟨rfl, rfl⟩ (by decide) (by decide) (by simp at hcnt ⊢; omega) (by simp at hcnt ⊢; omega)
      obtain ⟨v4, A4, ob4, p1, p2, p3, p4, p5⟩ := hobt
      simp [e1, e2, e5, e6, k1, h1, h4, h5, h6, h7, hlt, p1, hmin, he.1, he.2]
      refine NX.of ⟨m - 1, by omega, j + 1, ob4, v4, by omega, fun i hi => (p3 i (by omega) (fun e => by have := hob _ e; omega)).trans (hx i hi), by omega, (p3 _ (by omega) (fun e => by have := hob _ e; omega)).trans k1, by rw [t1, List.map_append]; exact p2, ?_, by simp [e1], by simp [e2], by simp, by simp [i64_in (x := (j : Int) + 1) (by omega) (by omega)]⟩
      rcases p4 with rfl | rfl
      · exact hob
      · exact Fresh.yes (by omega)
    · rw [if_neg (by simpa [lapsP] using he), List.append_nil] at t1
      have hor : r.s.out = 0 ∨ (r.s.out ≠ 0 ∧ ¬ r.s.keep < now) := by omega
      rcases hor with ho | ⟨ho, hk⟩
      · simp [e1, e2, e5, e6, k1, h1, h6, h7, hlt, ho]
        exact NX.of ⟨m - 1, by omega, j + 1, ob, v, by omega, hx, hn, k1, by rw [t1]; exact hL, hob, by simp [e1], by simp [e2], by simp [e5], by simp [i64_in (x := (j : Int) + 1) (by omega) (by omega)]⟩
      · simp [e1, e2, e5, e6, k1, h1, h6, h7, hlt, ho, hk]
        exact NX.of ⟨m - 1, by omega, j + 1, ob, v, by omega, hx, hn, k1, by rw [t1]; exact hL, hob, by simp [e1], by simp [e2], by simp [e5], by simp [i64_in (x := (j : Int) + 1) (by omega) (by omega)]⟩
  · rename_i hlt
    rw [List.take_of_length_le (by omega)] at hL
    subst e5
    exact DN.of ⟨hx, ob, hL, fun b e => by have := hob b e; omega⟩
end Go.Proofs.Ytanpbdbicicepaa.AC
/- The reference's table: Put. -/
namespace Go.Proofs.Ytanpbdbicicepaa.AC
open Go Go.AI Go.Proofs Go.Proofs.Ytanpbdbicicepaa.AQ
set_option linter.unusedVariables false
def rstep (s : RS) (p : List RS × Bool) (r : RS) : List RS × Bool := if p.2 = false ∧ s.s.key.bef r.s.key = true then (p.1 ++ [s, r], true) else (p.1 ++ [r], p.2)
def rfold (s : RS) (L : List RS) : List RS × Bool := L.foldl (rstep s) ([], false)
theorem rfold_succ (s : RS) (L : List RS) {j : Nat} (h : j < L.length) : rfold s (L.take (j + 1)) = rstep s (rfold s (L.take j)) L[j] := by
  unfold rfold; rw [List.take_succ_eq_append_getElem h, List.foldl_append]; rfl
theorem rfold_len (s : RS) : ∀ (L : List RS) (p : List RS × Bool), (L.foldl (rstep s) p).1.length ≤ p.1.length + 2 * L.length
  | [], p => by simp
  | r :: L, p => by
    have := rfold_len s L (rstep s p r)
    have h2 : (rstep s p r).1.length ≤ p.1.length + 2 := by unfold rstep; split <;> simp
    simp only [List.foldl_cons, List.length_cons]; omega
def rins (s : RS) (L : List RS) : List RS := if (rfold s L).2 = true then (rfold s L).1 else (rfold s L).1 ++ [s]
def rputC (most : Int) (L : List RS) (s : St) : Int := if mayB s = true then (if hasB L s.key = false ∧ most ≤ L.length then 7 else 0) else 2
def rputL (most : Int) (L : List RS) (r : RS) : List RS := if mayB r.s = true then (if hasB L r.s.key = false ∧ most ≤ L.length then L else rins r (rdropL L r.s.key)) else L
theorem rdropL_len (L : List RS) (k : Key) : (rdropL L k).length ≤ L.length := by
  unfold rdropL; split
  · exact List.length_filter_le _ _
  · exact Nat.le_refl _
set_option maxHeartbeats 1000000 in
theorem rput_ok {A : AH} {v0 : Value} {most : Int} {L : List RS} (h0 : RTab A v0 most L) (hl : L.length ≤ 1000000) {r : RS} (hr : r.ok A) :
    ACall Try.prog 24 [v0, .agg r.enc.toArray] A fun v A' => ∃ u, v = .tuple #[u, .int .i64 (rputC most L r.s)] ∧ Ext A A' ∧ RTab A' u most (rputL most L r) ∧ (u = v0 ∨ Nw A.next A'.next u) := by
  have h0' := h0
  obtain ⟨a, c, rfl, h⟩ := h0
  refine code24.call (by simp) fun hwf => ?_
  unfold c24
  obtain ⟨B, hB⟩ : ∃ B : AH, B = ((A.alloc (.row [.slice a L.length c, .int .i64 most] 50 false)).alloc (.row r.enc 34 false)).alloc (.row [.slice none 0 0, .int .i64 0] 50 false) := ⟨_, rfl⟩
  have hx : Ext A B := by rw [hB]; exact ((Ext.alloc A _).app (by simp) _).app (by simp <;> omega) _
  have nB : B.next = A.next + 3 := by rw [hB]; rfl
  have g1 : B.get A.next = some (.row [.slice a L.length c, .int .i64 most] 50 false) := by rw [hB, AH.get_alloc, if_neg (by simp), AH.get_alloc, if_neg (by simp), AH.get_alloc, if_pos rfl]
  have g2 : B.get (A.next + 1) = some (.row r.enc 34 false) := by rw [hB, AH.get_alloc, if_neg (by simp), AH.get_alloc, if_pos (by simp)]
  have g3 : B.get (A.next + 2) = some (.row [.slice none 0 0, .int .i64 0] 50 false) := by rw [hB, AH.get_alloc, if_pos (by simp)]
  simp [tabV]
  rw [← hB]
  refine CN.use (rmay_ok (hr.ext hwf hx)) ?_
  rintro _ A2 hw2 hn2 ⟨rfl, x2⟩
  have x3 := hx.trans (by omega) x2
  have k1 := (x2 _ (by omega)).trans g1
  have k2 := (x2 _ (by omega)).trans g2
  have k3 := (x2 _ (by omega)).trans g3
  simp
  split
  case isFalse =>
    rename_i hm
    simp [k1, k3]
    exact DN.of ⟨_, by rw [rputC, if_neg hm]; rfl, x3.setnew (by omega) _, by rw [rputL, if_neg hm]; exact ⟨a, c, rfl, h.ext hwf (x3.setnew (by omega) _)⟩, Or.inl rfl⟩
  rename_i hm
  simp [k1, k2]
  refine CN.use (rhasT_ok (h.ext hwf x3) (by omega) r.s.key) ?_
  rintro _ A3 hw3 hn3 ⟨rfl, x4⟩
  have x5 := x3.trans (by omega) x4
  have q1 := x4.get hw2 k1
  have q2 := x4.get hw2 k2
  have q3 := x4.get hw2 k3
  by_cases hf : hasB L r.s.key = false ∧ most ≤ L.length
  · simp [q1, q3, hf.1, hf.2]
    exact DN.of ⟨_, by rw [rputC, if_pos hm, if_pos hf]; rfl, x5.setnew (by omega) _, by rw [rputL, if_pos hm, if_pos hf]; exact ⟨a, c, rfl, h.ext hwf (x5.setnew (by omega) _)⟩, Or.inl rfl⟩
  · have hf2 : hasB L r.s.key = true ∨ (hasB L r.s.key = false ∧ ¬ most ≤ L.length) := by cases hh : hasB L r.s.key <;> simp_all
    rcases hf2 with hf2 | hf2
    all_goals
      simp [q1, q2, hf2]
      refine CN.use (rdrop_ok ⟨a, c, rfl, h.ext hwf x5⟩ (by omega) r.s.key) ?_
      rintro _ A4 hw4 hn4 ⟨_, rfl, x6, ⟨a', c', rfl, hs⟩, -⟩
      have hdl := rdropL_len L r.s.key
      have x7 := x5.trans (by omega) x6
      have w1 := x6.get hw3 q1
      have w2 := x6.get hw3 q2
      have w3 := x6.get hw3 q3
      generalize hR : rdropL L r.s.key = R at hs hdl
      simp [tabV]
      refine LN.use (fun m E A' => ∃ (j : Nat) (ob : Option Nat) (v : Value), m + j = R.length ∧ Ext A4 A' ∧ A4.next + 1 ≤ A'.next ∧ A'.get A4.next = some (.row [.slice a' R.length c', .int .i64 most] 50 false) ∧ Lst A' 34 17 ob v ((rfold r (R.take j)).1.map RS.enc) ∧ Fresh (A4.next + 1) ob ∧ E.get 2 = .pointer (some ⟨A.next, 0, none⟩) ∧ E.get 3 = .pointer (some ⟨A.next + 1, 0, none⟩) ∧ E.get 4 = .pointer (some ⟨A.next + 2, 0, none⟩) ∧ E.get 6 = .pointer (some ⟨A4.next, 0, none⟩) ∧ E.get 8 = v ∧ E.get 9 = .bool (rfold r (R.take j)).2 ∧ E.get 10 = .int .i64 j) R.length
        ⟨0, none, _, by simp, Ext.alloc A4 _, by simp, AH.get_new _ _, by simpa [rfold] using Lst.nil _ _ _, Fresh.no _, by simp, by simp, by simp, by simp, by simp, by simp [rfold], by simp⟩ ?_
      rintro m E A5 hw5 hn5 ⟨j, ob, v, hj, x8, hn8, y1, hL, hob, e2, e3, e4, e6, e8, e9, e10⟩
      have x9 := x7.trans (by omega) x8
      have u1 := x8.get hw4 w1
      have u2 := x8.get hw4 w2
      have u3 := x8.get hw4 w3
      have hcnt := rfold_len r (R.take j) ([], false)
      have hcnt2 : (R.take j).length ≤ R.length := by simp <;> omega
      have hcnt3 : (rfold r (R.take j)).1.length ≤ 2 * R.length := by unfold rfold; simp at hcnt ⊢; omega
      clear hcnt hcnt2
      simp [e6, e10, y1]
      split
      · rename_i hlt
        have hobt := hs.at (i := j) (by simpa using hlt)
        obtain ⟨b, o, cs, ro, rfl, h0, h2, h3⟩ := hobt
        have h1 := x8.get hw4 h0
        have hb4 := hw4 _ _ h0
        rw [List.getElem_map] at h3
        have h4 : (cs.drop (o + j * 17)).take 4 = R[j].s.key.enc := at_head h3 (by omega)
        have h5 : o + j * 17 + 4 ≤ cs.length := by omega
        have t1 := rfold_succ r R hlt
        generalize R[j] = x at h3 h4 t1
        generalize hp : rfold r (R.take j) = p at *
        obtain ⟨out, laid⟩ := p
        simp only at hL e9 hcnt3
        have hmin : min 17 (cs.length - (o + j * 17)) = 17 := by omega
        have hw10 := i64_in (x := (j : Int) + 1) (by omega) (by omega)
        have hz : ∀ L' : List RS, L'.length ≤ 3000000 → (L'.map RS.enc).length + 1 ≤ 1099511627776 ∧ ((L'.map RS.enc).length + 1) * 144 ≤ 17592186044416 := fun L' h => by rw [List.length_map]; omega
        cases laid with
        | true =>
          have t2 : rstep r (out, true) x = (out ++ [x], true) := by simp [rstep]
          rw [t2] at t1
          have hobt := hL.push (y := 144) (r := x.enc) hw5 ⟨rfl, rfl⟩ (by decide) (by decide) (hz _ (by omega)).1 (hz _ (by omega)).2
          obtain ⟨v6, A6, ob6, p1, p2, p3, p4, p5⟩ := hobt
          simp [e6, e8, e9, e10, y1, h1, h2, h3, hlt, hmin, p1]
          refine NX.of ⟨m - 1, by omega, j + 1, ob6, v6, by omega, fun i hi => (p3 i (by omega) (fun e => by have := hob _ e; omega)).trans (x8 i hi), by omega, (p3 _ (by omega) (fun e => by have := hob _ e; omega)).trans y1, by rw [t1]; simpa using p2, ?_, by simp [e2], by simp [e3], by simp [e4], by simp [e6], by simp, by rw [t1]; simp [e9], by simp [hw10]⟩
          rcases p4 with rfl | rfl
          · exact hob
          · exact Fresh.yes (by omega)
        | false =>
          simp [e3, e6, e9, e10, y1, u2, h1, h4, h5, hlt]
          refine CN.use (rbefore_ok r.s.key x.s.key _) ?_
          rintro _ A6 hw6 hn6 ⟨x10, rfl⟩
          have x11 := x8.trans (by omega) x10
          have y2 := x10.get hw5 y1
          have v2 := x10.get hw5 u2
          have l1 := x10.get hw5 h1
          have hL6 := hL.kept fun b' e => x10 b' (hL.lt hw5 e)
          simp
          split
          · rename_i hb
            have t2 : rstep r (out, false) x = (out ++ [r, x], true) := by simp [rstep, hb]
            rw [t2] at t1
            have hobt := hL6.push (y := 144) (r := r.enc) hw6 ⟨rfl, rfl⟩ (by decide) (by decide) (hz _ (by omega)).1 (hz _ (by omega)).2
            obtain ⟨v7, A7, ob7, p1, p2, p3, p4, p5⟩ := hobt
            have hob7 : Fresh (A4.next + 1) ob7 := by
              rcases p4 with rfl | rfl
              · exact hob
              · exact Fresh.yes (by omega)
            have y3 := (p3 _ (by omega) (fun e => by have := hob _ e; omega)).trans y2
            have l2 := (p3 _ (by omega) (fun e => by have := hob _ e; omega)).trans l1
            have hobt := p2.push (y := 144) (r := x.enc) (A := A7) (appW_wf p1 (AH.wf_alloc hw6 _)) ⟨rfl, rfl⟩ (by decide) (by decide) (by simp; omega) (by simp; omega)
            obtain ⟨v8, A8, ob8, s1, s2, s3, s4, s5⟩ := hobt
            simp [e3, e6, e8, e10, y2, y3, v2, l1, l2, h2, h3, hlt, hmin, p1, s1]
            refine NX.of ⟨m - 1, by omega, j + 1, ob8, v8, by omega, fun i hi => ((s3 i (by omega) (fun e => by have := hob7 _ e; omega)).trans (p3 i (by omega) (fun e => by have := hob _ e; omega))).trans (x11 i hi), by omega, (s3 _ (by omega) (fun e => by have := hob7 _ e; omega)).trans y3, by rw [t1]; simpa using s2, ?_, by simp [e2], by simp [e3], by simp [e4], by simp [e6], by simp, by rw [t1]; simp [e9], by simp [hw10]⟩
            rcases s4 with rfl | rfl
            · exact hob7
            · exact Fresh.yes (by omega)
          · rename_i hb
            have t2 : rstep r (out, false) x = (out ++ [x], false) := by simp [rstep, hb]
            rw [t2] at t1
            have hobt := hL6.push (y := 144) (r := x.enc) hw6 ⟨rfl, rfl⟩ (by decide) (by decide) (hz _ (by omega)).1 (hz _ (by omega)).2
            obtain ⟨v7, A7, ob7, p1, p2, p3, p4, p5⟩ := hobt
            simp [e6, e8, e10, y2, l1, h2, h3, hlt, hmin, p1]
            refine NX.of ⟨m - 1, by omega, j + 1, ob7, v7, by omega, fun i hi => (p3 i (by omega) (fun e => by have := hob _ e; omega)).trans (x11 i hi), by omega, (p3 _ (by omega) (fun e => by have := hob _ e; omega)).trans y2, by rw [t1]; simpa using p2, ?_, by simp [e2], by simp [e3], by simp [e4], by simp [e6], by simp, by rw [t1]; simp [e9], by simp [hw10]⟩
            rcases p4 with rfl | rfl
            · exact hob
            · exact Fresh.yes (by omega)
      · rename_i hlt
        rw [List.take_of_length_le (by omega)] at hL e9 hcnt3
        have hC : rputC most L r.s = 0 := by rw [rputC, if_pos hm, if_neg hf]
        have hLL : rputL most L r = rins r R := by rw [rputL, if_pos hm, if_neg hf, hR]
        have hgo : ∀ (A7 : AH) (v7 : Value) (ob7 : Option Nat), Ext A A7 → A7.wf → Lst A7 34 17 ob7 v7 ((rins r R).map RS.enc) → Fresh (A4.next + 1) ob7 → ∃ a2 c2, v7 = .slice a2 (rins r R).length c2 ∧ Ext A ((A7.set A.next (.row [v7, .int .i64 most] 50 false)).set (A.next + 2) (.row [v7, .int .i64 most] 50 false)) ∧ RTab ((A7.set A.next (.row [v7, .int .i64 most] 50 false)).set (A.next + 2) (.row [v7, .int .i64 most] 50 false)) (tabV a2 (rins r R).length c2 most) most (rins r R) ∧ Nw A.next A7.next (tabV a2 (rins r R).length c2 most) := by
          intro A7 v7 ob7 f1 f0 f2 f3
          have hobt := f2.slm
          obtain ⟨a2, c2, hv7, f4⟩ := hobt
          have hf1 : ∀ b o, a2 = some ⟨b, o, none⟩ → A4.next + 1 ≤ b ∧ b < A7.next := fun b o e => by
            have hobt := f2.sl
            obtain ⟨a3, c3, e1, -, e2⟩ := hobt
            rw [hv7] at e1; injection e1 with e1; rw [e] at e1
            exact ⟨f3 b (e2 b o e1.symm).1, f2.lt f0 (e2 b o e1.symm).1⟩
          exact ⟨a2, c2, hv7, (f1.setnew (by omega) _).setnew (by omega) _, ⟨a2, c2, rfl, f4.kept fun b o x hb _ => by have := hf1 b o hb; rw [AH.get_set, if_neg (by omega), AH.get_set, if_neg (by omega)]⟩, fun b o l c3 m3 e => by
            unfold tabV at e
            injection e with e; injection e with e; injection e with e _; injection e with e _ _
            have := hf1 b o e
            exact ⟨by omega, this.2⟩⟩
        generalize hp : rfold r R = p at *
        obtain ⟨out, laid⟩ := p
        simp only at hL e9 hcnt3
        cases laid with
        | true =>
          have hri : rins r R = out := by rw [rins, hp]; rfl
          have hobt := hgo A5 v ob x9 hw5 (by rw [hri]; exact hL) hob
          obtain ⟨a2, c2, hv, f2, f3, f5⟩ := hobt
          subst hv
          simp [e2, e4, e8, e9, u1, u3]
          exact DN.of ⟨_, by rw [hC]; rfl, f2, by rw [hLL]; exact f3, Or.inr f5⟩
        | false =>
          have hri : rins r R = out ++ [r] := by rw [rins, hp]; rfl
          have hobt := hL.push (y := 144) (r := r.enc) hw5 ⟨rfl, rfl⟩ (by decide) (by decide) (by simp; omega) (by simp; omega)
          obtain ⟨v7, A7, ob7, p1, p2, p3, p4, p5⟩ := hobt
          have z1 := (p3 _ (by omega) (fun e => by have := hob _ e; omega)).trans u1
          have z3 := (p3 _ (by omega) (fun e => by have := hob _ e; omega)).trans u3
          obtain ⟨a2, c2, hv, f2, f3, f5⟩ := hgo A7 v7 ob7 (fun i hi => (p3 i (by omega) (fun e => by have := hob _ e; omega)).trans (x9 i hi)) (appW_wf p1 (AH.wf_alloc hw5 _)) (by rw [hri]; simpa using p2) (by
            rcases p4 with rfl | rfl
            · exact hob
            · exact Fresh.yes (by omega))
          subst hv
          simp [e2, e3, e4, e8, e9, u2, p1, z1, z3]
          exact DN.of ⟨_, by rw [hC]; rfl, f2, by rw [hLL]; exact f3, Or.inr f5⟩
end Go.Proofs.Ytanpbdbicicepaa.AC
/- What a table has, without the program. -/
namespace Go.Proofs.Ytanpbdbicicepaa.AC
open Go Go.AI Go.Proofs Go.Proofs.Ytanpbdbicicepaa.AQ
set_option linter.unusedVariables false
theorem bef_irr (a : Key) : a.bef a = false := by simp [Key.bef]
theorem bef_tr {a b c : Key} (h : a.bef b = true) (h' : b.bef c = true) : a.bef c = true := by simp only [Key.bef, decide_eq_true_eq] at *; omega
theorem bef_as {a b : Key} (h : a.bef b = true) : b.bef a = false := by simp only [Key.bef, decide_eq_true_eq, decide_eq_false_iff_not] at *; omega
theorem bef_ne {a b : Key} (h : a.bef b = true) : a ≠ b := fun e => by rw [e, bef_irr] at h; cases h
theorem bef_tri {a b : Key} (h : a.bef b = false) (h' : a ≠ b) : b.bef a = true := by
  have hx : ¬ (a.tail = b.tail ∧ a.tunnel = b.tunnel ∧ a.head = b.head ∧ a.lsp = b.lsp) := by
    rintro ⟨h1, h2, h3, h4⟩
    apply h'
    cases a; cases b; simp_all
  simp only [Key.bef, decide_eq_true_eq, decide_eq_false_iff_not] at *; omega
/-- In their order, none twice. -/
def Srt (L : List RS) : Prop := L.Pairwise fun r r' => r.s.key.bef r'.s.key = true
theorem Srt.nil : Srt [] := List.Pairwise.nil
theorem srt_cons {r : RS} {L : List RS} : Srt (r :: L) ↔ (∀ x ∈ L, r.s.key.bef x.s.key = true) ∧ Srt L := List.pairwise_cons
/-- Laid in before the first that is behind it. -/
def insL (s : RS) : List RS → List RS
  | [] => [s]
  | r :: L => if s.s.key.bef r.s.key = true then s :: r :: L else r :: insL s L
theorem rfold_true (s : RS) : ∀ (L : List RS) (out : List RS), L.foldl (rstep s) (out, true) = (out ++ L, true)
  | [], out => by simp
  | r :: L, out => by
    have : rstep s (out, true) r = (out ++ [r], true) := by simp [rstep]
    rw [List.foldl_cons, this, rfold_true s L]; simp
theorem rfold_false (s : RS) : ∀ (L : List RS) (out : List RS), (if (L.foldl (rstep s) (out, false)).2 = true then (L.foldl (rstep s) (out, false)).1 else (L.foldl (rstep s) (out, false)).1 ++ [s]) = out ++ insL s L
  | [], out => by simp [insL]
  | r :: L, out => by
    rw [List.foldl_cons]
    by_cases h : s.s.key.bef r.s.key = true
    · have : rstep s (out, false) r = (out ++ [s, r], true) := by simp [rstep, h]
      rw [this, rfold_true]; simp [insL, h]
    · have : rstep s (out, false) r = (out ++ [r], false) := by simp [rstep, h]
      rw [this, rfold_false s L]; simp [insL, h]
theorem rins_eq (s : RS) (L : List RS) : rins s L = insL s L := by
  have := rfold_false s L []
  rw [List.nil_append] at this
  unfold rins rfold
  rw [← this]
theorem hasB_cons (r : RS) (L : List RS) (k : Key) : hasB (r :: L) k = (decide (r.s.key = k) || hasB L k) := by simp [hasB]
theorem later {r : RS} {L : List RS} {k : Key} (h : ∀ x ∈ L, r.s.key.bef x.s.key = true) (hk : r.s.key.bef k = false) : ∀ x ∈ L, k.bef x.s.key = true := by
  intro x hx
  by_cases e : r.s.key = k
  · rw [← e]; exact h x hx
  · exact bef_tr (bef_tri hk e) (h x hx)
theorem has_none {L : List RS} {k : Key} (h : ∀ x ∈ L, k.bef x.s.key = true) : hasB L k = false := by
  simp only [hasB, List.any_eq_false]
  intro x hx e
  exact bef_ne (h x hx) (of_decide_eq_true e).symm
theorem filter_none {L : List RS} {k : Key} (h : hasB L k = false) : L.filter (otherB k) = L := by
  simp only [hasB, List.any_eq_false] at h
  refine List.filter_eq_self.2 fun x hx => ?_
  have := h x hx
  simpa [otherB] using this
theorem ins_first {s : RS} {L : List RS} (h : ∀ x ∈ L, s.s.key.bef x.s.key = true) : insL s L = s :: L := by
  cases L with
  | nil => rfl
  | cons r L => simp [insL, h r List.mem_cons_self]
theorem fnd_has : ∀ {L : List RS} {k : Key}, Srt L → (fnd L k).2 = hasB L k
  | [], k, _ => rfl
  | r :: L, k, h => by
    have hobt := srt_cons.1 h
    obtain ⟨h1, h2⟩ := hobt
    rw [hasB_cons]
    by_cases hb : r.s.key.bef k = true
    · simp only [fnd, hb, if_true, bef_ne hb, decide_false, Bool.false_or]; exact fnd_has h2
    · have hb : r.s.key.bef k = false := by simpa using hb
      have h3 := has_none (later h1 hb)
      simp [fnd, hb, h3]
theorem drop_eq : ∀ {L : List RS} {k : Key}, Srt L → (if (fnd L k).2 = true then dropL L k else L) = L.filter (otherB k)
  | [], k, _ => rfl
  | r :: L, k, h => by
    have hobt := srt_cons.1 h
    obtain ⟨h1, h2⟩ := hobt
    by_cases hb : r.s.key.bef k = true
    · have ih := drop_eq (k := k) h2
      have ho : otherB k r = true := by simp [otherB, bef_ne hb]
      rw [List.filter_cons, if_pos ho, ← ih]
      simp only [fnd, hb, if_true, dropL]
      split <;> simp
    · have hb : r.s.key.bef k = false := by simpa using hb
      have h3 := filter_none (has_none (later h1 hb))
      rw [List.filter_cons, h3]
      by_cases e : r.s.key = k
      · simp [fnd, bef_irr, e, dropL, otherB]
      · simp [fnd, hb, e, dropL, otherB]
theorem put_eq : ∀ {L : List RS} {s : RS}, Srt L → L.take (fnd L s.s.key).1 ++ s :: L.drop (if (fnd L s.s.key).2 = true then (fnd L s.s.key).1 + 1 else (fnd L s.s.key).1) = insL s (L.filter (otherB s.s.key))
  | [], s, _ => by simp [fnd, insL]
  | r :: L, s, h => by
    have hobt := srt_cons.1 h
    obtain ⟨h1, h2⟩ := hobt
    by_cases hb : r.s.key.bef s.s.key = true
    · have ih := put_eq (s := s) h2
      have ho : otherB s.s.key r = true := by simp [otherB, bef_ne hb]
      rw [List.filter_cons, if_pos ho]
      simp only [insL, bef_as hb, Bool.false_eq_true, if_false, ← ih]
      simp only [fnd, hb, if_true]
      split <;> simp
    · have hb : r.s.key.bef s.s.key = false := by simpa using hb
      have h4 := later h1 hb
      have h3 := filter_none (has_none h4)
      rw [List.filter_cons, h3]
      by_cases e : r.s.key = s.s.key
      · simp [fnd, bef_irr, e, otherB, ins_first h4]
      · simp [fnd, hb, e, otherB, insL, bef_tri hb e]
theorem get_eq : ∀ {L : List RS} {k : Key}, Srt L → getL L k = rgetL L k
  | [], k, _ => rfl
  | r :: L, k, h => by
    have hobt := srt_cons.1 h
    obtain ⟨h1, h2⟩ := hobt
    by_cases hb : r.s.key.bef k = true
    · have ih := get_eq (k := k) h2
      simp only [getL, fnd, hb, if_true, rgetL, List.find?_cons, bef_ne hb, decide_false] at ih ⊢
      rw [← ih]; simp
    · have hb : r.s.key.bef k = false := by simpa using hb
      have h3 := has_none (later h1 hb)
      by_cases e : r.s.key = k
      · simp [getL, fnd, bef_irr, e, rgetL]
      · have hn : List.find? (fun r => decide (r.s.key = k)) L = none := by
          simp only [hasB, List.any_eq_false] at h3
          exact List.find?_eq_none.2 h3
        simp [getL, fnd, hb, e, rgetL, hn]
theorem mem_insL {x s : RS} : ∀ {L : List RS}, x ∈ insL s L → x = s ∨ x ∈ L
  | [], h => by simp [insL] at h; exact Or.inl h
  | r :: L, h => by
    unfold insL at h
    split at h
    · rcases List.mem_cons.1 h with h | h
      · exact Or.inl h
      · exact Or.inr h
    · rcases List.mem_cons.1 h with h | h
      · exact Or.inr (by rw [h]; exact List.mem_cons_self)
      · exact (mem_insL h).imp id (List.mem_cons_of_mem _)
theorem srt_ins {s : RS} : ∀ {L : List RS}, Srt L → hasB L s.s.key = false → Srt (insL s L)
  | [], _, _ => List.pairwise_singleton _ _
  | r :: L, h, hn => by
    have hobt := srt_cons.1 h
    obtain ⟨h1, h2⟩ := hobt
    rw [hasB_cons, Bool.or_eq_false_iff] at hn
    unfold insL
    split
    · rename_i hb
      refine srt_cons.2 ⟨fun x hx => ?_, h⟩
      rcases List.mem_cons.1 hx with rfl | hx
      · exact hb
      · exact bef_tr hb (h1 x hx)
    · rename_i hb
      refine srt_cons.2 ⟨fun x hx => ?_, srt_ins h2 hn.2⟩
      rcases mem_insL hx with rfl | hx
      · exact bef_tri (by simpa using hb) (fun e => by have := of_decide_eq_false hn.1; exact this e.symm)
      · exact h1 x hx
theorem srt_filter {L : List RS} (h : Srt L) (p : RS → Bool) : Srt (L.filter p) := List.Pairwise.filter _ h
theorem filter_has (L : List RS) (k : Key) : hasB (L.filter (otherB k)) k = false := by
  simp only [hasB, List.any_eq_false, List.mem_filter, otherB]
  rintro x ⟨_, h⟩; simpa using h
theorem rdropL_eq (L : List RS) (k : Key) : rdropL L k = L.filter (otherB k) := by
  unfold rdropL; split
  · rfl
  · rename_i h; exact (filter_none (by simpa using h)).symm
/-- Our Put and the reference's. -/
theorem putL_eq {L : List RS} (h : Srt L) (most : Int) (r : RS) : putL most L r = rputL most L r := by
  unfold putL rputL
  rw [fnd_has h]
  have hp := put_eq (s := r) h
  rw [fnd_has h] at hp
  rw [rins_eq, rdropL_eq, ← hp]
  cases hasB L r.s.key <;> simp
theorem putC_eq {L : List RS} (h : Srt L) (most : Int) (s : St) : putC most L s = rputC most L s := by
  unfold putC rputC
  rw [fnd_has h]
  cases hasB L s.key <;> simp
theorem srt_put {L : List RS} (h : Srt L) (most : Int) (r : RS) : Srt (rputL most L r) := by
  unfold rputL
  split
  · split
    · exact h
    · rw [rins_eq, rdropL_eq]; exact srt_ins (srt_filter h _) (filter_has L _)
  · exact h
/-! The same of any two lists with the same states. -/
theorem hasB_map {L M : List RS} (h : L.map RS.s = M.map RS.s) (k : Key) : hasB L k = hasB M k := by
  have : ∀ L : List RS, hasB L k = (L.map RS.s).any fun s => decide (s.key = k) := fun L => by simp [hasB, Function.comp_def]
  rw [this, this, h]
theorem filter_map {L M : List RS} (h : L.map RS.s = M.map RS.s) (k : Key) : (L.filter (otherB k)).map RS.s = (M.filter (otherB k)).map RS.s := by
  have : ∀ L : List RS, (L.filter (otherB k)).map RS.s = (L.map RS.s).filter fun s => decide (s.key ≠ k) := fun L => by rw [List.filter_map]; rfl
  rw [this, this, h]
def insS (s : St) : List St → List St
  | [] => [s]
  | r :: L => if s.key.bef r.key = true then s :: r :: L else r :: insS s L
theorem insL_map (s : RS) : ∀ L : List RS, (insL s L).map RS.s = insS s.s (L.map RS.s)
  | [] => rfl
  | r :: L => by
    unfold insL insS
    simp only [List.map_cons]
    split
    · rfl
    · rw [List.map_cons, insL_map s L]
theorem rputL_map {L M : List RS} (h : L.map RS.s = M.map RS.s) {r r' : RS} (hr : r.s = r'.s) (most : Int) : (rputL most L r).map RS.s = (rputL most M r').map RS.s := by
  have hl : L.length = M.length := by have := congrArg List.length h; simpa using this
  unfold rputL
  rw [hr, hasB_map h, hl]
  split
  · split
    · exact h
    · rw [rins_eq, rins_eq, rdropL_eq, rdropL_eq, insL_map, insL_map, hr, filter_map h]
  · exact h
theorem keysOf_map {L M : List RS} (h : L.map RS.s = M.map RS.s) (p : St → Bool) : keysOf p L = keysOf p M := by unfold keysOf; rw [h]
theorem rgetL_map {L M : List RS} (h : L.map RS.s = M.map RS.s) (k : Key) : (rgetL L k).map RS.s = (rgetL M k).map RS.s := by
  have : ∀ L : List RS, (rgetL L k).map RS.s = (L.map RS.s).find? fun s => decide (s.key = k) := fun L => by unfold rgetL; rw [List.find?_map]; rfl
  rw [this, this, h]
theorem insL_len (s : RS) : ∀ L : List RS, (insL s L).length = L.length + 1
  | [] => rfl
  | r :: L => by
    unfold insL; split
    · rfl
    · rw [List.length_cons, insL_len s L, List.length_cons]
theorem rputL_len (most : Int) (L : List RS) (r : RS) : (rputL most L r).length ≤ L.length + 1 := by
  unfold rputL
  split
  · split
    · omega
    · rw [rins_eq, insL_len, rdropL_eq]; have := List.length_filter_le (otherB r.s.key) L; omega
  · omega
theorem insL_filter (s : RS) (k : Key) (hk : s.s.key = k) : ∀ L : List RS, (insL s L).filter (otherB k) = L.filter (otherB k)
  | [] => by simp [insL, otherB, hk]
  | r :: L => by
    unfold insL
    split
    · rw [List.filter_cons, if_neg (by simp [otherB, hk])]
    · rw [List.filter_cons, List.filter_cons, insL_filter s k hk L]
theorem insL_get (s : RS) (k : Key) (hk : s.s.key = k) : ∀ L : List RS, hasB L k = false → rgetL (insL s L) k = some s
  | [], _ => by simp [insL, rgetL, hk]
  | r :: L, h => by
    rw [hasB_cons, Bool.or_eq_false_iff] at h
    unfold insL
    split
    · simp [rgetL, hk]
    · have ih := insL_get s k hk L h.2
      unfold rgetL at ih ⊢
      rw [List.find?_cons, h.1, ih]
theorem filter_twice (L : List RS) (k : Key) : (L.filter (otherB k)).filter (otherB k) = L.filter (otherB k) := by rw [List.filter_filter]; simp
theorem srt_map {L M : List RS} (h : L.map RS.s = M.map RS.s) (hs : Srt L) : Srt M := by
  have : ∀ L : List RS, Srt L ↔ (L.map RS.s).Pairwise fun s s' => s.key.bef s'.key = true := fun L => by unfold Srt; rw [List.pairwise_map]
  rw [this] at hs ⊢; rw [← h]; exact hs
theorem srt_next {L : List RS} (h : Srt L) {i : Nat} (hi : i + 1 < L.length) : (L[i]).s.key.bef (L[i + 1]).s.key = true := List.pairwise_iff_getElem.1 h i (i + 1) (by omega) hi (by omega)
theorem slm2 {A : AH} {e : TypeId} {z : Nat} {ob : Option Nat} {v : Value} {α : Type} {f : α → List Value} {M : List α} (h : Lst A e z ob v (M.map f)) : ∃ a c, v = .slice a M.length c ∧ Sl A e z a (M.map f) ∧ (∀ b o, a = some ⟨b, o, none⟩ → ob = some b) := by
  have hobt := h.sl
  obtain ⟨a, c, h1, h2, h3⟩ := hobt
  exact ⟨a, c, by rw [h1, List.length_map], h2, fun b o e => (h3 b o e).1⟩
/-- A list of states that can be read. -/
def Rdl (A : AH) (e : TypeId) (a : Option Addr) (L : List RS) : Prop := Sl A e 17 a (L.map RS.enc) ∧ ∀ r ∈ L, r.ok A
theorem Rdl.ext {A A' : AH} {e : TypeId} {a : Option Addr} {L : List RS} (h : Rdl A e a L) (hw : A.wf) (hx : Ext A A') : Rdl A' e a L := ⟨h.1.ext hw hx, fun r hr => (h.2 r hr).ext hw hx⟩
/-- What a table's change leaves as it was. -/
theorem Rdl.tab {A A' : AH} {e : TypeId} {a : Option Addr} {L M M' : List RS} {tb : Nat} {most : Int} {ob : Option Nat} (h : Rdl A e a L) (hw : A.wf) (hp : TabP tb most ob M M' A A') (ha : ∀ b o, a = some ⟨b, o, none⟩ → b ≠ tb ∧ ob ≠ some b) (hr : ∀ r ∈ L, ∀ b o, r.a = some ⟨b, o, none⟩ → b ≠ tb ∧ ob ≠ some b) : Rdl A' e a L := by
  obtain ⟨ob', -, p2, -, -⟩ := hp
  exact ⟨h.1.kept fun b o x e hx => p2 b (hw _ _ hx) (ha b o e).1 (ha b o e).2, fun r hm => (h.2 r hm).kept fun b o x e hx => p2 b (hw _ _ hx) (hr r hm b o e).1 (hr r hm b o e).2⟩
theorem has_some (L : List RS) (k : Key) : hasB L k = (rgetL L k).isSome := by unfold rgetL hasB; rw [Bool.eq_iff_iff]; simp
theorem fnd_some {L : List RS} (h : Srt L) (k : Key) : (fnd L k).2 = (rgetL L k).isSome := by rw [fnd_has h, has_some]
theorem filter_succ (L : List RS) (k : Key) {j : Nat} (hlt : j < L.length) : (L.take (j + 1)).filter (otherB k) = (L.take j).filter (otherB k) ++ (if otherB k L[j] = true then [L[j]] else []) := by
  rw [List.take_succ_eq_append_getElem hlt, List.filter_append]; simp only [List.filter_cons, List.filter_nil]
theorem map_mem {L M : List RS} (h : L.map RS.s = M.map RS.s) {p : St → Prop} (hp : ∀ r ∈ M, p r.s) : ∀ r ∈ L, p r.s := by
  intro r hr
  have : r.s ∈ M.map RS.s := by rw [← h]; exact List.mem_map_of_mem hr
  have hobt := List.mem_map.1 this
  obtain ⟨r', h1, h2⟩ := hobt
  rw [← h2]; exact hp r' h1
end Go.Proofs.Ytanpbdbicicepaa.AC
