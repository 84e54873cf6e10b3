/-
  A way to reckon with memory, sound for calls of the model: named blocks, operations over them, rules for code.
-/
import Derived.Orders
import Derived.Below
import Derived.IntWalk
import Derived.Laws.StructEq
import Derived.LaidEql
import Derived.ChangeKeysEq
set_option linter.unusedSimpArgs false
set_option linter.unusedVariables false
/- AIa: named blocks, what is known of them, and how a world bears it. -/
namespace Go.AI
open Go
/-! Tables. -/
inductive Tab (α : Type) where
  | lf : Tab α
  | nd (v : Option α) (l r : Tab α) : Tab α
def Tab.get {α : Type} : Tab α → Nat → Option α
  | .lf, _ => none
  | .nd v l r, n => if n = 0 then v else if n % 2 = 1 then l.get (n / 2) else r.get (n / 2 - 1)
def Tab.put {α : Type} : Nat → Tab α → Nat → Option α → Tab α
  | 0, t, _, _ => t
  | f + 1, .lf, n, x => if n = 0 then .nd x .lf .lf else if n % 2 = 1 then .nd none (Tab.put f .lf (n / 2) x) .lf else .nd none .lf (Tab.put f .lf (n / 2 - 1) x)
  | f + 1, .nd v l r, n, x => if n = 0 then .nd x l r else if n % 2 = 1 then .nd v (Tab.put f l (n / 2) x) r else .nd v l (Tab.put f r (n / 2 - 1) x)
theorem Tab.get_put {α : Type} (x : Option α) : ∀ (f : Nat) (t : Tab α) (n k : Nat), n < f → (Tab.put f t n x).get k = if k = n then x else t.get k := by
  intro f
  induction f with
  | zero => intro t n k h; omega
  | succ f ih =>
    intro t n k h
    cases t with
    | lf =>
      simp only [Tab.put]
      by_cases h0 : n = 0
      · subst h0; simp only [if_pos, Tab.get]
        by_cases hk : k = 0
        · simp [hk]
        · simp [hk]
      · simp only [if_neg h0]
        by_cases h1 : n % 2 = 1
        · simp only [if_pos h1, Tab.get]
          by_cases hk : k = 0
          · subst hk; simp; omega
          · simp only [if_neg hk]
            by_cases hk1 : k % 2 = 1
            · simp only [if_pos hk1]; rw [ih _ _ _ (by omega)]
              by_cases e : k = n
              · subst e; simp
              · rw [if_neg (by omega), if_neg e]; rfl
            · simp only [if_neg hk1]; rw [if_neg (by omega)]
        · simp only [if_neg h1, Tab.get]
          by_cases hk : k = 0
          · subst hk; simp; omega
          · simp only [if_neg hk]
            by_cases hk1 : k % 2 = 1
            · simp only [if_pos hk1]; rw [if_neg (by omega)]
            · simp only [if_neg hk1]; rw [ih _ _ _ (by omega)]
              by_cases e : k = n
              · subst e; simp
              · rw [if_neg (by omega), if_neg e]; rfl
    | nd v l r =>
      simp only [Tab.put]
      by_cases h0 : n = 0
      · subst h0; simp only [if_pos, Tab.get]
        by_cases hk : k = 0
        · simp [hk]
        · simp [hk]
      · simp only [if_neg h0]
        by_cases h1 : n % 2 = 1
        · simp only [if_pos h1, Tab.get]
          by_cases hk : k = 0
          · subst hk; simp; omega
          · simp only [if_neg hk]
            by_cases hk1 : k % 2 = 1
            · simp only [if_pos hk1]; rw [ih _ _ _ (by omega)]
              by_cases e : k = n
              · subst e; simp
              · rw [if_neg (by omega), if_neg e]
            · simp only [if_neg hk1]; rw [if_neg (by omega)]
        · simp only [if_neg h1, Tab.get]
          by_cases hk : k = 0
          · subst hk; simp; omega
          · simp only [if_neg hk]
            by_cases hk1 : k % 2 = 1
            · simp only [if_pos hk1]; rw [if_neg (by omega)]
            · simp only [if_neg hk1]; rw [ih _ _ _ (by omega)]
              by_cases e : k = n
              · subst e; simp
              · rw [if_neg (by omega), if_neg e]
/-! A heap of named blocks. -/
inductive Blk where
  | row (cells : List Value) (elem : TypeId) (ro : Bool)
  | mp (es : List (Value × Value))
structure AH where
  next : Nat
  tab : Tab Blk
def AH.get (A : AH) (b : Nat) : Option Blk := A.tab.get b
def AH.put (A : AH) (b : Nat) (x : Option Blk) : AH := { A with tab := Tab.put (b + 1) A.tab b x }
def AH.set (A : AH) (b : Nat) (x : Blk) : AH := A.put b (some x)
def AH.kill (A : AH) (b : Nat) : AH := A.put b none
def AH.alloc (A : AH) (x : Blk) : AH := { next := A.next + 1, tab := Tab.put (A.next + 1) A.tab A.next (some x) }
theorem AH.get_put (A : AH) (b : Nat) (x : Option Blk) (k : Nat) : (A.put b x).get k = if k = b then x else A.get k := by
  simp only [AH.get, AH.put]; exact Tab.get_put x (b + 1) A.tab b k (Nat.lt_succ_self b)
theorem AH.get_set (A : AH) (b : Nat) (x : Blk) (k : Nat) : (A.set b x).get k = if k = b then some x else A.get k := A.get_put b (some x) k
theorem AH.get_kill (A : AH) (b : Nat) (k : Nat) : (A.kill b).get k = if k = b then none else A.get k := A.get_put b none k
theorem AH.get_alloc (A : AH) (x : Blk) (k : Nat) : (A.alloc x).get k = if k = A.next then some x else A.get k := by
  simp only [AH.get, AH.alloc]; exact Tab.get_put _ _ A.tab _ k (Nat.lt_succ_self _)
@[simp] theorem AH.next_put (A : AH) (b : Nat) (x : Option Blk) : (A.put b x).next = A.next := rfl
@[simp] theorem AH.next_set (A : AH) (b : Nat) (x : Blk) : (A.set b x).next = A.next := rfl
@[simp] theorem AH.next_kill (A : AH) (b : Nat) : (A.kill b).next = A.next := rfl
@[simp] theorem AH.next_alloc (A : AH) (x : Blk) : (A.alloc x).next = A.next + 1 := rfl
/-! Slots. -/
structure Env where
  tab : Tab Value
def Env.get (E : Env) (t : Nat) : Value := (E.tab.get t).getD undef
def Env.set (E : Env) (t : Nat) (v : Value) : Env := { tab := Tab.put (t + 1) E.tab t (some v) }
def Env.put (E : Env) (d : Option Tmp) (v : Value) : Env := match d with | some t => E.set t v | none => E
theorem Env.get_set (E : Env) (t : Nat) (v : Value) (k : Nat) : (E.set t v).get k = if k = t then v else E.get k := by
  simp only [Env.get, Env.set, Tab.get_put (some v) (t + 1) E.tab t k (Nat.lt_succ_self t)]
  split <;> simp
def Env.of : List Value → Nat → Env
  | [], _ => { tab := .lf }
  | v :: vs, i => (Env.of vs (i + 1)).set i v
theorem Env.get_of : ∀ (vs : List Value) (i k : Nat), (Env.of vs i).get k = if i ≤ k then (vs[k - i]?).getD undef else undef
  | [], i, k => by simp [Env.of, Env.get, Tab.get]
  | v :: vs, i, k => by
    simp only [Env.of, Env.get_set, Env.get_of vs (i + 1) k]
    by_cases e : k = i
    · subst e; simp
    · simp only [if_neg e]
      by_cases h : i ≤ k
      · rw [if_pos (by omega), if_pos h]
        obtain ⟨j, rfl⟩ : ∃ j, k = i + 1 + j := ⟨k - (i + 1), by omega⟩
        rw [show i + 1 + j - (i + 1) = j by omega, show i + 1 + j - i = j + 1 by omega, List.getElem?_cons_succ]
      · rw [if_neg (by omega), if_neg h]
/-! Where a named block lies: its block, its first cell there, the cells there, the cells of an element. -/
structure Pl where
  b : Nat
  base : Nat
  tot : Nat
  sz : Nat
abbrev Mp := Nat → Option Pl
/-- A capacity that is not known: up to the block's end. -/
def UNK : Nat := 9223372036854775808
def Mp.le (m m' : Mp) : Prop := ∀ b p, m b = some p → m' b = some p
theorem Mp.le_refl (m : Mp) : m.le m := fun _ _ h => h
theorem Mp.le_trans {a b c : Mp} (h : a.le b) (h' : b.le c) : a.le c := fun _ _ e => h' _ _ (h _ _ e)
/-- Is a value one cell? -/
def oneB : Value → Bool
  | .agg _ | .tuple _ => false
  | _ => true
/-- One cell, and no Bool. -/
def jB : Value → Bool
  | .agg _ | .tuple _ | .bool _ => false
  | _ => true
theorem jB_one {v : Value} (h : jB v = true) : oneB v = true := by cases v <;> first | rfl | simp [jB] at h
/-- What may be anything. -/
def junkV : Value := .complex .f32 0 0
theorem oneB_cells {v : Value} (h : oneB v = true) : v.cells = #[v] := by cases v <;> first | rfl | simp [oneB] at h
inductive VRel (m : Mp) : Value → Value → Prop where
  | bool (b : Bool) : VRel m (.bool b) (.bool b)
  | int (k : IntKind) (n : Int) : VRel m (.int k n) (.int k n)
  | float (k : FloatKind) (n : Nat) : VRel m (.float k n) (.float k n)
  | string (s : ByteArray) : VRel m (.string s) (.string s)
  | pnil : VRel m (.pointer none) (.pointer none)
  | ptr (b o : Nat) (p : Pl) (h : m b = some p) : VRel m (.pointer (some ⟨b, o, none⟩)) (.pointer (some ⟨p.b, p.base + o, none⟩))
  | snil (n c : Nat) (hc : c ≠ UNK) : VRel m (.slice none n c) (.slice none n c)
  | slice (b o n c : Nat) (p : Pl) (h : m b = some p) (hc : c ≠ UNK) : VRel m (.slice (some ⟨b, o, none⟩) n c) (.slice (some ⟨p.b, p.base + o, none⟩) n c)
  | sliceU (b o n c : Nat) (p : Pl) (h : m b = some p) (hn : n ≤ c) (ht : p.base + o + c * p.sz = p.tot) (hc : c < UNK) : VRel m (.slice (some ⟨b, o, none⟩) n UNK) (.slice (some ⟨p.b, p.base + o, none⟩) n c)
  | sliceE (b o o' : Nat) (p : Pl) (h : m b = some p) (ht : p.base + o = p.tot) : VRel m (.slice (some ⟨b, o, none⟩) 0 UNK) (.slice (some ⟨p.b, o', none⟩) 0 0)
  | slice0 (b o : Nat) (a' : Addr) (p : Pl) (h : m b = some p) : VRel m (.slice (some ⟨b, o, none⟩) 0 0) (.slice (some a') 0 0)
  | junk (v' : Value) (h : jB v' = true) : VRel m junkV v'
  | mnil : VRel m (.map none) (.map none)
  | map (b : Nat) (p : Pl) (h : m b = some p) : VRel m (.map (some b)) (.map (some p.b))
  | nilFunc : VRel m .nilFunc .nilFunc
  | nilIface : VRel m .nilIface .nilIface
  | func (fn : Fn) (a a' c c' : Array Value) (h1 : a.size = a'.size) (h2 : ∀ (i : Nat) (v v' : Value), a[i]? = some v → a'[i]? = some v' → VRel m v v')
      (h3 : c.size = c'.size) (h4 : ∀ (i : Nat) (v v' : Value), c[i]? = some v → c'[i]? = some v' → VRel m v v') : VRel m (.func fn a c) (.func fn a' c')
  | iface (t : TypeId) (v v' : Value) (h : VRel m v v') : VRel m (.iface t v) (.iface t v')
  | agg (a a' : Array Value) (h1 : a.size = a'.size) (h2 : ∀ (i : Nat) (v v' : Value), a[i]? = some v → a'[i]? = some v' → VRel m v v') : VRel m (.agg a) (.agg a')
  | tuple (a a' : Array Value) (h1 : a.size = a'.size) (h2 : ∀ (i : Nat) (v v' : Value), a[i]? = some v → a'[i]? = some v' → VRel m v v') : VRel m (.tuple a) (.tuple a')
theorem VRel.mono {m m' : Mp} (hm : m.le m') {v v' : Value} (h : VRel m v v') : VRel m' v v' := by
  induction h with
  | bool b => exact .bool b
  | int k n => exact .int k n
  | float k n => exact .float k n
  | string s => exact .string s
  | pnil => exact .pnil
  | ptr b o p h => exact .ptr b o p (hm _ _ h)
  | snil n c hc => exact .snil n c hc
  | slice b o n c p h hc => exact .slice b o n c p (hm _ _ h) hc
  | sliceU b o n c p h hn ht hc => exact .sliceU b o n c p (hm _ _ h) hn ht hc
  | junk v' h => exact .junk v' h
  | sliceE b o o' p h ht => exact .sliceE b o o' p (hm _ _ h) ht
  | slice0 b o a' p h => exact .slice0 b o a' p (hm _ _ h)
  | mnil => exact .mnil
  | map b p h => exact .map b p (hm _ _ h)
  | nilFunc => exact .nilFunc
  | nilIface => exact .nilIface
  | func fn a a' c c' h1 _ h3 _ i2 i4 => exact .func fn a a' c c' h1 i2 h3 i4
  | iface t v v' _ ih => exact .iface t v v' ih
  | agg a a' h1 _ ih => exact .agg a a' h1 ih
  | tuple a a' h1 _ ih => exact .tuple a a' h1 ih
/-- Lists of values. -/
def LRel (m : Mp) (l l' : List Value) : Prop := l.length = l'.length ∧ ∀ (i : Nat) (v v' : Value), l[i]? = some v → l'[i]? = some v' → VRel m v v'
theorem LRel.mono {m m' : Mp} (hm : m.le m') {l l' : List Value} (h : LRel m l l') : LRel m' l l' := ⟨h.1, fun i v v' a b => (h.2 i v v' a b).mono hm⟩
theorem LRel.nil (m : Mp) : LRel m [] [] := ⟨rfl, fun i v v' h => by simp at h⟩
theorem LRel.cons {m : Mp} {v v' : Value} {l l' : List Value} (h : VRel m v v') (hl : LRel m l l') : LRel m (v :: l) (v' :: l') :=
  ⟨by simp [hl.1], fun i => by
    cases i with
    | zero => intro u u' e e'; simp at e e'; subst e e'; exact h
    | succ i => intro u u' e e'; simp at e e'; exact hl.2 i u u' e e'⟩
theorem LRel.append {m : Mp} {a a' b b' : List Value} (ha : LRel m a a') (hb : LRel m b b') : LRel m (a ++ b) (a' ++ b') :=
  ⟨by simp [ha.1, hb.1], fun i v v' e e' => by
    rcases Nat.lt_or_ge i a.length with h | h
    · rw [List.getElem?_append_left h] at e
      rw [List.getElem?_append_left (by rw [← ha.1]; exact h)] at e'
      exact ha.2 i v v' e e'
    · rw [List.getElem?_append_right h] at e
      rw [List.getElem?_append_right (by rw [← ha.1]; exact h), ← ha.1] at e'
      exact hb.2 _ v v' e e'⟩
theorem LRel.take {m : Mp} {a a' : List Value} (h : LRel m a a') (n : Nat) : LRel m (a.take n) (a'.take n) :=
  ⟨by simp [h.1], fun i v v' e e' => by
    rw [List.getElem?_take] at e e'
    split at e
    · rw [if_pos ‹_›] at e'; exact h.2 i v v' e e'
    · cases e⟩
theorem LRel.drop {m : Mp} {a a' : List Value} (h : LRel m a a') (n : Nat) : LRel m (a.drop n) (a'.drop n) :=
  ⟨by simp [h.1], fun i v v' e e' => by rw [List.getElem?_drop] at e e'; exact h.2 _ v v' e e'⟩
theorem LRel.get {m : Mp} {a a' : List Value} (h : LRel m a a') {i : Nat} {v : Value} (e : a[i]? = some v) : ∃ v', a'[i]? = some v' ∧ VRel m v v' := by
  have hi : i < a.length := (List.getElem?_eq_some_iff.1 e).1
  have hi' : i < a'.length := by rw [← h.1]; exact hi
  exact ⟨a'[i], List.getElem?_eq_getElem hi', h.2 i v _ e (List.getElem?_eq_getElem hi')⟩
theorem LRel.getD {m : Mp} {a a' : List Value} (h : LRel m a a') (i : Nat) (d d' : Value) (hd : VRel m d d') : VRel m ((a[i]?).getD d) ((a'[i]?).getD d') := by
  cases e : a[i]? with
  | some v => obtain ⟨v', e', hv⟩ := h.get e; simp [e', hv]
  | none =>
    have : a'[i]? = none := by simp at e ⊢; rw [← h.1]; exact e
    simp [this, hd]
theorem VRel.agg_iff {m : Mp} {a a' : Array Value} : VRel m (.agg a) (.agg a') ↔ LRel m a.toList a'.toList :=
  ⟨fun h => by cases h with | agg _ _ h1 h2 => exact ⟨by simpa using h1, fun i v v' e e' => h2 i v v' (by simpa using e) (by simpa using e')⟩,
   fun h => .agg a a' (by simpa using h.1) fun i v v' e e' => h.2 i v v' (by simpa using e) (by simpa using e')⟩
theorem VRel.tuple_iff {m : Mp} {a a' : Array Value} : VRel m (.tuple a) (.tuple a') ↔ LRel m a.toList a'.toList :=
  ⟨fun h => by cases h with | tuple _ _ h1 h2 => exact ⟨by simpa using h1, fun i v v' e e' => h2 i v v' (by simpa using e) (by simpa using e')⟩,
   fun h => .tuple a a' (by simpa using h.1) fun i v v' e e' => h.2 i v v' (by simpa using e) (by simpa using e')⟩
theorem VRel.undef (m : Mp) : VRel m Go.undef Go.undef := .tuple #[] #[] rfl (fun i v v' e => by simp at e)
/-- The cells of a value. -/
theorem VRel.cells {m : Mp} {v v' : Value} (h : VRel m v v') : LRel m v.cells.toList v'.cells.toList := by
  cases h with
  | agg a a' h1 h2 => exact VRel.agg_iff.1 (.agg a a' h1 h2)
  | junk v' h => rw [oneB_cells (jB_one h)]; exact LRel.cons (.junk v' h) (LRel.nil m)
  | _ => exact LRel.cons (by constructor <;> assumption) (LRel.nil m)
theorem VRel.one {m : Mp} {v v' : Value} (h : VRel m v v') : oneB v' = oneB v := by cases h <;> first | rfl | (rename_i h; exact jB_one h)
/-- Values that are the same everywhere: they bear no address. -/
def plainN : Nat → Value → Bool
  | _, .bool _ => true
  | _, .int .. => true
  | _, .float .. => true
  | _, .string _ => true
  | _, .pointer a => a.isNone
  | _, .slice a _ c => a.isNone && c != UNK
  | _, .map a => a.isNone
  | _, .nilFunc => true
  | _, .nilIface => true
  | _, .func _ a c => a.size == 0 && c.size == 0
  | n + 1, .agg a => a.toList.all (plainN n)
  | n + 1, .tuple a => a.toList.all (plainN n)
  | _, _ => false
def plainV (v : Value) : Bool := plainN 6 v
theorem plainN_rel (m : Mp) : ∀ (n : Nat) (v : Value), plainN n v = true → VRel m v v := by
  intro n
  induction n with
  | zero =>
    intro v h
    cases v with
    | pointer a => cases a with
      | none => exact .pnil
      | some a => simp [plainN] at h
    | slice a n c => cases a with
      | none => exact .snil n c (by simpa [plainN] using h)
      | some a => simp [plainN] at h
    | map a => cases a with
      | none => exact .mnil
      | some a => simp [plainN] at h
    | func fn a c =>
      simp [plainN] at h
      obtain ⟨rfl, rfl⟩ := h
      exact .func fn _ _ _ _ rfl (fun i v v' e => by simp at e) rfl (fun i v v' e => by simp at e)
    | bool b => exact .bool b
    | int k n => exact .int k n
    | float k n => exact .float k n
    | string s => exact .string s
    | nilFunc => exact .nilFunc
    | nilIface => exact .nilIface
    | _ => simp [plainN] at h
  | succ n ih =>
    intro v h
    have hl : ∀ a : Array Value, a.toList.all (plainN n) = true → ∀ (i : Nat) (v v' : Value), a[i]? = some v → a[i]? = some v' → VRel m v v' := by
      intro a h i v v' e e'
      rw [e] at e'; injection e' with e'; subst e'
      rw [List.all_eq_true] at h
      exact ih v (h v (Array.mem_def.1 (Array.mem_of_getElem? e)))
    cases v with
    | pointer a => cases a with
      | none => exact .pnil
      | some a => simp [plainN] at h
    | slice a n c => cases a with
      | none => exact .snil n c (by simpa [plainN] using h)
      | some a => simp [plainN] at h
    | map a => cases a with
      | none => exact .mnil
      | some a => simp [plainN] at h
    | func fn a c =>
      simp [plainN] at h
      obtain ⟨rfl, rfl⟩ := h
      exact .func fn _ _ _ _ rfl (fun i v v' e => by simp at e) rfl (fun i v v' e => by simp at e)
    | bool b => exact .bool b
    | int k n => exact .int k n
    | float k n => exact .float k n
    | string s => exact .string s
    | nilFunc => exact .nilFunc
    | nilIface => exact .nilIface
    | agg a => exact .agg a a rfl (hl a h)
    | tuple a => exact .tuple a a rfl (hl a h)
    | _ => simp [plainN] at h
theorem plainV_rel (m : Mp) (v : Value) (h : plainV v = true) : VRel m v v := plainN_rel m 6 v h
theorem plain_cells (m : Mp) (v : Value) (h : plainV v = true) : LRel m v.cells.toList v.cells.toList := (plainV_rel m v h).cells
end Go.AI
/- AIb: a world bears a heap of named blocks; steps from one to another. -/
namespace Go.AI
open Go Go.RowKit
def szOf (P : Program) (T : TypeId) : Option Nat := (P.info? T).map (·.size)
def byOf (P : Program) (T : TypeId) : Option Nat := (P.info? T).map (·.bytes)
def aggOf (P : Program) (T : TypeId) : Option Bool := (P.underlying T).map fun | .struct _ | .array _ _ => true | _ => false
def zeroOf (P : Program) (T : TypeId) : Option Value := (P.info? T).bind fun i => i.zero.bind fun z => if plainV z then some z else none
def Blk.ro : Blk → Bool
  | .row _ _ ro => ro
  | .mp _ => false
/-- A world's block bears what is known of it. -/
def Held (P : Program) (m : Mp) (w : World) (b : Nat) : Blk → Prop
  | .row cs E ro => ∃ p cur fr, m b = some p ∧ w.heap[p.b]? = some (.cells cur E fr) ∧ p.tot = cur.size ∧ (∀ n, szOf P E = some n → p.sz = n) ∧ (ro = false → fr = (0, 0)) ∧
      p.base + cs.length ≤ cur.size ∧ LRel m cs ((cur.toList.drop p.base).take cs.length)
  | .mp es => ∃ p ents clk, m b = some p ∧ w.heap[p.b]? = some (.map ents clk) ∧ ents.size = es.length ∧
      ∀ (i : Nat) k v, es[i]? = some (k, v) → ∃ e, ents[i]? = some e ∧ VRel m k e.key ∧ VRel m v e.val
structure Rel (P : Program) (m : Mp) (A : AH) (w : World) : Prop where
  held : ∀ b x, A.get b = some x → Held P m w b x
  apart : ∀ b c p q x y, A.get b = some x → A.get c = some y → (x.ro = false ∨ y.ro = false) → m b = some p → m c = some q → p.b = q.b → b = c
  fresh : ∀ b, A.next ≤ b → A.get b = none ∧ m b = none
  low : ∀ b p, m b = some p → p.b < w.heap.size
/-- The blocks that may be written. -/
def In (m : Mp) (A : AH) (k : Nat) : Prop := ∃ b p x, A.get b = some x ∧ x.ro = false ∧ m b = some p ∧ p.b = k
structure Step (m : Mp) (A : AH) (w : World) (m' : Mp) (A' : AH) (w' : World) : Prop where
  mono : m.le m'
  nx : A.next ≤ A'.next
  size : w.heap.size ≤ w'.heap.size
  keep : ∀ k, k < w.heap.size → ¬ In m A k → w'.heap[k]? = w.heap[k]?
  img : ∀ k, k < w.heap.size → In m' A' k → In m A k
  os : w'.os = w.os
  tape : w'.tape = w.tape
  output : w'.output = w.output
  old : ∀ b, b < A.next → m' b = m b
  ros : ∀ b x, A'.get b = some x → x.ro = true → A.get b = some x
theorem Step.refl (m : Mp) (A : AH) (w : World) : Step m A w m A w := ⟨m.le_refl, Nat.le_refl _, Nat.le_refl _, fun _ _ _ => rfl, fun _ _ h => h, rfl, rfl, rfl, fun _ _ => rfl, fun _ _ h _ => h⟩
theorem Step.trans {m m1 m2 : Mp} {A A1 A2 : AH} {w w1 w2 : World} (h : Step m A w m1 A1 w1) (g : Step m1 A1 w1 m2 A2 w2) : Step m A w m2 A2 w2 :=
  ⟨Mp.le_trans h.mono g.mono, Nat.le_trans h.nx g.nx, Nat.le_trans h.size g.size,
   fun k hk hn => (g.keep k (Nat.lt_of_lt_of_le hk h.size) (fun hi => hn (h.img k hk hi))).trans (h.keep k hk hn),
   fun k hk hi => h.img k hk (g.img k (Nat.lt_of_lt_of_le hk h.size) hi), g.os.trans h.os, g.tape.trans h.tape, g.output.trans h.output,
   fun b hb => (g.old b (Nat.lt_of_lt_of_le hb h.nx)).trans (h.old b hb), fun b x hb hx => h.ros b x (g.ros b x hb hx) hx⟩
theorem Rel.lt {P : Program} {m : Mp} {A : AH} {w : World} (h : Rel P m A w) {b : Nat} {x : Blk} (hb : A.get b = some x) : b < A.next := by
  rcases Nat.lt_or_ge b A.next with h' | h'
  · exact h'
  · rw [(h.fresh b h').1] at hb; cases hb
theorem Rel.mlt {P : Program} {m : Mp} {A : AH} {w : World} (h : Rel P m A w) {b : Nat} {p : Pl} (hb : m b = some p) : b < A.next := by
  rcases Nat.lt_or_ge b A.next with h' | h'
  · exact h'
  · rw [(h.fresh b h').2] at hb; cases hb
/-- Only the memory counts. -/
theorem Held.heap {P : Program} {m : Mp} {w w' : World} {b : Nat} {x : Blk} (h : Held P m w b x) (e : ∀ p, m b = some p → w'.heap[p.b]? = w.heap[p.b]?) : Held P m w' b x := by
  cases x with
  | row cs E ro =>
    obtain ⟨p, cur, fr, h1, h2, h3⟩ := h
    exact ⟨p, cur, fr, h1, (e p h1).trans h2, h3⟩
  | mp es =>
    obtain ⟨p, cur, fr, h1, h2, h3⟩ := h
    exact ⟨p, cur, fr, h1, (e p h1).trans h2, h3⟩
theorem Held.mono {P : Program} {m m' : Mp} {w : World} {b : Nat} {x : Blk} (hm : m.le m') (h : Held P m w b x) : Held P m' w b x := by
  cases x with
  | row cs E ro =>
    obtain ⟨p, cur, fr, h1, h2, h3, h4, h5, h6, h7⟩ := h
    exact ⟨p, cur, fr, hm _ _ h1, h2, h3, h4, h5, h6, h7.mono hm⟩
  | mp es =>
    obtain ⟨p, cur, fr, h1, h2, h3, h4⟩ := h
    exact ⟨p, cur, fr, hm _ _ h1, h2, h3, fun i k v e => by obtain ⟨e, a, b, c⟩ := h4 i k v e; exact ⟨e, a, b.mono hm, c.mono hm⟩⟩
theorem Rel.same {P : Program} {m : Mp} {A : AH} {w w' : World} (h : Rel P m A w) (e : w'.heap = w.heap) : Rel P m A w' :=
  ⟨fun b x hb => (h.held b x hb).heap (fun _ _ => by rw [e]), h.apart, h.fresh, fun b p hb => by rw [e]; exact h.low b p hb⟩
theorem Step.same {m : Mp} {A : AH} {w w' : World} (e : w'.heap = w.heap) (h1 : w'.os = w.os) (h2 : w'.tape = w.tape) (h3 : w'.output = w.output) : Step m A w m A w' :=
  ⟨m.le_refl, Nat.le_refl _, by rw [e]; exact Nat.le_refl _, fun k _ _ => by rw [e], fun _ _ h => h, h1, h2, h3, fun _ _ => rfl, fun _ _ h _ => h⟩
/-- A draw. -/
theorem Rel.drawn {P : Program} {m : Mp} {A : AH} {w : World} (h : Rel P m A w) (n : Nat) : Rel P m A { w with drawn := n } := h.same rfl
theorem Step.drawn (m : Mp) (A : AH) (w : World) (n : Nat) : Step m A w m A { w with drawn := n } := Step.same rfl rfl rfl rfl
/-! New blocks. -/
def Mp.upd (m : Mp) (n : Nat) (p : Pl) : Mp := fun b => if b = n then some p else m b
theorem Mp.upd_same (m : Mp) (n : Nat) (p : Pl) : m.upd n p n = some p := by simp [Mp.upd]
theorem Mp.upd_le {m : Mp} {n : Nat} (p : Pl) (h : m n = none) : m.le (m.upd n p) := fun b q e => by
  simp only [Mp.upd]; split
  · subst b; rw [h] at e; cases e
  · exact e
def World.put (w : World) (k : Nat) (o : Obj) : World := { w with heap := w.heap.setIfInBounds k o }
theorem World.put_get (w : World) (k : Nat) (o : Obj) (j : Nat) (hk : k < w.heap.size) : (World.put w k o).heap[j]? = if j = k then some o else w.heap[j]? := by
  simp only [World.put, Array.getElem?_setIfInBounds]
  by_cases e : k = j
  · subst e; simp [hk]
  · rw [if_neg e, if_neg (fun h => e h.symm)]
theorem World.put_size (w : World) (k : Nat) (o : Obj) : (World.put w k o).heap.size = w.heap.size := by simp [World.put]
def World.new (w : World) (o : Obj) : World := { w with heap := w.heap.push o }
theorem World.new_get (w : World) (o : Obj) (j : Nat) : (World.new w o).heap[j]? = if j = w.heap.size then some o else w.heap[j]? := by
  simp only [World.new, Array.getElem?_push]
theorem World.new_size (w : World) (o : Obj) : (World.new w o).heap.size = w.heap.size + 1 := by simp [World.new]
/-- The element cells of a type. -/
def szD (P : Program) (T : TypeId) : Nat := (szOf P T).getD 0
theorem szD_of {P : Program} {T : TypeId} {n : Nat} (h : szOf P T = some n) : szD P T = n := by simp [szD, h]
/-- A new row. -/
theorem Rel.alloc {P : Program} {m : Mp} {A : AH} {w : World} (h : Rel P m A w) (cs : List Value) (cur : Array Value) (E : TypeId) (hn : cs.length ≤ cur.size)
    (hl : LRel m cs (cur.toList.take cs.length)) :
    Rel P (m.upd A.next ⟨w.heap.size, 0, cur.size, szD P E⟩) (A.alloc (.row cs E false)) (World.new w (.cells cur E)) ∧
    Step m A w (m.upd A.next ⟨w.heap.size, 0, cur.size, szD P E⟩) (A.alloc (.row cs E false)) (World.new w (.cells cur E)) := by
  have hle := Mp.upd_le (m := m) (n := A.next) ⟨w.heap.size, 0, cur.size, szD P E⟩ (h.fresh _ (Nat.le_refl _)).2
  constructor
  · refine ⟨fun b x hb => ?_, fun b c p q x y hb hc hr hp hq e => ?_, fun b hb => ?_, fun b p hb => ?_⟩
    · rw [AH.get_alloc] at hb
      split at hb
      · subst b; injection hb with hb; subst hb
        exact ⟨_, cur, (0, 0), Mp.upd_same _ _ _, by rw [World.new_get, if_pos rfl], rfl, fun n hn => szD_of hn, fun _ => rfl, by simpa using hn, by simpa using hl.mono hle⟩
      · refine ((h.held b x hb).mono hle).heap fun p hp => ?_
        simp only [Mp.upd, if_neg ‹_›] at hp
        rw [World.new_get, if_neg (by have := h.low b p hp; omega)]
    · rw [AH.get_alloc] at hb hc
      simp only [Mp.upd] at hp hq
      split at hb
      · split at hc
        · omega
        · rw [if_pos ‹_›] at hp; rw [if_neg ‹_›] at hq
          injection hp with hp; subst hp
          have := h.low c q hq; simp at e; omega
      · split at hc
        · rw [if_neg ‹_›] at hp; rw [if_pos ‹_›] at hq
          injection hq with hq; subst hq
          have := h.low b p hp; simp at e; omega
        · rw [if_neg ‹_›] at hp; rw [if_neg ‹_›] at hq
          exact h.apart b c p q x y hb hc hr hp hq e
    · simp only [AH.next_alloc] at hb
      rw [AH.get_alloc, if_neg (by omega)]
      simp only [Mp.upd]; rw [if_neg (by omega)]
      exact h.fresh b (by omega)
    · simp only [Mp.upd] at hb
      rw [World.new_size]
      split at hb
      · injection hb with hb; subst hb; simp
      · have := h.low b p hb; omega
  · refine ⟨hle, by simp, by rw [World.new_size]; omega, fun k hk _ => by rw [World.new_get, if_neg (by omega)], fun k hk hi => ?_, rfl, rfl, rfl, fun b hb => by simp only [Mp.upd]; rw [if_neg (by omega)], fun b x hb hx => by
      rw [AH.get_alloc] at hb; split at hb
      · injection hb with hb; subst hb; cases hx
      · exact hb⟩
    obtain ⟨b, p, x, hb, hr, hp, e⟩ := hi
    rw [AH.get_alloc] at hb
    simp only [Mp.upd] at hp
    split at hb
    · rw [if_pos ‹_›] at hp; injection hp with hp; subst hp; simp at e; omega
    · rw [if_neg ‹_›] at hp; exact ⟨b, p, x, hb, hr, hp, e⟩
/-- A new map. -/
theorem Rel.allocMap {P : Program} {m : Mp} {A : AH} {w : World} (h : Rel P m A w) :
    Rel P (m.upd A.next ⟨w.heap.size, 0, 0, 0⟩) (A.alloc (.mp [])) (World.new w (.map #[] 0)) ∧
    Step m A w (m.upd A.next ⟨w.heap.size, 0, 0, 0⟩) (A.alloc (.mp [])) (World.new w (.map #[] 0)) := by
  have hle := Mp.upd_le (m := m) (n := A.next) ⟨w.heap.size, 0, 0, 0⟩ (h.fresh _ (Nat.le_refl _)).2
  constructor
  · refine ⟨fun b x hb => ?_, fun b c p q x y hb hc hr hp hq e => ?_, fun b hb => ?_, fun b p hb => ?_⟩
    · rw [AH.get_alloc] at hb
      split at hb
      · subst b; injection hb with hb; subst hb
        exact ⟨_, #[], 0, Mp.upd_same _ _ _, by rw [World.new_get, if_pos rfl], rfl, fun i k v e => by simp at e⟩
      · refine ((h.held b x hb).mono hle).heap fun p hp => ?_
        simp only [Mp.upd, if_neg ‹_›] at hp
        rw [World.new_get, if_neg (by have := h.low b p hp; omega)]
    · rw [AH.get_alloc] at hb hc
      simp only [Mp.upd] at hp hq
      split at hb
      · split at hc
        · omega
        · rw [if_pos ‹_›] at hp; rw [if_neg ‹_›] at hq
          injection hp with hp; subst hp
          have := h.low c q hq; simp at e; omega
      · split at hc
        · rw [if_neg ‹_›] at hp; rw [if_pos ‹_›] at hq
          injection hq with hq; subst hq
          have := h.low b p hp; simp at e; omega
        · rw [if_neg ‹_›] at hp; rw [if_neg ‹_›] at hq
          exact h.apart b c p q x y hb hc hr hp hq e
    · simp only [AH.next_alloc] at hb
      rw [AH.get_alloc, if_neg (by omega)]
      simp only [Mp.upd]; rw [if_neg (by omega)]
      exact h.fresh b (by omega)
    · simp only [Mp.upd] at hb
      rw [World.new_size]
      split at hb
      · injection hb with hb; subst hb; simp
      · have := h.low b p hb; omega
  · refine ⟨hle, by simp, by rw [World.new_size]; omega, fun k hk _ => by rw [World.new_get, if_neg (by omega)], fun k hk hi => ?_, rfl, rfl, rfl, fun b hb => by simp only [Mp.upd]; rw [if_neg (by omega)], fun b x hb hx => by
      rw [AH.get_alloc] at hb; split at hb
      · injection hb with hb; subst hb; cases hx
      · exact hb⟩
    obtain ⟨b, p, x, hb, hr, hp, e⟩ := hi
    rw [AH.get_alloc] at hb
    simp only [Mp.upd] at hp
    split at hb
    · rw [if_pos ‹_›] at hp; injection hp with hp; subst hp; simp at e; omega
    · rw [if_neg ‹_›] at hp; exact ⟨b, p, x, hb, hr, hp, e⟩
/-- A known block is written. -/
theorem Rel.put {P : Program} {m : Mp} {A : AH} {w : World} (h : Rel P m A w) {b : Nat} {x y : Blk} {p : Pl} {o : Obj} (hb : A.get b = some x) (hx : x.ro = false) (hy : y.ro = false) (hp : m b = some p)
    (hh : Held P m (World.put w p.b o) b y) : Rel P m (A.set b y) (World.put w p.b o) ∧ Step m A w m (A.set b y) (World.put w p.b o) := by
  have hlt := h.low b p hp
  constructor
  · refine ⟨fun c z hc => ?_, fun c d q r u v hc hd hr hq hr' e => ?_, fun c hc => ?_, fun c q hq => by rw [World.put_size]; exact h.low c q hq⟩
    · rw [AH.get_set] at hc
      split at hc
      · subst c; injection hc with hc; subst hc; exact hh
      · refine (h.held c z hc).heap fun q hq => ?_
        rw [World.put_get _ _ _ _ hlt, if_neg]
        exact fun e => ‹¬ c = b› (h.apart c b q p z x hc hb (.inr hx) hq hp e)
    · rw [AH.get_set] at hc hd
      split at hc
      · subst c; split at hd
        · omega
        · rw [hp] at hq; injection hq with hq; subst hq
          exact h.apart b d p r x v hb hd (.inl hx) hp hr' e
      · split at hd
        · subst d; exact h.apart c b q r u x hc hb (.inr hx) hq hr' e
        · exact h.apart c d q r u v hc hd hr hq hr' e
    · simp only [AH.next_set] at hc
      rw [AH.get_set, if_neg]
      · exact h.fresh c hc
      · intro e; subst e; have := h.lt hb; omega
  · refine ⟨m.le_refl, by simp, by rw [World.put_size]; omega, fun k hk hn => ?_, fun k hk hi => ?_, rfl, rfl, rfl, fun _ _ => rfl, fun c z hc hz => by
      rw [AH.get_set] at hc; split at hc
      · injection hc with hc; subst hc; rw [hy] at hz; cases hz
      · exact hc⟩
    · rw [World.put_get _ _ _ _ hlt, if_neg]
      exact fun e => hn ⟨b, p, x, hb, hx, hp, e.symm⟩
    · obtain ⟨c, q, z, hc, hz, hq, e⟩ := hi
      rw [AH.get_set] at hc
      split at hc
      · subst c; exact ⟨b, p, x, hb, hx, hp, by rw [hp] at hq; injection hq with hq; rw [hq]; exact e⟩
      · exact ⟨c, q, z, hc, hz, hq, e⟩
/-- A block is forgotten. -/
theorem Rel.kill {P : Program} {m : Mp} {A : AH} {w : World} (h : Rel P m A w) (b : Nat) : Rel P m (A.kill b) w ∧ Step m A w m (A.kill b) w := by
  have hg : ∀ c x, (A.kill b).get c = some x → A.get c = some x := fun c x e => by
    rw [AH.get_kill] at e; split at e
    · cases e
    · exact e
  refine ⟨⟨fun c x hc => h.held c x (hg c x hc), fun c d p q x y hc hd => h.apart c d p q x y (hg c x hc) (hg d y hd), fun c hc => ?_, h.low⟩, ⟨m.le_refl, by simp, Nat.le_refl _, fun _ _ _ => rfl, fun k _ hi => ?_, rfl, rfl, rfl, fun _ _ => rfl, fun c x hc _ => hg c x hc⟩⟩
  · rw [AH.get_kill]; have := h.fresh c hc; split
    · exact ⟨rfl, this.2⟩
    · exact this
  · obtain ⟨c, p, x, hc, r⟩ := hi; exact ⟨c, p, x, hg c x hc, r⟩
/-- The block of a name gets another name. -/
theorem Rel.rename {P : Program} {m : Mp} {A : AH} {w : World} (h : Rel P m A w) {b : Nat} {x y : Blk} {p q : Pl} (hb : A.get b = some x) (hx : x.ro = false) (hy : y.ro = false) (hp : m b = some p) (hq : q.b = p.b)
    (hh : Held P (m.upd A.next q) w A.next y) :
    Rel P (m.upd A.next q) ((A.kill b).alloc y) w ∧ Step m A w (m.upd A.next q) ((A.kill b).alloc y) w := by
  have hle := Mp.upd_le (m := m) (n := A.next) q (h.fresh _ (Nat.le_refl _)).2
  have hbn := h.lt hb
  have hg : ∀ c z, ((A.kill b).alloc y).get c = some z → (c = A.next ∧ z = y) ∨ (c ≠ A.next ∧ c ≠ b ∧ A.get c = some z) := fun c z e => by
    rw [AH.get_alloc, AH.next_kill] at e
    by_cases h1 : c = A.next
    · rw [if_pos h1] at e; injection e with e; exact .inl ⟨h1, e.symm⟩
    · rw [if_neg h1, AH.get_kill] at e
      by_cases h2 : c = b
      · rw [if_pos h2] at e; cases e
      · rw [if_neg h2] at e; exact .inr ⟨h1, h2, e⟩
  have hm : ∀ c r, c ≠ A.next → (m.upd A.next q) c = some r → m c = some r := fun c r hc e => by
    simp only [Mp.upd] at e; rw [if_neg hc] at e; exact e
  constructor
  · refine ⟨fun c z hc => ?_, fun c d r s u v hc hd hr hr1 hs1 e => ?_, fun c hc => ?_, fun c r hr => ?_⟩
    · rcases hg c z hc with ⟨rfl, rfl⟩ | ⟨_, _, hc⟩
      · exact hh
      · exact (h.held c z hc).mono hle
    · rcases hg c u hc with ⟨rfl, rfl⟩ | ⟨h1, h2, hc⟩
      · rcases hg d v hd with ⟨rfl, rfl⟩ | ⟨h3, h4, hd⟩
        · rfl
        · rw [Mp.upd_same] at hr1; injection hr1 with hr1; subst hr1
          exact absurd (h.apart b d p s x v hb hd (.inl hx) hp (hm d s h3 hs1) (by rw [← hq]; exact e)) (fun e => h4 e.symm)
      · rcases hg d v hd with ⟨rfl, hv⟩ | ⟨h3, h4, hd⟩
        · rw [Mp.upd_same] at hs1; injection hs1 with hs1; subst hs1
          exact absurd (h.apart c b r p u x hc hb (.inr hx) (hm c r h1 hr1) hp (by rw [← hq]; exact e)) h2
        · exact h.apart c d r s u v hc hd hr (hm c r h1 hr1) (hm d s h3 hs1) e
    · simp only [AH.next_alloc, AH.next_kill] at hc
      constructor
      · cases hz : ((A.kill b).alloc y).get c with
        | none => rfl
        | some z =>
          rcases hg c z hz with ⟨rfl, rfl⟩ | ⟨_, _, hc'⟩
          · omega
          · rw [(h.fresh c (by omega)).1] at hc'; cases hc'
      · simp only [Mp.upd]; rw [if_neg (by omega)]; exact (h.fresh c (by omega)).2
    · by_cases e : c = A.next
      · subst e; rw [Mp.upd_same] at hr; injection hr with hr; subst hr; rw [hq]; exact h.low b p hp
      · exact h.low c r (hm c r e hr)
  · refine ⟨hle, by simp, Nat.le_refl _, fun _ _ _ => rfl, fun k hk hi => ?_, rfl, rfl, rfl, fun c hc => by simp only [Mp.upd]; rw [if_neg (by omega)], fun c z hc hz => by
      rcases hg c z hc with ⟨_, e⟩ | ⟨_, _, h⟩
      · rw [e, hy] at hz; cases hz
      · exact h⟩
    obtain ⟨c, r, z, hc, hz, hr, e⟩ := hi
    rcases hg c z hc with ⟨rfl, rfl⟩ | ⟨h1, h2, hc⟩
    · rw [Mp.upd_same] at hr; injection hr with hr; subst hr
      exact ⟨b, p, x, hb, hx, hp, by rw [← hq]; exact e⟩
    · exact ⟨c, r, z, hc, hz, hm c r h1 hr, e⟩
end Go.AI
/- AIc: loads and stores of rows. -/
namespace Go.AI
open Go Go.RowKit
/-- A list with a part written over. -/
def spl (cs : List Value) (o : Nat) (vs : List Value) : List Value := cs.take o ++ vs ++ cs.drop (o + vs.length)
theorem spl_length (cs : List Value) (o : Nat) (vs : List Value) (h : o + vs.length ≤ cs.length) : (spl cs o vs).length = cs.length := by
  simp [spl]; omega
theorem spl_nil (cs : List Value) (o : Nat) : spl cs o [] = cs := by simp [spl]
theorem spl_cons (cs : List Value) (o : Nat) (v : Value) (vs : List Value) (h : o + (vs.length + 1) ≤ cs.length) : spl (cs.set o v) (o + 1) vs = spl cs o (v :: vs) := by
  simp only [spl, List.length_cons]
  have e1 : (cs.set o v).take (o + 1) = cs.take o ++ [v] := by
    rw [List.take_add_one, List.take_set_of_le (Nat.le_refl _)]
    simp [show o < cs.length by omega]
  have e2 : (cs.set o v).drop (o + 1 + vs.length) = cs.drop (o + (vs.length + 1)) := by
    rw [List.drop_set_of_lt (by omega)]; congr 1; omega
  rw [e1, e2]; simp
theorem LRel.spl {m : Mp} {a a' b b' : List Value} (ha : LRel m a a') (hb : LRel m b b') (o : Nat) : LRel m (spl a o b) (spl a' o b') := by
  simp only [AI.spl, ← hb.1]; exact ((ha.take _).append hb).append (ha.drop _)
/-- A part written over within a part. -/
theorem spl_window (l : List Value) (base n o : Nat) (vs : List Value) (h : o + vs.length ≤ n) (hl : base + n ≤ l.length) :
    ((spl l (base + o) vs).drop base).take n = spl ((l.drop base).take n) o vs := by
  apply List.ext_getElem?
  intro i
  simp only [spl, List.getElem?_take, List.getElem?_drop, List.getElem?_append, List.length_append, List.length_take, List.length_drop]
  by_cases hi : i < n
  · simp only [hi, if_true]
    by_cases h1 : i < o
    · simp [show base + i < min (base + o) l.length + vs.length by omega, show base + i < min (base + o) l.length by omega, show base + i < base + o by omega, show i < min o (min n (l.length - base)) + vs.length by omega, show i < min o (min n (l.length - base)) by omega, h1]
    · by_cases h2 : i < o + vs.length
      · simp [show base + i < min (base + o) l.length + vs.length by omega, show ¬ base + i < min (base + o) l.length by omega, show i < min o (min n (l.length - base)) + vs.length by omega, show ¬ i < min o (min n (l.length - base)) by omega]
        congr 1; omega
      · simp [show ¬ base + i < min (base + o) l.length + vs.length by omega, show ¬ i < min o (min n (l.length - base)) + vs.length by omega]
        rw [if_pos (by omega)]; congr 1; omega
  · simp only [hi, if_false]
    by_cases h1 : i < min o (min n (l.length - base)) + vs.length
    · omega
    · simp only [h1, if_false]
      rw [if_neg (by omega)]
theorem World.put_put (w : World) (k : Nat) (o o' : Obj) : World.put (World.put w k o) k o' = World.put w k o' := by
  simp [World.put]
theorem World.put_self (w : World) (k : Nat) (o : Obj) (h : w.heap[k]? = some o) : World.put w k o = w := by
  have : w.heap.setIfInBounds k o = w.heap := by
    apply Array.ext_getElem?
    intro i
    rw [Array.getElem?_setIfInBounds]
    split
    · subst k; rw [h]; simp; exact (Array.getElem?_eq_some_iff.1 h).1
    · rfl
  simp [World.put, this]
theorem cell_of {w : World} {a : Addr} {cur : Array Value} {E : TypeId} {fr : Nat × Nat} (h : w.heap[a.block]? = some (.cells cur E fr)) (hs : a.spot = none) : w.cell? a = cur[a.off]? := by
  simp [World.cell?, h, hs]
theorem add_spot {a : Addr} (i : Nat) (hs : a.spot = none) : a.add i = ⟨a.block, a.off + i, none⟩ := by
  cases a; simp only [Addr.add] at *; subst hs
  split
  · subst i; rfl
  · rfl
variable {P : Program}
theorem run_lcf {w : World} {a : Addr} {cur : Array Value} {E : TypeId} {fr : Nat × Nat} (h : w.heap[a.block]? = some (.cells cur E fr)) (hs : a.spot = none) :
    ∀ (n i : Nat) (acc : Array Value), a.off + i + n ≤ cur.size → (loadCellsFrom a i n acc).run P w = .ok (acc ++ ((cur.toList.drop (a.off + i)).take n).toArray) w := by
  intro n
  induction n with
  | zero => intro i acc _; simp only [loadCellsFrom, List.take_zero, Array.append_empty]; rfl
  | succ n ih =>
    intro i acc hb
    have hc : w.cell? (a.add i) = some cur[a.off + i] := by
      rw [add_spot i hs, cell_of (by exact h) rfl, Array.getElem?_eq_getElem (by show a.off + i < _; omega)]
    simp only [loadCellsFrom]
    show (Sem.bind (load (a.add i)) fun v => loadCellsFrom a (i + 1) n (acc.push v)).run P w = _
    simp only [load, Sem.bind, Sem.run, hc]
    rw [ih (i + 1) _ (by omega)]
    congr 1
    apply Array.toList_inj.1
    have e : cur.toList.drop (a.off + i) = cur[a.off + i] :: cur.toList.drop (a.off + i + 1) := by
      rw [List.drop_eq_getElem_cons (by simpa using (show a.off + i < cur.size by omega))]; simp
    simp [e, Nat.add_assoc]
theorem run_lc {w : World} {a : Addr} {cur : Array Value} {E : TypeId} {fr : Nat × Nat} (h : w.heap[a.block]? = some (.cells cur E fr)) (hs : a.spot = none) (n : Nat) (hb : a.off + n ≤ cur.size) :
    (loadCells a n).run P w = .ok ((cur.toList.drop a.off).take n).toArray w := by
  have := run_lcf (P := P) h hs n 0 #[] (by omega)
  simpa [loadCells] using this
theorem run_sc {a : Addr} {E : TypeId} (hs : a.spot = none) : ∀ (vs : List Value) (i : Nat) (w : World) (cur : Array Value), w.heap[a.block]? = some (.cells cur E (0, 0)) → (∀ v ∈ vs, oneB v = true) → a.off + i + vs.length ≤ cur.size →
    (storeCells a vs i).run P w = .ok () (World.put w a.block (.cells (spl cur.toList (a.off + i) vs).toArray E (0, 0))) := by
  intro vs
  induction vs with
  | nil => intro i w cur h _ _; simp only [storeCells, spl_nil, Array.toArray_toList, World.put_self _ _ _ h]; rfl
  | cons v vs ih =>
    intro i w cur h h1 hb
    simp only [List.length_cons] at hb
    have hlt : a.block < w.heap.size := (Array.getElem?_eq_some_iff.1 h).1
    have hc : w.cell? (a.add i) = some cur[a.off + i] := by
      rw [add_spot i hs, cell_of (by exact h) rfl, Array.getElem?_eq_getElem (by show a.off + i < _; omega)]
    have hf : w.frozen? (a.add i) = false := by
      rw [add_spot i hs]; simp [World.frozen?, h]
    have hw : w.setCell (a.add i) v = World.put w a.block (.cells (cur.setIfInBounds (a.off + i) v) E (0, 0)) := by
      rw [add_spot i hs]
      simp only [World.setCell, World.put]
      congr 1
      apply Array.ext_getElem?
      intro j
      rw [Array.getElem?_modify, Array.getElem?_setIfInBounds]
      split
      · subst j
        have hg : w.heap[a.block] = .cells cur E (0, 0) := by
          rw [Array.getElem?_eq_getElem hlt] at h; exact Option.some.inj h
        simp [hlt, hg]
      · rfl
    simp only [storeCells]
    show (Sem.bind (store (a.add i) v) fun _ => storeCells a vs (i + 1)).run P w = _
    have h1v := h1 v (by simp)
    have hstep : ∀ k : Sem Unit, (Sem.bind (store (a.add i) v) fun _ => k).run P w = k.run P (w.setCell (a.add i) v) := by
      intro k
      simp only [store, Sem.bind]
      cases v <;> simp_all [Sem.run, oneB]
    rw [hstep, hw, ih (i + 1) _ (cur.setIfInBounds (a.off + i) v) (by rw [World.put_get _ _ _ _ hlt, if_pos rfl]) (fun u hu => h1 u (by simp [hu])) (by simp; omega), World.put_put]
    congr 4
    rw [Array.toList_setIfInBounds, ← Nat.add_assoc]
    rw [spl_cons _ _ _ _ (by simp; omega)]
/-! Runs of what asks the program. -/
theorem run_bind {α β : Type} (s : Sem α) (f : α → Sem β) (w : World) {x : α} {w' : World} (h : s.run P w = .ok x w') : (s >>= f).run P w = (f x).run P w' := by
  show (Sem.bind s f).run P w = _
  induction s generalizing w with
  | pure a => simp [Sem.run] at h; obtain ⟨rfl, rfl⟩ := h; rfl
  | load m a k ih =>
    simp only [Sem.run, Sem.bind] at h ⊢
    cases hc : w.cell? a with
    | some v => simp only [hc] at h ⊢; exact ih v w h
    | none =>
      simp only [hc] at h ⊢
      cases hf : w.farLoad P a (m == .atomic) with
      | ok r => simp only [hf] at h ⊢; exact ih _ w h
      | error e => simp only [hf] at h; cases h
  | store m a v k ih =>
    cases v <;> simp only [Sem.run, Sem.bind] at h ⊢ <;> first
      | (cases h; done)
      | (cases hc : w.cell? a with
          | some u =>
            simp only [hc] at h ⊢
            split at h
            · cases h
            · rw [if_neg ‹_›]; exact ih _ h
          | none =>
            simp only [hc] at h ⊢
            split at h
            · exact ih _ h
            · cases h)
  | new o k ih => simp only [Sem.run, Sem.bind] at h ⊢; exact ih _ _ h
  | shape r k ih => simp only [Sem.run, Sem.bind] at h ⊢; exact ih _ _ h
  | freeze a n k ih => simp only [Sem.run, Sem.bind] at h ⊢; exact ih _ h
  | frozen a k ih => simp only [Sem.run, Sem.bind] at h ⊢; exact ih _ _ h
  | getObj r k ih =>
    simp only [Sem.run, Sem.bind] at h ⊢
    split at h
    · cases h
    · exact ih _ _ h
    · cases h
  | setObj r o k ih =>
    simp only [Sem.run, Sem.bind] at h ⊢
    split at h
    · cases h
    · exact ih _ h
    · cases h
  | choose q k ih =>
    simp only [Sem.run, Sem.bind] at h ⊢
    split at h
    · rw [if_pos ‹_›]; exact ih _ _ h
    · rw [if_neg ‹_›]; exact ih _ _ h
  | sys c k ih => simp only [Sem.run, Sem.bind] at h ⊢; exact ih _ _ h
  | program k ih => simp only [Sem.run, Sem.bind] at h ⊢; exact ih _ _ h
  | mark m k ih => simp only [Sem.run, Sem.bind] at h ⊢; exact ih _ h
  | halt e => simp [Sem.run] at h
theorem run_pure {α : Type} (x : α) (w : World) : (pure x : Sem α).run P w = .ok x w := rfl
theorem run_program (w : World) : program.run P w = .ok P w := rfl
theorem run_ti {T : TypeId} {i : TypeInfo} (h : P.info? T = some i) (w : World) : (typeInfo T).run P w = .ok i w := by
  unfold typeInfo; rw [run_bind _ _ _ (run_program w)]; simp only [h]; rfl
theorem run_un {T : TypeId} {d : TypeDesc} (h : P.underlying T = some d) (w : World) : (underlying T).run P w = .ok d w := by
  unfold underlying; rw [run_bind _ _ _ (run_program w)]; simp only [h]; rfl
theorem run_sz {T : TypeId} {n : Nat} (h : szOf P T = some n) (w : World) : (sizeOf T).run P w = .ok n w := by
  simp only [szOf, Option.map_eq_some_iff] at h
  obtain ⟨i, hi, rfl⟩ := h
  unfold sizeOf; rw [run_bind _ _ _ (run_ti hi w)]; rfl
theorem run_agg {T : TypeId} {b : Bool} (h : aggOf P T = some b) (w : World) : (isAgg T).run P w = .ok b w := by
  simp only [aggOf, Option.map_eq_some_iff] at h
  obtain ⟨d, hd, rfl⟩ := h
  unfold isAgg; rw [run_bind _ _ _ (run_un hd w)]; cases d <;> rfl
theorem run_zero {T : TypeId} {z : Value} (h : zeroOf P T = some z) (w : World) : (zeroValue T).run P w = .ok z w := by
  simp only [zeroOf, Option.bind_eq_some_iff] at h
  obtain ⟨i, hi, y, hy, hz⟩ := h
  split at hz
  · injection hz with hz; subst hz
    unfold zeroValue; rw [run_bind _ _ _ (run_ti hi w)]; simp only [hy]; rfl
  · cases hz
theorem zero_plain {T : TypeId} {z : Value} (h : zeroOf P T = some z) : plainV z = true := by
  simp only [zeroOf, Option.bind_eq_some_iff] at h
  obtain ⟨i, hi, y, hy, hz⟩ := h
  split at hz
  · injection hz with hz; subst hz; assumption
  · cases hz
theorem run_new (o : Obj) (w : World) : (newObj o).run P w = .ok w.heap.size (World.new w o) := rfl
theorem run_newRow (E : TypeId) (cs : Array Value) (w : World) : (newRow E cs).run P w = .ok ⟨w.heap.size, 0, none⟩ (World.new w (.cells cs E)) := by
  unfold newRow; rw [run_bind _ _ _ (run_new _ w)]; rfl
end Go.AI
/- AId: what single operations answer over named blocks. -/
namespace Go.AI
open Go Go.RowKit
variable {P : Program}
/-- What a computation comes to. -/
def SV (P : Program) (m : Mp) (A : AH) (w : World) (s : Sem Value) (v : Value) (A' : AH) : Prop :=
  ∃ m' w' v', s.run P w = .ok v' w' ∧ Rel P m' A' w' ∧ VRel m' v v' ∧ Step m A w m' A' w'
def SU (P : Program) (m : Mp) (A : AH) (w : World) (s : Sem Unit) (A' : AH) : Prop :=
  ∃ m' w', s.run P w = .ok () w' ∧ Rel P m' A' w' ∧ Step m A w m' A' w'
theorem SV.pure {m : Mp} {A : AH} {w : World} {s : Sem Value} {v v' : Value} (hR : Rel P m A w) (h : s.run P w = .ok v' w) (hv : VRel m v v') : SV P m A w s v A :=
  ⟨m, w, v', h, hR, hv, Step.refl _ _ _⟩
theorem run_load {w : World} {a : Addr} {v : Value} (h : w.cell? a = some v) : (load a).run P w = .ok v w := by simp [load, Sem.run, h]
theorem held_row {m : Mp} {A : AH} {w : World} (hR : Rel P m A w) {b : Nat} {cs : List Value} {E : TypeId} {ro : Bool} {p : Pl} (hb : A.get b = some (.row cs E ro)) (hp : m b = some p) :
    ∃ cur fr, w.heap[p.b]? = some (.cells cur E fr) ∧ p.tot = cur.size ∧ (∀ n, szOf P E = some n → p.sz = n) ∧ (ro = false → fr = (0, 0)) ∧ p.base + cs.length ≤ cur.size ∧ LRel m cs ((cur.toList.drop p.base).take cs.length) := by
  obtain ⟨q, cur, fr, hq, h⟩ := hR.held b _ hb
  rw [hp] at hq; injection hq with hq; subst hq
  exact ⟨cur, fr, h⟩
/-! A load. -/
def aLoad (P : Program) (T : TypeId) (x : Value) (A : AH) : Option Value :=
  match x with
  | .pointer (some ⟨b, o, none⟩) =>
    match A.get b with
    | some (.row cs _ _) =>
      match aggOf P T with
      | some true =>
        match szOf P T with
        | some n => if o + n ≤ cs.length then some (.agg ((cs.drop o).take n).toArray) else none
        | none => none
      | some false => cs[o]?
      | none => none
    | _ => none
  | _ => none
theorem window_get (l : List Value) (base n i : Nat) (h : i < n) : ((l.drop base).take n)[i]? = l[base + i]? := by
  rw [List.getElem?_take, if_pos h, List.getElem?_drop]
theorem LRel.window {m : Mp} {cs cur : List Value} {base : Nat} (h : LRel m cs ((cur.drop base).take cs.length)) (o n : Nat) (hb : o + n ≤ cs.length) :
    LRel m ((cs.drop o).take n) ((cur.drop (base + o)).take n) := by
  have := (h.drop o).take n
  have e : (((cur.drop base).take cs.length).drop o).take n = (cur.drop (base + o)).take n := by
    rw [List.drop_take, List.drop_drop, List.take_take, Nat.min_eq_left (by omega)]
  rwa [e] at this
theorem aLoad_sound {m : Mp} {A : AH} {w : World} (hR : Rel P m A w) {T : TypeId} {x x' v : Value} (hx : VRel m x x') (h : aLoad P T x A = some v) : SV P m A w (Instr.loadAt T x') v A := by
  unfold aLoad at h
  split at h
  · rename_i b o
    split at h
    · rename_i cs E ro hb
      cases hx with
      | ptr _ _ p hp =>
        obtain ⟨cur, fr, hg, htot, hsz, hfr, hlen, hl⟩ := held_row hR hb hp
        split at h
        · rename_i ht
          split at h
          · rename_i n hn
            split at h
            · rename_i hle
              injection h with h; subst h
              refine SV.pure hR (v' := .agg ((cur.toList.drop (p.base + o)).take n).toArray) ?_ ?_
              · simp only [Instr.loadAt, Instr.sureAddr, pure_bind]
                unfold loadVar
                rw [run_bind _ _ _ (run_agg ht w)]
                simp only [if_true]
                rw [run_bind _ _ _ (run_sz hn w), run_bind _ _ _ (run_lc (a := ⟨p.b, p.base + o, none⟩) hg rfl n (by show p.base + o + n ≤ _; omega))]
                rfl
              · exact VRel.agg_iff.2 (hl.window o n hle)
            · cases h
          · cases h
        · rename_i ht
          obtain ⟨v', hv', hvr⟩ := hl.get h
          have ho : o < cs.length := (List.getElem?_eq_some_iff.1 h).1
          rw [window_get _ _ _ _ ho] at hv'
          refine SV.pure hR (v' := v') ?_ hvr
          simp only [Instr.loadAt, Instr.sureAddr, pure_bind]
          unfold loadVar
          rw [run_bind _ _ _ (run_agg ht w)]
          simp only [Bool.false_eq_true, if_false]
          exact run_load (by rw [cell_of (by exact hg) rfl]; simpa using hv')
        · cases h
    · cases h
  · cases h
/-! A store. -/
def aStore (P : Program) (T : TypeId) (x v : Value) (A : AH) : Option AH :=
  match x with
  | .pointer (some ⟨b, o, none⟩) =>
    match A.get b with
    | some (.row cs E false) =>
      if szOf P T = some v.cells.size ∧ o + v.cells.size ≤ cs.length ∧ v.cells.toList.all oneB = true then some (A.set b (.row (spl cs o v.cells.toList) E false)) else none
    | _ => none
  | _ => none
theorem store_cells {m : Mp} {A : AH} {w : World} (hR : Rel P m A w) {b o : Nat} {cs vs vs' : List Value} {E : TypeId} {p : Pl} (hb : A.get b = some (.row cs E false)) (hp : m b = some p)
    (hv : LRel m vs vs') (h1 : vs.all oneB = true) (ho : o + vs.length ≤ cs.length) : SU P m A w (storeCells ⟨p.b, p.base + o, none⟩ vs') (A.set b (.row (spl cs o vs) E false)) := by
  obtain ⟨cur, fr, hg, htot, hsz, hfr, hlen, hl⟩ := held_row hR hb hp
  obtain rfl := hfr rfl
  have h1' : ∀ v ∈ vs', oneB v = true := by
    intro v' hm
    obtain ⟨i, hi, e⟩ := List.getElem_of_mem hm
    have hi' : i < vs.length := by rw [hv.1]; exact hi
    rw [(hv.2 i vs[i] v' (List.getElem?_eq_getElem hi') (by rw [List.getElem?_eq_getElem hi, e])).one]
    exact List.all_eq_true.1 h1 _ (List.getElem_mem hi')
  have hrun := run_sc (P := P) (a := ⟨p.b, p.base + o, none⟩) rfl vs' 0 w cur hg h1' (by show p.base + o + 0 + _ ≤ _; rw [← hv.1]; omega)
  simp only [Nat.add_zero] at hrun
  have hle : p.base + o + vs'.length ≤ cur.toList.length := by rw [← hv.1]; simp; omega
  obtain ⟨r1, r2⟩ := hR.put (y := .row (spl cs o vs) E false) (o := .cells (spl cur.toList (p.base + o) vs').toArray E (0, 0)) hb rfl rfl hp (by
    refine ⟨p, (spl cur.toList (p.base + o) vs').toArray, (0, 0), hp, by rw [World.put_get _ _ _ _ (hR.low b p hp), if_pos rfl], ?_, hsz, fun _ => rfl, ?_, ?_⟩
    · rw [htot]; simp [spl_length _ _ _ hle]
    · rw [spl_length _ _ _ ho]; simpa [spl_length _ _ _ hle] using hlen
    · rw [spl_length _ _ _ ho]
      show LRel m _ ((((spl cur.toList (p.base + o) vs').toArray).toList.drop p.base).take cs.length)
      rw [List.toList_toArray, spl_window _ _ _ _ _ (by rw [← hv.1]; exact ho) (by simpa using hlen)]
      exact hl.spl hv o)
  exact ⟨m, _, hrun, r1, r2⟩
theorem aStore_sound {m : Mp} {A A' : AH} {w : World} (hR : Rel P m A w) {T : TypeId} {x x' v v' : Value} (hx : VRel m x x') (hv : VRel m v v') (h : aStore P T x v A = some A') : SU P m A w (Instr.storeAt T x' v') A' := by
  unfold aStore at h
  split at h
  · rename_i b o
    split at h
    · rename_i cs E hb
      cases hx with
      | ptr _ _ p hp =>
        split at h
        · rename_i hc
          obtain ⟨hsz, hle, h1⟩ := hc
          injection h with h; subst h
          have hcs := hv.cells
          obtain ⟨m', w', r1, r2, r3⟩ := store_cells hR (o := o) hb hp hcs h1 (by simpa using hle)
          refine ⟨m', w', ?_, r2, r3⟩
          simp only [Instr.storeAt, Instr.sureAddr, pure_bind]
          unfold storeVar
          rw [run_bind _ _ _ (run_sz hsz w)]
          rw [if_neg (by have := hcs.1; simp at this; omega)]
          simpa using r1
        · cases h
    · cases h
  · cases h
/-! New variables. -/
theorem new_cells {m : Mp} {A : AH} {w : World} (hR : Rel P m A w) {vs : List Value} {vs' : Array Value} (T : TypeId) (hv : LRel m vs vs'.toList) :
    SV P m A w (do pure (.pointer (some (← newRow T vs')))) (.pointer (some ⟨A.next, 0, none⟩)) (A.alloc (.row vs T false)) := by
  obtain ⟨r1, r2⟩ := hR.alloc vs vs' T (by have := hv.1; simp at this; omega) (by rw [hv.1, List.take_length]; exact hv)
  refine ⟨_, _, .pointer (some ⟨w.heap.size, 0, none⟩), ?_, r1, ?_, r2⟩
  · rw [run_bind _ _ _ (run_newRow T vs' w)]; rfl
  · exact .ptr A.next 0 _ (Mp.upd_same _ _ _)
def aBox (T : TypeId) (v : Value) (A : AH) : Value × AH := (.pointer (some ⟨A.next, 0, none⟩), A.alloc (.row v.cells.toList T false))
theorem aBox_sound {m : Mp} {A : AH} {w : World} (hR : Rel P m A w) {T : TypeId} {v v' : Value} (hv : VRel m v v') : SV P m A w (Instr.box T v') (aBox T v A).1 (aBox T v A).2 :=
  new_cells hR T hv.cells
def aAlloc (P : Program) (T : TypeId) (A : AH) : Option (Value × AH) := (zeroOf P T).map fun z => aBox T z A
theorem aAlloc_sound {m : Mp} {A A' : AH} {w : World} (hR : Rel P m A w) {T : TypeId} {v : Value} (h : aAlloc P T A = some (v, A')) : SV P m A w (Instr.alloc T true (.tuple #[])) v A' := by
  simp only [aAlloc, Option.map_eq_some_iff] at h
  obtain ⟨z, hz, e⟩ := h
  simp only [aBox, Prod.mk.injEq] at e
  obtain ⟨rfl, rfl⟩ := e
  obtain ⟨m', w', v', r⟩ := new_cells hR T (plain_cells m z (zero_plain hz))
  refine ⟨m', w', v', ?_, r.2⟩
  unfold Instr.alloc
  rw [run_bind _ _ _ (run_zero hz w)]
  exact r.1
/-! Fields and elements. -/
def fieldOf (P : Program) (S : TypeId) (f : Nat) : Option (Nat × TypeId) :=
  match P.underlying S with
  | some (.struct fs) => (fs[f]?).map fun x => (x.offset, x.type)
  | _ => none
def aFieldAddr (P : Program) (S : TypeId) (x : Value) (f : Nat) : Option Value :=
  match x with
  | .pointer (some ⟨b, o, none⟩) =>
    match fieldOf P S f with
    | some (off, T) => if szOf P T = none ∨ szOf P T = some 0 then none else some (.pointer (some ⟨b, o + off, none⟩))
    | none => none
  | _ => none
theorem fieldOf_spec {S : TypeId} {f : Nat} {off : Nat} {T : TypeId} (h : fieldOf P S f = some (off, T)) : ∃ fs fd, P.underlying S = some (.struct fs) ∧ fs[f]? = some fd ∧ fd.offset = off ∧ fd.type = T := by
  unfold fieldOf at h
  split at h
  · rename_i fs hu
    simp only [Option.map_eq_some_iff, Prod.mk.injEq] at h
    obtain ⟨fd, h1, h2, h3⟩ := h
    exact ⟨fs, fd, hu, h1, h2, h3⟩
  · cases h
theorem aFieldAddr_sound {m : Mp} {A : AH} {w : World} (hR : Rel P m A w) {S : TypeId} {x x' v : Value} {f : Nat} (hx : VRel m x x') (h : aFieldAddr P S x f = some v) : SV P m A w (Instr.fieldAt S x' f) v A := by
  unfold aFieldAddr at h
  split at h
  · rename_i b o
    split at h
    · rename_i off T hf
      obtain ⟨fs, fd, hu, h1, rfl, rfl⟩ := fieldOf_spec hf
      split at h
      · cases h
      · rename_i hn
        injection h with h; subst h
        cases hx with
        | ptr _ _ p hp =>
          have hv := VRel.ptr (m := m) b (o + fd.offset) p hp
          refine SV.pure hR ?_ hv
          obtain ⟨n, hn2⟩ : ∃ n, szOf P fd.type = some n := by
            cases e : szOf P fd.type with
            | none => exact absurd (.inl e) hn
            | some n => exact ⟨n, rfl⟩
          have hn0 : n ≠ 0 := fun e => hn (.inr (by rw [hn2, e]))
          unfold Instr.fieldAt
          rw [run_bind _ _ _ (run_un hu w)]
          simp only [h1, Instr.sureAddr, pure_bind]
          rw [run_bind (x := (⟨p.b, p.base + (o + fd.offset), none⟩ : Addr)) (w' := w)]
          · rfl
          · unfold fieldPlace
            rw [run_bind _ _ _ (run_sz hn2 w), if_neg hn0, add_spot _ rfl, ← Nat.add_assoc]; rfl
    · cases h
  · cases h
def aPart (P : Program) (T : TypeId) (cs : List Value) (off : Nat) : Option Value :=
  match aggOf P T with
  | some true =>
    match szOf P T with
    | some n => some (.agg ((cs.drop off).take n).toArray)
    | none => none
  | some false => cs[off]?
  | none => none
theorem aPart_sound {m : Mp} {w : World} {T : TypeId} {cs cs' : Array Value} {off : Nat} {v : Value} (hc : LRel m cs.toList cs'.toList) (h : aPart P T cs.toList off = some v) :
    ∃ v', (part T cs' off).run P w = .ok v' w ∧ VRel m v v' := by
  unfold aPart at h
  unfold part
  split at h
  · rename_i ht
    split at h
    · rename_i n hn
      injection h with h; subst h
      refine ⟨.agg ((cs'.toList.drop off).take n).toArray, ?_, VRel.agg_iff.2 ((hc.drop off).take n)⟩
      rw [run_bind _ _ _ (run_agg ht w)]
      simp only [if_true]
      rw [run_bind _ _ _ (run_sz hn w), run_pure]
      congr 2
      apply Array.toList_inj.1
      simp [Array.toList_extract, List.extract_eq_take_drop]
    · cases h
  · rename_i ht
    obtain ⟨v', e, hv⟩ := hc.get h
    refine ⟨v', ?_, hv⟩
    rw [run_bind _ _ _ (run_agg ht w)]
    simp only [Bool.false_eq_true, if_false]
    rw [Array.getElem?_toList] at e
    rw [e]; rfl
  · cases h
def aField (P : Program) (S : TypeId) (x : Value) (f : Nat) : Option Value :=
  match x with
  | .agg cs => (fieldOf P S f).bind fun q => aPart P q.2 cs.toList q.1
  | _ => none
theorem aField_sound {m : Mp} {A : AH} {w : World} (hR : Rel P m A w) {S : TypeId} {x x' v : Value} {f : Nat} (hx : VRel m x x') (h : aField P S x f = some v) : SV P m A w (Instr.field S x' f) v A := by
  unfold aField at h
  split at h
  · rename_i cs
    rw [Option.bind_eq_some_iff] at h
    obtain ⟨⟨off, T⟩, hf, h⟩ := h
    obtain ⟨fs, fd, hu, h1, rfl, rfl⟩ := fieldOf_spec hf
    cases hx with
    | agg _ cs' e1 e2 =>
      obtain ⟨v', hr, hv⟩ := aPart_sound (w := w) (VRel.agg_iff.1 (.agg cs cs' e1 e2)) h
      refine SV.pure hR ?_ hv
      unfold Instr.field
      rw [run_bind _ _ _ (run_un hu w)]
      simp only [h1, asAgg, pure_bind]
      exact hr
  · cases h
def sliceElem (P : Program) (T : TypeId) : Option TypeId :=
  match P.underlying T with
  | some (.slice e) => some e
  | _ => none
def arrElem (P : Program) (T : TypeId) : Option (Nat × TypeId) :=
  match P.underlying T with
  | some (.array n e) => some (n, e)
  | _ => none
theorem sliceElem_spec {T e : TypeId} (h : sliceElem P T = some e) : P.underlying T = some (.slice e) := by
  unfold sliceElem at h; split at h
  · injection h with h; subst h; assumption
  · cases h
theorem arrElem_spec {T e : TypeId} {n : Nat} (h : arrElem P T = some (n, e)) : P.underlying T = some (.array n e) := by
  unfold arrElem at h; split at h
  · injection h with h; injection h with h1 h2; subst h1 h2; assumption
  · cases h
def aIndexAddr (P : Program) (T : TypeId) (x i : Value) : Option Value :=
  match x, i with
  | .slice (some ⟨b, o, none⟩) n _, .int _ i =>
    match (sliceElem P T).bind (szOf P) with
    | some s => if 0 ≤ i ∧ i < n then some (.pointer (some ⟨b, o + i.toNat * s, none⟩)) else none
    | none => none
  | .pointer (some ⟨b, o, none⟩), .int _ i =>
    match arrElem P T with
    | some (n, e) =>
      match szOf P e with
      | some s => if 0 ≤ i ∧ i < n then some (.pointer (some ⟨b, o + i.toNat * s, none⟩)) else none
      | none => none
    | none => none
  | _, _ => none
theorem aIndexAddr_sound {m : Mp} {A : AH} {w : World} (hR : Rel P m A w) {T : TypeId} {x x' i i' v : Value} (hx : VRel m x x') (hi : VRel m i i') (h : aIndexAddr P T x i = some v) : SV P m A w (Instr.indexAt T x' i') v A := by
  unfold aIndexAddr at h
  split at h
  · rename_i b o n c k i
    split at h
    · rename_i s hs
      rw [Option.bind_eq_some_iff] at hs
      obtain ⟨e, he, hs⟩ := hs
      have hu := sliceElem_spec he
      split at h
      · rename_i hb
        injection h with h; subst h
        cases hi
        have fin : ∀ p : Pl, m b = some p → ∀ c', SV P m A w (Instr.indexAt T (.slice (some ⟨p.b, p.base + o, none⟩) n c') (.int k i)) (.pointer (some ⟨b, o + i.toNat * s, none⟩)) A := by
          intro p hp c'
          refine SV.pure hR ?_ (VRel.ptr (m := m) b (o + i.toNat * s) p hp)
          unfold Instr.indexAt
          simp only [asIntOf, pure_bind]
          rw [run_bind _ _ _ (run_un hu w)]
          simp only []
          rw [run_bind _ _ _ (run_un hu w)]
          simp only [if_pos hb]
          rw [run_bind _ _ _ (run_sz hs w), add_spot _ rfl, Nat.add_assoc]; rfl
        cases hx with
        | slice _ _ _ _ p hp hc => exact fin p hp _
        | sliceU _ _ _ _ p hp hn ht _ => exact fin p hp _
        | sliceE _ _ _ p hp ht => omega
        | slice0 _ _ _ p hp => omega
      · cases h
    · cases h
  · rename_i b o k i
    split at h
    · rename_i n e he
      have hu := arrElem_spec he
      split at h
      · rename_i s hs
        split at h
        · rename_i hb
          injection h with h; subst h
          cases hi
          cases hx with
          | ptr _ _ p hp =>
            refine SV.pure hR ?_ (VRel.ptr (m := m) b (o + i.toNat * s) p hp)
            unfold Instr.indexAt
            simp only [asIntOf, pure_bind]
            rw [run_bind _ _ _ (run_un hu w)]
            simp only [Instr.sureAddr, pure_bind]
            rw [run_bind _ _ _ (run_un hu w)]
            simp only [if_pos hb]
            rw [run_bind _ _ _ (run_sz hs w), add_spot _ rfl, Nat.add_assoc]; rfl
        · cases h
      · cases h
    · cases h
  · cases h
end Go.AI
/- AIe: equality, numbers, slices, lengths. -/
namespace Go.AI
open Go Go.RowKit
variable {P : Program}
/-! Equality. -/
def aEqAll (f : Field → Option Bool) : List Field → Option Bool
  | [] => some true
  | x :: xs => if x.name ≠ "_" then (f x).bind fun b => if b then aEqAll f xs else some false else aEqAll f xs
def aEqItems (f : Nat → Option Bool) : List Nat → Option Bool
  | [] => some true
  | i :: is => (f i).bind fun b => if b then aEqItems f is else some false
def AH.wrow (A : AH) (b : Nat) : Bool := match A.get b with | some (.row _ _ false) => true | _ => false
def aEq (P : Program) (A : AH) : Nat → TypeId → Value → Value → Option Bool
  | 0, _, _, _ => none
  | k + 1, t, x, y =>
    match P.underlying t with
    | some .bool => match x, y with | .bool a, .bool b => some (a == b) | _, _ => none
    | some (.int _) => match x, y with | .int j a, .int j' b => if j = j' then some (a == b) else none | _, _ => none
    | some .string => match x, y with | .string a, .string b => some (a == b) | _, _ => none
    | some (.pointer e) =>
      match x, y with
      | .pointer none, .pointer b => some b.isNone
      | .pointer _, .pointer none => some false
      | .pointer (some ⟨b, o, none⟩), .pointer (some ⟨c, q, none⟩) =>
        match szOf P e with
        | some (_ + 1) => if A.wrow b && A.wrow c then some (b == c && o == q) else if b = c then some (o == q) else none
        | _ => none
      | _, _ => none
    | some (.slice _) =>
      match x, y with
      | .slice none _ _, .slice b _ _ => some b.isNone
      | .slice _ _ _, .slice none _ _ => some false
      | _, _ => none
    | some (.map _ _) =>
      match x, y with
      | .map none, .map b => some b.isNone
      | .map _, .map none => some false
      | _, _ => none
    | some (.func _ _ _) =>
      match x, y with
      | .nilFunc, .nilFunc => some true
      | .nilFunc, .func _ _ _ => some false
      | .func _ _ _, .nilFunc => some false
      | _, _ => none
    | some (.struct fs) =>
      match x, y with
      | .agg xs, .agg ys =>
        if P.stoodInHeld t = false then aEqAll (fun f => (aPart P f.type xs.toList f.offset).bind fun a => (aPart P f.type ys.toList f.offset).bind fun b => aEq P A k f.type a b) fs.toList else none
      | _, _ => none
    | some (.array n e) =>
      match x, y with
      | .agg xs, .agg ys =>
        match szOf P e with
        | some s => aEqItems (fun i => (aPart P e xs.toList (i * s)).bind fun a => (aPart P e ys.toList (i * s)).bind fun b => aEq P A k e a b) (List.range n)
        | none => none
      | _, _ => none
    | _ => none
theorem eqAll_sound {m : Mp} {w : World} {xs ys xs' ys' : Array Value} (hx : LRel m xs.toList xs'.toList) (hy : LRel m ys.toList ys'.toList) (g : TypeId → Value → Value → Option Bool) (d : Nat)
    (hg : ∀ t a b a' b' r, VRel m a a' → VRel m b b' → g t a b = some r → (Op.equalIn d t a' b').run P w = .ok r w) :
    ∀ (fs : List Field) (r : Bool), aEqAll (fun f => (aPart P f.type xs.toList f.offset).bind fun a => (aPart P f.type ys.toList f.offset).bind fun b => g f.type a b) fs = some r → (Op.eqFields d xs' ys' fs).run P w = .ok r w := by
  intro fs
  induction fs with
  | nil => intro r h; injection h with h; subst h; rfl
  | cons f fs ih =>
    intro r h
    simp only [aEqAll] at h
    simp only [Op.eqFields]
    split at h
    · rename_i hn
      rw [if_pos hn]
      rw [Option.bind_eq_some_iff] at h
      obtain ⟨b, hb, h⟩ := h
      rw [Option.bind_eq_some_iff] at hb
      obtain ⟨va, ha, hb⟩ := hb
      rw [Option.bind_eq_some_iff] at hb
      obtain ⟨vb, hb', hb⟩ := hb
      obtain ⟨va', ra, hva⟩ := aPart_sound (w := w) hx ha
      obtain ⟨vb', rb, hvb⟩ := aPart_sound (w := w) hy hb'
      rw [run_bind _ _ _ ra, run_bind _ _ _ rb, run_bind _ _ _ (hg _ _ _ _ _ _ hva hvb hb)]
      cases b with
      | true => simp only [if_true] at h; simpa using ih r h
      | false => simp only [Bool.false_eq_true, if_false, Option.some.injEq] at h; subst h; rfl
    · rename_i hn
      rw [if_neg hn]
      exact ih r h
theorem eqItems_sound {m : Mp} {w : World} {xs ys xs' ys' : Array Value} (hx : LRel m xs.toList xs'.toList) (hy : LRel m ys.toList ys'.toList) (g : Value → Value → Option Bool) (d : Nat) (e : TypeId) (s : Nat)
    (hg : ∀ a b a' b' r, VRel m a a' → VRel m b b' → g a b = some r → (Op.equalIn d e a' b').run P w = .ok r w) :
    ∀ (is : List Nat) (r : Bool), aEqItems (fun i => (aPart P e xs.toList (i * s)).bind fun a => (aPart P e ys.toList (i * s)).bind fun b => g a b) is = some r → (Op.eqItems d e s xs' ys' is).run P w = .ok r w := by
  intro fs
  induction fs with
  | nil => intro r h; injection h with h; subst h; rfl
  | cons f fs ih =>
    intro r h
    simp only [aEqItems] at h
    simp only [Op.eqItems]
    rw [Option.bind_eq_some_iff] at h
    obtain ⟨b, hb, h⟩ := h
    rw [Option.bind_eq_some_iff] at hb
    obtain ⟨va, ha, hb⟩ := hb
    rw [Option.bind_eq_some_iff] at hb
    obtain ⟨vb, hb', hb⟩ := hb
    obtain ⟨va', ra, hva⟩ := aPart_sound (w := w) hx ha
    obtain ⟨vb', rb, hvb⟩ := aPart_sound (w := w) hy hb'
    rw [run_bind _ _ _ ra, run_bind _ _ _ rb, run_bind _ _ _ (hg _ _ _ _ _ hva hvb hb)]
    cases b with
    | true => simp only [if_true] at h; simpa using ih r h
    | false => simp only [Bool.false_eq_true, if_false, Option.some.injEq] at h; subst h; rfl
theorem wrow_spec {A : AH} {b : Nat} (h : A.wrow b = true) : ∃ cs E, A.get b = some (.row cs E false) := by
  unfold AH.wrow at h
  split at h
  · exact ⟨_, _, ‹_›⟩
  · cases h
theorem aEq_sound {m : Mp} {A : AH} {w : World} (hR : Rel P m A w) : ∀ (k : Nat) (t : TypeId) (x y x' y' : Value) (r : Bool), VRel m x x' → VRel m y y' → aEq P A k t x y = some r → ∀ d, k ≤ d → (Op.equalIn d t x' y').run P w = .ok r w := by
  intro k
  induction k with
  | zero => intro t x y x' y' r _ _ h; cases h
  | succ k ih =>
    intro t x y x' y' r hx hy h d hd
    obtain ⟨d, rfl⟩ : ∃ j, d = j + 1 := ⟨d - 1, by omega⟩
    simp only [aEq] at h
    split at h
    · rename_i hu
      split at h
      · injection h with h; subst h; cases hx; cases hy
        unfold Op.equalIn; rw [run_bind _ _ _ (run_un hu w)]; rfl
      · cases h
    · rename_i kk hu
      split at h
      · split at h
        · injection h with h; subst h; cases hx; cases hy
          unfold Op.equalIn; rw [run_bind _ _ _ (run_un hu w)]; simp only [if_pos ‹_›]; rfl
        · cases h
      · cases h
    · rename_i hu
      split at h
      · injection h with h; subst h; cases hx; cases hy
        unfold Op.equalIn; rw [run_bind _ _ _ (run_un hu w)]; rfl
      · cases h
    · rename_i e hu
      split at h
      · injection h with h; subst h; cases hx
        cases hy with
        | pnil => unfold Op.equalIn; rw [run_bind _ _ _ (run_un hu w)]; rfl
        | ptr b o p hp => unfold Op.equalIn; rw [run_bind _ _ _ (run_un hu w)]; rfl
      · rename_i hne
        injection h with h; subst h; cases hy
        cases hx with
        | pnil => first | exact (hne rfl).elim | exact (hne none).elim
        | ptr b o p hp => unfold Op.equalIn; rw [run_bind _ _ _ (run_un hu w)]; rfl
      · rename_i b o c q
        split at h
        · rename_i n hs
          have hsz : (sizeOf e).run P w = .ok (n + 1) w := run_sz hs w
          cases hx with
          | ptr _ _ p hp =>
            cases hy with
            | ptr _ _ p' hp' =>
              unfold Op.equalIn; rw [run_bind _ _ _ (run_un hu w)]
              simp only []
              rw [run_bind _ _ _ hsz]
              simp only [ne_eq, Nat.add_eq_zero_iff, Nat.one_ne_zero, and_false, not_false_eq_true, if_true]
              have same : b = c → (sameAddr ⟨p.b, p.base + o, none⟩ ⟨p'.b, p'.base + q, none⟩).run P w = .ok (o == q) w := by
                intro e; subst e
                rw [hp] at hp'; injection hp' with hp'; subst hp'
                have e1 : sameAddr ⟨p.b, p.base + o, none⟩ ⟨p.b, p.base + q, none⟩ = pure ((⟨p.b, p.base + o, none⟩ : Addr) == ⟨p.b, p.base + q, none⟩) := by
                  unfold sameAddr; rw [if_pos (by simp)]
                rw [e1, run_pure]
                congr 1
                by_cases e : o = q
                · subst e; simp
                · have h1 : ((⟨p.b, p.base + o, none⟩ : Addr) == ⟨p.b, p.base + q, none⟩) = false := by
                    rw [beq_eq_false_iff_ne]; intro h'; injection h' with _ h2 _; omega
                  have h2 : (o == q) = false := by rw [beq_eq_false_iff_ne]; exact e
                  rw [h1, h2]
              split at h
              · rename_i hw
                injection h with h; subst h
                simp only [Bool.and_eq_true] at hw
                by_cases e : b = c
                · rw [same e]; simp [e]
                · obtain ⟨cs1, E1, hb1⟩ := wrow_spec hw.1
                  obtain ⟨cs2, E2, hb2⟩ := wrow_spec hw.2
                  obtain ⟨cur1, fr1, g1, _, _, f1, _⟩ := held_row hR hb1 hp
                  obtain ⟨cur2, fr2, g2, _, _, f2, _⟩ := held_row hR hb2 hp'
                  obtain rfl := f1 rfl
                  obtain rfl := f2 rfl
                  have hne : p.b ≠ p'.b := fun e' => e (hR.apart b c p p' _ _ hb1 hb2 (.inl rfl) hp hp' e')
                  rw [run_sameAddr_other w (by simp [hne]) g1 g2]
                  simp [e]
              · split at h
                · injection h with h; subst h; exact same ‹_›
                · cases h
        · cases h
      · cases h
    · rename_i e hu
      split at h
      · injection h with h; subst h; cases hx
        cases hy <;> (unfold Op.equalIn; rw [run_bind _ _ _ (run_un hu w)]; rfl)
      · rename_i hne
        injection h with h; subst h; cases hy
        cases hx with
        | snil => first | exact (hne rfl).elim | exact (hne none).elim | exact (hne 0 0).elim
        | slice => unfold Op.equalIn; rw [run_bind _ _ _ (run_un hu w)]; rfl
        | sliceU => unfold Op.equalIn; rw [run_bind _ _ _ (run_un hu w)]; rfl
        | sliceE => unfold Op.equalIn; rw [run_bind _ _ _ (run_un hu w)]; rfl
        | slice0 => unfold Op.equalIn; rw [run_bind _ _ _ (run_un hu w)]; rfl
      · cases h
    · rename_i e e2 hu
      split at h
      · injection h with h; subst h; cases hx
        cases hy <;> (unfold Op.equalIn; rw [run_bind _ _ _ (run_un hu w)]; rfl)
      · rename_i hne
        injection h with h; subst h; cases hy
        cases hx with
        | mnil => first | exact (hne rfl).elim | exact (hne none).elim
        | map => unfold Op.equalIn; rw [run_bind _ _ _ (run_un hu w)]; rfl
      · cases h
    · rename_i hu
      split at h
      · injection h with h; subst h; cases hx; cases hy
        unfold Op.equalIn; rw [run_bind _ _ _ (run_un hu w)]; rfl
      · injection h with h; subst h; cases hx; cases hy
        unfold Op.equalIn; rw [run_bind _ _ _ (run_un hu w)]; rfl
      · injection h with h; subst h; cases hx; cases hy
        unfold Op.equalIn; rw [run_bind _ _ _ (run_un hu w)]; rfl
      · cases h
    · rename_i fs hu
      split at h
      · rename_i xs ys
        split at h
        · rename_i hst
          cases hx with
          | agg _ xs' a1 a2 =>
            cases hy with
            | agg _ ys' b1 b2 =>
              have hf : P.fieldsOf t = fs := by simp [Program.fieldsOf, hu]
              rw [run_equalIn_struct w d t xs' ys' (by rw [hf]; exact hu) hst, hf]
              exact eqAll_sound (VRel.agg_iff.1 (.agg xs xs' a1 a2)) (VRel.agg_iff.1 (.agg ys ys' b1 b2)) (aEq P A k) d (fun t a b a' b' r ha hb he => ih t a b a' b' r ha hb he d (by omega)) fs.toList r h
        · cases h
      · cases h
    · rename_i n e hu
      split at h
      · rename_i xs ys
        split at h
        · rename_i s hs
          cases hx with
          | agg _ xs' a1 a2 =>
            cases hy with
            | agg _ ys' b1 b2 =>
              simp only [szOf, Option.map_eq_some_iff] at hs
              obtain ⟨i, hi, rfl⟩ := hs
              have hc : P.cellsOf e = i.size := by simp [Program.cellsOf, hi]
              rw [run_equalIn_array w d xs' ys' hu hi, hc]
              exact eqItems_sound (VRel.agg_iff.1 (.agg xs xs' a1 a2)) (VRel.agg_iff.1 (.agg ys ys' b1 b2)) (aEq P A k e) d e i.size (fun a b a' b' r ha hb he => ih e a b a' b' r ha hb he d (by omega)) (List.range n) r h
        · cases h
      · cases h
    · cases h
end Go.AI
/- AIf: numbers, strings, conversions, slices, new rows. -/
namespace Go.AI
open Go Go.RowKit
variable {P : Program}
def intBin (op : BinOp) (k : IntKind) (a b : Int) : Option Value :=
  match op with
  | .add => some (.int k (k.wrap (a + b)))
  | .sub => some (.int k (k.wrap (a - b)))
  | .mul => some (.int k (k.wrap (a * b)))
  | .quo => if b = 0 then none else some (.int k (k.wrap (a.tdiv b)))
  | .rem => if b = 0 then none else some (.int k (a.tmod b))
  | .and => some (.int k (k.wrap (BitVec.ofInt k.bits a &&& BitVec.ofInt k.bits b).toNat))
  | .or => some (.int k (k.wrap (BitVec.ofInt k.bits a ||| BitVec.ofInt k.bits b).toNat))
  | .xor => some (.int k (k.wrap (BitVec.ofInt k.bits a ^^^ BitVec.ofInt k.bits b).toNat))
  | .andNot => some (.int k (k.wrap (BitVec.ofInt k.bits a &&& ~~~ BitVec.ofInt k.bits b).toNat))
  | .eql => some (.bool (a == b))
  | .neq => some (.bool (a != b))
  | .lss => some (.bool (decide (a < b)))
  | .leq => some (.bool (decide (a ≤ b)))
  | .gtr => some (.bool (decide (a > b)))
  | .geq => some (.bool (decide (a ≥ b)))
  | .shl => if b < 0 then none else some (.int k (k.wrap (a * 2 ^ (min b.toNat k.bits))))
  | .shr => if b < 0 then none else some (.int k (a.fdiv (2 ^ (min b.toNat k.bits))))
def strBin (op : BinOp) (a b : ByteArray) : Option Value :=
  match op with
  | .add => if a.size + b.size ≤ 4611686018427387904 then some (.string (a ++ b)) else none
  | .eql => some (.bool (a.toList == b.toList))
  | .neq => some (.bool !(a.toList == b.toList))
  | _ => none
def isShift : BinOp → Bool
  | .shl | .shr => true
  | _ => false
def aBin (P : Program) (A : AH) (op : BinOp) (T : TypeId) (x y : Value) : Option Value :=
  match x, y with
  | .int k a, .int k' b => if k = k' ∨ isShift op = true then intBin op k a b else none
  | .string a, .string b => strBin op a b
  | .agg a, .agg b =>
    if P.eqGuardType P.depth T = false then
      match op with
      | .eql => (aEq P A 20 T (.agg a) (.agg b)).map .bool
      | .neq => (aEq P A 20 T (.agg a) (.agg b)).map fun r => .bool !r
      | _ => none
    else none
  | .bool a, .bool b =>
    match op with
    | .eql => (aEq P A 20 T (.bool a) (.bool b)).map .bool
    | .neq => (aEq P A 20 T (.bool a) (.bool b)).map fun r => .bool !r
    | _ => none
  | .pointer a, .pointer b =>
    match op with
    | .eql => (aEq P A 20 T (.pointer a) (.pointer b)).map .bool
    | .neq => (aEq P A 20 T (.pointer a) (.pointer b)).map fun r => .bool !r
    | _ => none
  | .slice a n c, .slice b n' c' =>
    match op with
    | .eql => (aEq P A 20 T (.slice a n c) (.slice b n' c')).map .bool
    | .neq => (aEq P A 20 T (.slice a n c) (.slice b n' c')).map fun r => .bool !r
    | _ => none
  | .map a, .map b =>
    match op with
    | .eql => (aEq P A 20 T (.map a) (.map b)).map .bool
    | .neq => (aEq P A 20 T (.map a) (.map b)).map fun r => .bool !r
    | _ => none
  | _, _ => none
theorem run_guard {T : TypeId} {op : BinOp} {x y : Operand} {a b : Value} (w : World) (h1 : a ≠ .nilIface) (h2 : ∀ l l', a = .agg l → b = .agg l' → P.eqGuardType P.depth T = false) :
    (eqGuard op T x y a b).run P w = .ok () w := by
  have key : ∀ l l', P.eqGuardType P.depth T = false → ((do
      if !(← program).eqGuardType (← program).depth T then return
      if ← Op.eqGuardIn Op.maxDepth T (.agg l) (.agg l') then unsupported (.noEntry "binop/eql: two nil values of an interface type with methods, in a part of a struct or an array")) : Sem Unit).run P w = .ok () w := by
    intro l l' h
    rw [run_bind _ _ _ (run_program w), run_bind _ _ _ (run_program w)]
    simp only [h]; rfl
  cases op <;> (try rfl) <;> (cases a <;> (try rfl)) <;> (try exact absurd rfl h1) <;> (cases b <;> (try rfl))
  · exact key _ _ (h2 _ _ rfl rfl)
  · exact key _ _ (h2 _ _ rfl rfl)
theorem aBin_sound {m : Mp} {A : AH} {w : World} (hR : Rel P m A w) {op : BinOp} {T : TypeId} {xo yo : Operand} {x y x' y' v : Value} (hx : VRel m x x') (hy : VRel m y y') (h : aBin P A op T x y = some v) :
    SV P m A w (do eqGuard op T xo yo x' y'; binOp op T x' y') v A := by
  have eqc : ∀ {x y x' y' : Value}, VRel m x x' → VRel m y y' → (∀ k n, x' ≠ .int k n) → (∀ k n, x' ≠ .float k n) → (∀ k n q, x' ≠ .complex k n q) → (∀ s, x' ≠ .string s) → ∀ r, aEq P A 20 T x y = some r →
      (binOp .eql T x' y').run P w = .ok (.bool r) w ∧ (binOp .neq T x' y').run P w = .ok (.bool !r) w := by
    intro x y x' y' hx hy n1 n2 n3 n4 r h
    have := aEq_sound hR 20 T x y x' y' r hx hy h 10000 (by omega)
    constructor
    · unfold binOp
      split <;> first
        | (exact absurd rfl (n1 _ _))
        | (exact absurd rfl (n2 _ _))
        | (exact absurd rfl (n3 _ _ _))
        | (exact absurd rfl (n4 _))
        | (rw [run_bind _ _ _ (show (Op.equal _ _ _).run P w = _ from this)]; rfl)
        | (simp_all; done)
        | skip
    · unfold binOp
      split <;> first
        | (exact absurd rfl (n1 _ _))
        | (exact absurd rfl (n2 _ _))
        | (exact absurd rfl (n3 _ _ _))
        | (exact absurd rfl (n4 _))
        | (rw [run_bind _ _ _ (show (Op.equal _ _ _).run P w = _ from this)]; rfl)
        | (simp_all; done)
        | skip
  unfold aBin at h
  split at h
  · rename_i k a k' b
    cases hx; cases hy
    have hg : (eqGuard op T xo yo (.int k a) (.int k' b)).run P w = .ok () w := run_guard w (by simp) (fun l l' e => by cases e)
    split at h
    · rename_i hk
      cases op <;> simp only [intBin, isShift, Bool.false_eq_true, or_false, or_true, Option.some.injEq] at h hk <;> (try subst hk) <;> (try subst h)
      all_goals first
        | (refine SV.pure hR (v' := _) (by rw [run_bind _ _ _ hg]; simp only [binOp, ne_eq, not_true_eq_false, if_false, Op.intArith, Op.intBits, Op.intCmp]; rfl) (by constructor); done)
        | (split at h
           · cases h
           · injection h with h; subst h
             refine SV.pure hR (v' := _) (by rw [run_bind _ _ _ hg]; simp only [binOp, ne_eq, not_true_eq_false, if_false, Op.intDiv, Op.shift, if_neg ‹_›]; rfl) (by constructor))
    · cases h
  · rename_i a b
    cases hx; cases hy
    have hg : (eqGuard op T xo yo (.string a) (.string b)).run P w = .ok () w := run_guard w (by simp) (fun l l' e => by cases e)
    cases op <;> simp only [strBin, Option.some.injEq] at h <;> try (cases h; done)
    · split at h
      · injection h with h; subst h
        refine SV.pure hR (v' := .string (a ++ b)) (by
          rw [run_bind _ _ _ hg]; simp only [binOp, Op.stringOp]
          rw [if_neg (by simp [IntKind.max, IntKind.bits]; omega)]; rfl) (.string _)
      · cases h
    · subst h; exact SV.pure hR (by rw [run_bind _ _ _ hg]; rfl) (.bool _)
    · subst h; exact SV.pure hR (by rw [run_bind _ _ _ hg]; rfl) (.bool _)
  · rename_i a b
    split at h
    · rename_i hgt
      cases hx with
      | agg _ a' e1 e2 =>
        cases hy with
        | agg _ b' e3 e4 =>
          have hg : (eqGuard op T xo yo (.agg a') (.agg b')).run P w = .ok () w := run_guard w (by simp) (fun l l' _ _ => hgt)
          split at h
          · simp only [Option.map_eq_some_iff] at h; obtain ⟨r, hr, rfl⟩ := h
            exact SV.pure hR (by rw [run_bind _ _ _ hg]; exact (eqc (.agg a a' e1 e2) (.agg b b' e3 e4) (by simp) (by simp) (by simp) (by simp) r hr).1) (.bool r)
          · simp only [Option.map_eq_some_iff] at h; obtain ⟨r, hr, rfl⟩ := h
            exact SV.pure hR (by rw [run_bind _ _ _ hg]; exact (eqc (.agg a a' e1 e2) (.agg b b' e3 e4) (by simp) (by simp) (by simp) (by simp) r hr).2) (.bool !r)
          · cases h
    · cases h
  · rename_i a b
    cases hx; cases hy
    have hg : (eqGuard op T xo yo (.bool a) (.bool b)).run P w = .ok () w := run_guard w (by simp) (fun l l' e => by cases e)
    split at h
    · simp only [Option.map_eq_some_iff] at h; obtain ⟨r, hr, rfl⟩ := h
      exact SV.pure hR (by rw [run_bind _ _ _ hg]; exact (eqc (.bool a) (.bool b) (by simp) (by simp) (by simp) (by simp) r hr).1) (.bool r)
    · simp only [Option.map_eq_some_iff] at h; obtain ⟨r, hr, rfl⟩ := h
      exact SV.pure hR (by rw [run_bind _ _ _ hg]; exact (eqc (.bool a) (.bool b) (by simp) (by simp) (by simp) (by simp) r hr).2) (.bool !r)
    · cases h
  · have hp : ∃ a' b', x' = .pointer a' ∧ y' = .pointer b' := by cases hx <;> cases hy <;> exact ⟨_, _, rfl, rfl⟩
    obtain ⟨a', b', rfl, rfl⟩ := hp
    have hg : (eqGuard op T xo yo (.pointer a') (.pointer b')).run P w = .ok () w := run_guard w (by simp) (fun l l' e => by cases e)
    split at h
    · simp only [Option.map_eq_some_iff] at h; obtain ⟨r, hr, rfl⟩ := h
      exact SV.pure hR (by rw [run_bind _ _ _ hg]; exact (eqc hx hy (by simp) (by simp) (by simp) (by simp) r hr).1) (.bool r)
    · simp only [Option.map_eq_some_iff] at h; obtain ⟨r, hr, rfl⟩ := h
      exact SV.pure hR (by rw [run_bind _ _ _ hg]; exact (eqc hx hy (by simp) (by simp) (by simp) (by simp) r hr).2) (.bool !r)
    · cases h
  · have hp : ∃ a' n1 c1 b' n2 c2, x' = .slice a' n1 c1 ∧ y' = .slice b' n2 c2 := by cases hx <;> cases hy <;> exact ⟨_, _, _, _, _, _, rfl, rfl⟩
    obtain ⟨a', n1, c1, b', n2, c2, rfl, rfl⟩ := hp
    have hg : (eqGuard op T xo yo (.slice a' n1 c1) (.slice b' n2 c2)).run P w = .ok () w := run_guard w (by simp) (fun l l' e => by cases e)
    split at h
    · simp only [Option.map_eq_some_iff] at h; obtain ⟨r, hr, rfl⟩ := h
      exact SV.pure hR (by rw [run_bind _ _ _ hg]; exact (eqc hx hy (by simp) (by simp) (by simp) (by simp) r hr).1) (.bool r)
    · simp only [Option.map_eq_some_iff] at h; obtain ⟨r, hr, rfl⟩ := h
      exact SV.pure hR (by rw [run_bind _ _ _ hg]; exact (eqc hx hy (by simp) (by simp) (by simp) (by simp) r hr).2) (.bool !r)
    · cases h
  · have hp : ∃ a' b', x' = .map a' ∧ y' = .map b' := by cases hx <;> cases hy <;> exact ⟨_, _, rfl, rfl⟩
    obtain ⟨a', b', rfl, rfl⟩ := hp
    have hg : (eqGuard op T xo yo (.map a') (.map b')).run P w = .ok () w := run_guard w (by simp) (fun l l' e => by cases e)
    split at h
    · simp only [Option.map_eq_some_iff] at h; obtain ⟨r, hr, rfl⟩ := h
      exact SV.pure hR (by rw [run_bind _ _ _ hg]; exact (eqc hx hy (by simp) (by simp) (by simp) (by simp) r hr).1) (.bool r)
    · simp only [Option.map_eq_some_iff] at h; obtain ⟨r, hr, rfl⟩ := h
      exact SV.pure hR (by rw [run_bind _ _ _ hg]; exact (eqc hx hy (by simp) (by simp) (by simp) (by simp) r hr).2) (.bool !r)
    · cases h
  · cases h
def aUn (op : UnOp) (x : Value) : Option Value :=
  match op, x with
  | .not, .bool b => some (.bool !b)
  | .neg, .int k n => some (.int k (k.wrap (0 - n)))
  | .xor, .int k n => intBin .xor k (if k.signed then -1 else k.max) n
  | _, _ => none
theorem aUn_sound {m : Mp} {A : AH} {w : World} (hR : Rel P m A w) {op : UnOp} {x x' v : Value} (hx : VRel m x x') (h : aUn op x = some v) : SV P m A w (Op.unary op x') v A := by
  unfold aUn at h
  split at h <;> first | cases h | skip
  · cases hx; exact SV.pure hR rfl (.bool _)
  · cases hx; exact SV.pure hR rfl (.int _ _)
  · cases hx; exact SV.pure hR rfl (.int _ _)
def intKind (P : Program) (T : TypeId) : Option IntKind := match P.underlying T with | some (.int k) => some k | _ => none
def aConv (P : Program) (src dst : TypeId) (x : Value) : Option Value :=
  match x with
  | .int _ n => if (P.underlying src).isSome then (intKind P dst).map fun k => .int k (k.wrap n) else none
  | _ => none
theorem aConv_sound {m : Mp} {A : AH} {w : World} (hR : Rel P m A w) {src dst : TypeId} {x x' v : Value} (hx : VRel m x x') (h : aConv P src dst x = some v) : SV P m A w (convert src dst x') v A := by
  unfold aConv at h
  split at h
  · split at h
    · rename_i hs
      simp only [Option.map_eq_some_iff] at h
      obtain ⟨k, hk, rfl⟩ := h
      cases hx
      obtain ⟨d, hd⟩ := Option.isSome_iff_exists.1 hs
      have hu : P.underlying dst = some (.int k) := by
        unfold intKind at hk; split at hk
        · injection hk with hk; subst hk; assumption
        · cases hk
      refine SV.pure hR ?_ (.int k _)
      unfold convert
      rw [run_bind _ _ _ (run_un hd w), run_bind _ _ _ (run_un hu w)]
      simp only [Conv.intToInt]
      rfl
    · cases h
  · cases h
end Go.AI
/- AIg: slices cut, rows made, structs built. -/
namespace Go.AI
open Go Go.RowKit
variable {P : Program}
/-! A cut. -/
def aBnd (x : Value) (y : Nat) : Option Nat :=
  match x with
  | .int _ i => if 0 ≤ i ∧ i ≤ y then some i.toNat else none
  | _ => none
theorem aBnd_sound {m : Mp} {x x' : Value} {y y' l : Nat} {code : Go.BoundsCode} {w : World} (hx : VRel m x x') (h : aBnd x y = some l) (hy : y ≤ y') : (Instr.sliceBound x' y' code).run P w = .ok l w ∧ l ≤ y := by
  unfold aBnd at h
  split at h
  · split at h
    · rename_i hi
      injection h with h; subst h
      cases hx
      constructor
      · unfold Instr.sliceBound
        simp only [asIntOf, pure_bind]
        rw [if_pos ⟨hi.1, by omega⟩]; rfl
      · omega
    · cases h
  · cases h
/-- An optional bound, with what stands where there is none. -/
def aBndO (x : Option Value) (y d : Nat) : Option Nat :=
  match x with
  | some v => aBnd v y
  | none => some d
def topOf (n c : Nat) : Nat := if c = UNK then n else c
def aBounds (n c : Nat) (lo hi mx : Option Value) : Option (Nat × Nat × Option Nat) :=
  match mx with
  | some v =>
    match hi with
    | some u => (aBnd v (topOf n c)).bind fun k => (aBnd u k).bind fun h => (aBndO lo h 0).map fun l => (l, h, some k)
    | none => none
  | none => (aBndO hi (topOf n c) n).bind fun h => (aBndO lo h 0).map fun l => (l, h, none)
def ORel (m : Mp) (x x' : Option Value) : Prop := (x = none ∧ x' = none) ∨ ∃ v v', x = some v ∧ x' = some v' ∧ VRel m v v'
theorem low_sound {m : Mp} {lo lo' : Option Value} {h l : Nat} {code : Go.BoundsCode} {w : World} {α : Type} (hl : ORel m lo lo') (e : aBndO lo h 0 = some l) (f : Nat → Sem α) :
    (match (motive := Option Value → Sem α) lo' with | some v => (do let l ← Instr.sliceBound v h code; f l) | none => f 0).run P w = (f l).run P w ∧ l ≤ h := by
  rcases hl with ⟨rfl, rfl⟩ | ⟨v, v', rfl, rfl, hv⟩
  · simp only [aBndO, Option.some.injEq] at e; subst e; exact ⟨rfl, Nat.zero_le _⟩
  · have := aBnd_sound (P := P) (w := w) (code := code) hv e (Nat.le_refl _)
    exact ⟨by simp only []; rw [run_bind _ _ _ this.1], this.2⟩
theorem aBounds_sound {m : Mp} {w : World} {b : Bool} {n c c' : Nat} {lo hi mx lo' hi' mx' : Option Value} {l h : Nat} {k : Option Nat} (hlo : ORel m lo lo') (hhi : ORel m hi hi') (hmx : ORel m mx mx') (htop : topOf n c ≤ c') (hn : n ≤ topOf n c)
    (e : aBounds n c lo hi mx = some (l, h, k)) : (Instr.sliceBounds b n c' lo' hi' mx').run P w = .ok (l, h, k.getD c') w ∧ l ≤ h ∧ (k = none → h ≤ topOf n c) ∧ (∀ j, k = some j → h ≤ j ∧ j ≤ topOf n c) := by
  unfold aBounds at e
  rcases hmx with ⟨rfl, rfl⟩ | ⟨v, v', rfl, rfl, hv⟩
  · simp only [] at e
    rw [Option.bind_eq_some_iff] at e
    obtain ⟨h0, eh, e⟩ := e
    simp only [Option.map_eq_some_iff, Prod.mk.injEq] at e
    obtain ⟨l0, el, rfl, rfl, rfl⟩ := e
    rcases hhi with ⟨rfl, rfl⟩ | ⟨u, u', rfl, rfl, hu⟩
    · simp only [aBndO, Option.some.injEq] at eh; subst eh
      have hl := (low_sound (P := P) (w := w) (code := .sliceB) hlo el (fun l => pure l)).2
      refine ⟨?_, hl, fun _ => hn, fun j hj => by cases hj⟩
      unfold Instr.sliceBounds
      simp only [pure_bind, Option.isSome_none, Bool.false_eq_true, if_false]
      exact (low_sound hlo el (fun l => pure (l, n, c'))).1
    · simp only [aBndO] at eh
      obtain ⟨rh, hh⟩ := aBnd_sound (P := P) (w := w) (code := if b then .sliceAcap else .sliceAlen) hu eh htop
      have hl := (low_sound (P := P) (w := w) (code := .sliceB) hlo el (fun l => pure l)).2
      refine ⟨?_, hl, fun _ => hh, fun j hj => by cases hj⟩
      unfold Instr.sliceBounds
      simp only [pure_bind, Option.isSome_none, Bool.false_eq_true, if_false]
      rw [run_bind _ _ _ rh]
      exact (low_sound hlo el (fun l => pure (l, h0, c'))).1
  · rcases hhi with ⟨rfl, rfl⟩ | ⟨u, u', rfl, rfl, hu⟩
    · cases e
    · simp only [] at e
      rw [Option.bind_eq_some_iff] at e
      obtain ⟨k0, ek, e⟩ := e
      rw [Option.bind_eq_some_iff] at e
      obtain ⟨h0, eh, e⟩ := e
      simp only [Option.map_eq_some_iff, Prod.mk.injEq] at e
      obtain ⟨l0, el, rfl, rfl, rfl⟩ := e
      obtain ⟨rk, hk⟩ := aBnd_sound (P := P) (w := w) (code := if b then .slice3Acap else .slice3Alen) hv ek htop
      obtain ⟨rh, hh⟩ := aBnd_sound (P := P) (w := w) (code := .slice3B) hu eh (Nat.le_refl _)
      have hl := (low_sound (P := P) (w := w) (code := .slice3C) hlo el (fun l => pure l)).2
      refine ⟨?_, hl, (fun hj => by cases hj), (fun j hj => by injection hj with hj; subst hj; exact ⟨hh, hk⟩)⟩
      unfold Instr.sliceBounds
      simp only []
      rw [run_bind _ _ _ rk, run_bind _ _ _ rh]
      simp only [Option.isSome_some, if_true]
      exact (low_sound hlo el (fun l => pure (l, h0, k0))).1
def cutA (a : Option Addr) (m l s : Nat) : Option Addr := if m = l then a else a.map fun x => x.add (l * s)
def aSlice (P : Program) (T : TypeId) (x : Value) (lo hi mx : Option Value) (A : AH) : Option Value :=
  match x with
  | .string s =>
    match P.underlying T with
    | some .string => match mx with
      | none => (aBounds s.size s.size lo hi none).map fun q => .string (s.extract q.1 q.2.1)
      | some _ => none
    | _ => none
  | .slice a n c =>
    match sliceElem P T with
    | some e =>
      match szOf P e with
      | some s =>
        if n ≤ topOf n c then
          (aBounds n c lo hi mx).bind fun q =>
          match q.2.2 with
          | some k => if k - q.1 = UNK then none else some (.slice (cutA a k q.1 s) (q.2.1 - q.1) (k - q.1))
          | none =>
            if c = UNK then
              match a with
              | some ⟨b, o, none⟩ =>
                match A.get b with
                | some (.row _ E _) => if szOf P E = some s then some (.slice (some ⟨b, o + q.1 * s, none⟩) (q.2.1 - q.1) UNK) else none
                | _ => none
              | _ => none
            else if c - q.1 = UNK then none else some (.slice (cutA a c q.1 s) (q.2.1 - q.1) (c - q.1))
        else none
      | none => none
    | none => none
  | _ => none
theorem aSlice_sound {m : Mp} {A : AH} {w : World} (hR : Rel P m A w) {T : TypeId} {x x' v : Value} {lo hi mx lo' hi' mx' : Option Value} (hx : VRel m x x') (hlo : ORel m lo lo') (hhi : ORel m hi hi') (hmx : ORel m mx mx')
    (h : aSlice P T x lo hi mx A = some v) : SV P m A w (Instr.sliceAt T x' lo' hi' mx') v A := by
  have at_ : ∀ {d : TypeDesc}, P.underlying T = some d → (∀ n e, d ≠ .array n e) → ∀ (y : Value) {v' w'}, (Instr.slice T y lo' hi' mx').run P w = .ok v' w' → (Instr.sliceAt T y lo' hi' mx').run P w = .ok v' w' := by
    intro d hd hne y v' w' hr
    unfold Instr.sliceAt
    rw [run_bind _ _ _ (run_un hd w)]
    cases d <;> first | exact hr | exact absurd rfl (hne _ _)
  unfold aSlice at h
  split at h
  · rename_i s
    split at h
    · rename_i hu
      split at h
      · simp only [Option.map_eq_some_iff] at h
        obtain ⟨⟨l, hh, k⟩, hb, rfl⟩ := h
        cases hx
        rcases hmx with ⟨_, rfl⟩ | ⟨_, _, e, _⟩
        · have := (aBounds_sound (P := P) (w := w) (b := false) (c' := s.size) hlo hhi (.inl ⟨rfl, rfl⟩) (by unfold topOf; split <;> simp) (by unfold topOf; split <;> omega) hb).1
          refine SV.pure hR (at_ hu (by simp) _ ?_) (.string _)
          unfold Instr.slice
          rw [run_bind _ _ _ (run_un hu w)]
          simp only [Option.isSome_none, Bool.false_eq_true, if_false]
          rw [run_bind _ _ _ this]; rfl
        · cases e
      · cases h
    · cases h
  · rename_i a n c
    split at h
    · rename_i e he
      have hu := sliceElem_spec he
      split at h
      · rename_i s hs
        split at h
        · rename_i hn
          rw [Option.bind_eq_some_iff] at h
          obtain ⟨⟨l, hh, k⟩, hb, h⟩ := h
          simp only [] at h
          have go : ∀ (a' : Option Addr) (c' : Nat), topOf n c ≤ c' → ∀ v', VRel m v v' → v' = .slice (cutA a' (k.getD c') l s) (hh - l) (k.getD c' - l) → SV P m A w (Instr.sliceAt T (.slice a' n c') lo' hi' mx') v A := by
            intro a' c' ht v' hv hv'
            have hb' := (aBounds_sound (P := P) (w := w) (b := true) (c' := c') hlo hhi hmx ht hn hb).1
            refine SV.pure hR (at_ hu (by simp) _ ?_) hv
            unfold Instr.slice
            rw [run_bind _ _ _ (run_un hu w)]
            simp only []
            rw [run_bind _ _ _ hb']
            simp only []
            rw [run_bind _ _ _ (run_sz hs w), hv']; rfl
          have hbs := aBounds_sound (P := P) (w := w) (b := true) (c' := topOf n c) hlo hhi hmx (Nat.le_refl _) hn hb
          cases k with
          | some k =>
            simp only [] at h
            split at h
            · cases h
            · rename_i hku
              injection h with h; subst h
              cases hx with
              | snil _ _ hc => exact go none c (by simp [topOf, hc]) _ (by simp only [Option.getD_some, cutA, Option.map_none, ite_self]; exact .snil _ _ hku) rfl
              | slice b o _ _ p hp hc =>
                refine go _ c (by simp [topOf, hc]) _ ?_ rfl
                simp only [Option.getD_some, cutA]
                split
                · exact .slice b o _ _ p hp hku
                · simp only [Option.map_some]; rw [add_spot _ rfl, add_spot _ rfl]; simp only [Nat.add_assoc]; exact .slice b (o + l * s) _ _ p hp hku
              | sliceU b o _ c' p hp hn' ht hcc =>
                refine go _ c' (by simp [topOf]; exact hn') _ ?_ rfl
                simp only [Option.getD_some, cutA]
                split
                · exact .slice b o _ _ p hp hku
                · simp only [Option.map_some]; rw [add_spot _ rfl, add_spot _ rfl]; simp only [Nat.add_assoc]; exact .slice b (o + l * s) _ _ p hp hku
              | sliceE b o o' p hp ht =>
                have hk := hbs.2.2.2 k rfl
                simp only [topOf, if_true] at hk
                obtain rfl : k = 0 := by omega
                obtain rfl : l = 0 := by omega
                obtain rfl : hh = 0 := by omega
                refine go _ 0 (by simp [topOf]) _ ?_ rfl
                simp only [Option.getD_some, cutA, if_true]
                exact .slice0 b o _ p hp
              | slice0 b o o' p hp =>
                have hk := hbs.2.2.2 k rfl
                have e0 : topOf 0 0 = 0 := by unfold topOf; split <;> rfl
                rw [e0] at hk
                obtain rfl : k = 0 := by omega
                obtain rfl : l = 0 := by omega
                obtain rfl : hh = 0 := by omega
                refine go _ 0 (by rw [e0]; exact Nat.le_refl _) _ ?_ rfl
                simp only [Option.getD_some, cutA, if_true]
                exact .slice0 b o _ p hp
          | none =>
            simp only [] at h
            have hle := hbs.2.1
            have hle2 := hbs.2.2.1 rfl
            split at h
            · rename_i hcu
              subst hcu
              have e0 : topOf n UNK = n := by simp [topOf]
              rw [e0] at hle2
              split at h
              · rename_i b o
                split at h
                · rename_i cs E ro hb2
                  split at h
                  · rename_i hE
                    injection h with h; subst h
                    cases hx with
                    | slice _ _ _ _ p hp hc => exact absurd rfl hc
                    | sliceU _ _ _ c' p hp hn' ht hcc =>
                      obtain ⟨cur, fr, _, _, hsz, _⟩ := held_row hR hb2 hp
                      have hps := hsz s hE
                      refine go _ c' (by rw [e0]; exact hn') _ ?_ rfl
                      simp only [Option.getD_none, cutA]
                      split
                      · rename_i hcl
                        have e1 : hh - l = 0 := by omega
                        have e2 : c' - l = 0 := by omega
                        rw [e1, e2]
                        exact .sliceE b (o + l * s) _ p hp (by rw [← ht, hps, hcl]; omega)
                      · simp only [Option.map_some]; rw [add_spot _ rfl]; simp only [Nat.add_assoc]
                        refine .sliceU b (o + l * s) _ _ p hp (by omega) ?_ (Nat.lt_of_le_of_lt (Nat.sub_le _ _) hcc)
                        rw [← ht, hps]
                        have := Nat.sub_mul c' l s
                        have := Nat.mul_le_mul_right s (show l ≤ c' by omega)
                        omega
                    | sliceE _ _ o' p hp ht =>
                      obtain rfl : hh = 0 := by omega
                      obtain rfl : l = 0 := by omega
                      refine go _ 0 (by rw [e0]; exact Nat.le_refl _) _ ?_ rfl
                      simp only [Option.getD_none, cutA, if_true, Nat.zero_mul, Nat.add_zero]
                      exact .sliceE b o o' p hp ht
                  · cases h
                · cases h
              · cases h
            · rename_i hcu
              split at h
              · cases h
              · rename_i hcl
                injection h with h; subst h
                have e0 : topOf n c = c := by simp [topOf, hcu]
                rw [e0] at hle2
                cases hx with
                | snil => exact go none c (by rw [e0]; exact Nat.le_refl _) _ (by simp only [Option.getD_none, cutA, Option.map_none, ite_self]; exact .snil _ _ hcl) rfl
                | slice b o _ _ p hp hc =>
                  refine go _ c (by rw [e0]; exact Nat.le_refl _) _ ?_ rfl
                  simp only [Option.getD_none, cutA]
                  split
                  · exact .slice b o _ _ p hp hcl
                  · simp only [Option.map_some]; rw [add_spot _ rfl, add_spot _ rfl]; simp only [Nat.add_assoc]; exact .slice b (o + l * s) _ _ p hp hcl
                | sliceU => exact absurd rfl hcu
                | sliceE => exact absurd rfl hcu
                | slice0 b o o' p hp =>
                  obtain rfl : hh = 0 := by omega
                  obtain rfl : l = 0 := by omega
                  refine go _ 0 (by rw [e0]; exact Nat.le_refl _) _ ?_ rfl
                  simp only [Option.getD_none, cutA, if_true]
                  exact .slice0 b o _ p hp
        · cases h
      · cases h
    · cases h
  · cases h
end Go.AI
/- AIh: rows made, structs built, elements, lengths. -/
namespace Go.AI
open Go Go.RowKit
variable {P : Program}
theorem map_range0 (f : Nat → Value) : (Array.range 0).map f = #[] := Array.eq_empty_of_size_eq_zero (by simp)
/-- So many zeros. -/
def zrep (k : Nat) (z : List Value) : List Value := (List.replicate k z).flatten
theorem zrep_length (k : Nat) (z : List Value) : (zrep k z).length = k * z.length := by simp [zrep]
theorem zeros_eq (z : Array Value) : ∀ k : Nat, ((Array.range (k * z.size)).map fun i => z[i % z.size]!).toList = zrep k z.toList := by
  intro k
  simp only [Array.toList_map, Array.toList_range]
  induction k with
  | zero => simp [zrep]
  | succ k ih =>
    rw [show (k + 1) * z.size = k * z.size + z.size by rw [Nat.add_mul]; omega, List.range_add, List.map_append, ih]
    simp only [zrep, List.replicate_succ', List.flatten_append, List.flatten_singleton, List.map_map]
    congr 1
    apply List.ext_getElem?
    intro i
    rw [List.getElem?_map]
    rcases Nat.lt_or_ge i z.size with h | h
    · rw [List.getElem?_range h]
      have : (k * z.size + i) % z.size = i := by rw [Nat.add_comm, Nat.add_mul_mod_self_right, Nat.mod_eq_of_lt h]
      simp [this, h]
    · rw [List.getElem?_eq_none (by simpa using h), List.getElem?_eq_none (by simpa using h)]; rfl
theorem LRel.zrep {m : Mp} {z z' : List Value} (h : LRel m z z') : ∀ k, LRel m (zrep k z) (zrep k z')
  | 0 => by simpa [AI.zrep] using LRel.nil m
  | k + 1 => by
    have := h.append (LRel.zrep h k)
    simpa [AI.zrep, List.replicate_succ] using this
/-! make([]T, l, c). -/
def aMakeSlice (P : Program) (T : TypeId) (l c : Value) (A : AH) : Option (Value × AH) :=
  match l, c with
  | .int _ l, .int _ c =>
    match sliceElem P T with
    | some e =>
      match szOf P e, byOf P e, zeroOf P e with
      | some s, some y, some z =>
        if 0 ≤ l ∧ l ≤ c ∧ c ≤ 1099511627776 ∧ (y : Int) * c ≤ 281474976710656 ∧ z.cells.size = s then
          some (.slice (some ⟨A.next, 0, none⟩) l.toNat c.toNat, A.alloc (.row (zrep c.toNat z.cells.toList) e false))
        else none
      | _, _, _ => none
    | none => none
  | _, _ => none
theorem byOf_spec {T : TypeId} {n : Nat} (h : byOf P T = some n) : ∃ i, P.info? T = some i ∧ i.bytes = n := by
  simpa [byOf] using h
theorem aMakeSlice_sound {m : Mp} {A A' : AH} {w : World} (hR : Rel P m A w) {T : TypeId} {l l' c c' v : Value} (hl : VRel m l l') (hc : VRel m c c') (h : aMakeSlice P T l c A = some (v, A')) : SV P m A w (Instr.makeSlice T l' c') v A' := by
  unfold aMakeSlice at h
  split at h
  · rename_i kl l kc c
    split at h
    · rename_i e he
      have hu := sliceElem_spec he
      split at h
      · rename_i s y z hs hy hz
        split at h
        · rename_i hb
          obtain ⟨h1, h2, h3, h4, h5⟩ := hb
          simp only [Option.some.injEq, Prod.mk.injEq] at h
          obtain ⟨rfl, rfl⟩ := h
          cases hl; cases hc
          obtain ⟨i, hi, rfl⟩ := byOf_spec hy
          have wl : IntKind.i64.wrap l = l := IntWalk.i64_in _ (by omega)
          have wc : IntKind.i64.wrap c = c := IntWalk.i64_in _ (by omega)
          have hcs : LRel m (zrep c.toNat z.cells.toList) ((Array.range (c.toNat * s)).map fun i => z.cells[i % z.cells.size]!).toList := by
            rw [← h5, zeros_eq]; exact (plain_cells m z (zero_plain hz)).zrep _
          obtain ⟨r1, r2⟩ := hR.alloc (zrep c.toNat z.cells.toList) ((Array.range (c.toNat * s)).map fun i => z.cells[i % z.cells.size]!) e (by have := hcs.1; simp at this ⊢; omega) (by rw [hcs.1, List.take_length]; exact hcs)
          refine ⟨_, _, .slice (some ⟨w.heap.size, 0, none⟩) l.toNat c.toNat, ?_, r1, ?_, r2⟩
          · unfold Instr.makeSlice
            rw [run_bind _ _ _ (run_un hu w)]
            simp only [asInt, asIntOf, pure_bind]
            rw [run_bind _ _ _ (run_ti hi w)]
            simp only [wl, wc]
            have hf : ∀ n : Int, 0 ≤ n → n ≤ c → (decide (n < 0) || decide ((i.bytes : Int) * n > 2 ^ 48)) = false := by
              intro n hn hnc
              have : (i.bytes : Int) * n ≤ i.bytes * c := Int.mul_le_mul_of_nonneg_left hnc (by omega)
              simp; omega
            have e1 : ¬ l < 0 := by omega
            have e2 : ¬ l > c := by omega
            rw [if_neg (by rw [hf c (by omega) (Int.le_refl _)]; simp [e1, e2])]
            have ask : (askRoom (c.toNat * i.bytes)).run P w = .ok () w := by unfold askRoom; split <;> rfl
            rw [run_bind _ _ _ ask, run_bind _ _ _ (run_sz hs w)]
            by_cases h0 : c.toNat * s = 0
            · rw [if_pos h0]
              simp only [h0, map_range0]
              rw [run_bind _ _ _ (run_newRow _ _ _)]
              rfl
            · rw [if_neg h0]
              rw [run_bind _ _ _ (run_zero hz w), run_bind _ _ _ (run_newRow _ _ _)]
              rfl
          · exact .slice A.next 0 _ _ _ (Mp.upd_same _ _ _) (by unfold UNK; omega)
        · cases h
      · cases h
    · cases h
  · cases h
/-! Structs built. -/
def fillL (pl : Nat → Option (Nat × Nat)) : List Value → List (Nat × Value) → Option (List Value)
  | cs, [] => some cs
  | cs, (i, v) :: rest =>
    match pl i with
    | none => none
    | some (off, size) => if v.cells.size = size ∧ off + v.cells.size ≤ cs.length then fillL pl (spl cs off v.cells.toList) rest else none
theorem fold_spl (off : Nat) : ∀ (vs : List Value) (j : Nat) (cs : Array Value), off + j + vs.length ≤ cs.size →
    ((vs.zipIdx j).foldl (fun cs (c : Value × Nat) => cs.setIfInBounds (off + c.2) c.1) cs).toList = spl cs.toList (off + j) vs := by
  intro vs
  induction vs with
  | nil => intro j cs _; simp [spl_nil]
  | cons v vs ih =>
    intro j cs h
    simp only [List.length_cons] at h
    simp only [List.zipIdx_cons, List.foldl_cons]
    rw [ih (j + 1) _ (by simp; omega), Array.toList_setIfInBounds, ← Nat.add_assoc, spl_cons _ _ _ _ (by simp; omega)]
/-- The parts of a struct, pair by pair. -/
def PRel (m : Mp) (l l' : List (Nat × Value)) : Prop := l.length = l'.length ∧ ∀ (i : Nat) (p p' : Nat × Value), l[i]? = some p → l'[i]? = some p' → p.1 = p'.1 ∧ VRel m p.2 p'.2
theorem fill_sound {m : Mp} (pl : Nat → Option (Nat × Nat)) : ∀ (ps ps' : List (Nat × Value)) (cs : List Value) (cs' : Array Value) (r : List Value), LRel m cs cs'.toList → PRel m ps ps' → fillL pl cs ps = some r →
    ∃ r', Instr.fill pl cs' ps' = some r' ∧ LRel m r r'.toList := by
  intro ps
  induction ps with
  | nil =>
    intro ps' cs cs' r hl hp h
    have : ps' = [] := List.eq_nil_of_length_eq_zero hp.1.symm
    subst this
    simp only [fillL, Option.some.injEq] at h; subst h
    exact ⟨cs', rfl, hl⟩
  | cons p ps ih =>
    intro ps' cs cs' r hl hp h
    obtain ⟨i, v⟩ := p
    cases ps' with
    | nil => have := hp.1; simp at this
    | cons p' ps' =>
      obtain ⟨i', v'⟩ := p'
      obtain ⟨hi, hv⟩ := hp.2 0 _ _ rfl rfl
      simp only at hi hv; subst hi
      have hp' : PRel m ps ps' := ⟨by have := hp.1; simpa using this, fun j a b e e' => hp.2 (j + 1) a b (by simpa using e) (by simpa using e')⟩
      simp only [fillL] at h
      simp only [Instr.fill]
      cases hpl : pl i with
      | none => rw [hpl] at h; cases h
      | some q =>
        obtain ⟨off, size⟩ := q
        rw [hpl] at h
        simp only [] at h ⊢
        split at h
        · rename_i hc
          have hcs := hv.cells
          have hsz : v'.cells.size = v.cells.size := by have := hcs.1; simp at this; omega
          have hlen := hl.1
          simp only [Array.length_toList] at hlen
          rw [if_neg (by simp [hsz, hc.1]; omega)]
          have hf : (v'.cells.zipIdx.foldl (fun cs (c : Value × Nat) => cs.setIfInBounds (off + c.2) c.1) cs').toList = spl cs'.toList off v'.cells.toList := by
            rw [← Array.foldl_toList, Array.toList_zipIdx]
            have := fold_spl off v'.cells.toList 0 cs' (by simp; omega)
            simpa using this
          exact ih ps' _ _ r (by rw [hf]; exact hl.spl hcs off) hp' h
        · cases h
def places (P : Program) (fs : List Field) : Option (List (Nat × Nat)) :=
  match fs with
  | [] => some []
  | f :: fs => match szOf P f.type with
    | some n => (places P fs).map fun l => (f.offset, n) :: l
    | none => none
theorem run_pl {w : World} : ∀ (fs : List Field) (l : List (Nat × Nat)), places P fs = some l → (fs.mapM (fun f => do pure (f.offset, ← sizeOf f.type) : Field → Sem (Nat × Nat))).run P w = .ok l w
  | [], l, h => by injection h with h; subst h; rfl
  | f :: fs, l, h => by
    simp only [places] at h
    split at h
    · rename_i n hn
      simp only [Option.map_eq_some_iff] at h
      obtain ⟨l', hl, rfl⟩ := h
      rw [List.mapM_cons]
      have h1 : (do pure (f.offset, ← sizeOf f.type) : Sem (Nat × Nat)).run P w = .ok (f.offset, n) w := by rw [run_bind _ _ _ (run_sz hn w)]; rfl
      rw [run_bind _ _ _ h1, run_bind _ _ _ (run_pl fs l' hl)]; rfl
    · cases h
def aBuild (P : Program) (T : TypeId) (parts : List (Nat × Value)) : Option Value :=
  match zeroOf P T, P.underlying T with
  | some z, some (.struct fs) => (places P fs.toList).bind fun pl => (fillL (fun i => pl[i]?) z.cells.toList parts).map fun cs => .agg cs.toArray
  | some z, some (.array _ e) => (szOf P e).bind fun s => (fillL (fun i => some (i * s, s)) z.cells.toList parts).map fun cs => .agg cs.toArray
  | _, _ => none
theorem aBuild_sound {m : Mp} {A : AH} {w : World} (hR : Rel P m A w) {T : TypeId} {ps : List (Nat × Value)} {ps' : Array (Nat × Value)} {v : Value} (hp : PRel m ps ps'.toList) (h : aBuild P T ps = some v) : SV P m A w (Instr.build T ps') v A := by
  unfold aBuild at h
  split at h
  · rename_i z fs hz hu
    rw [Option.bind_eq_some_iff] at h
    obtain ⟨pl, hpl, h⟩ := h
    simp only [Option.map_eq_some_iff] at h
    obtain ⟨cs, hcs, rfl⟩ := h
    obtain ⟨r', hr, hl⟩ := fill_sound (m := m) _ ps ps'.toList z.cells.toList z.cells cs (plain_cells m z (zero_plain hz)) hp hcs
    refine SV.pure hR (v' := .agg r') ?_ (VRel.agg_iff.2 (by simpa using hl))
    unfold Instr.build
    rw [run_bind _ _ _ (run_zero hz w), run_bind _ _ _ (run_un hu w)]
    simp only []
    have hm : (fs.mapM (fun f => do pure (f.offset, ← sizeOf f.type) : Field → Sem (Nat × Nat))).run P w = .ok pl.toArray w := by
      have := run_pl (P := P) (w := w) fs.toList pl hpl
      rw [Array.mapM_eq_mapM_toList]
      rw [show (List.toArray <$> (fs.toList.mapM (fun f => do pure (f.offset, ← sizeOf f.type) : Field → Sem (Nat × Nat)))) = ((fs.toList.mapM (fun f => do pure (f.offset, ← sizeOf f.type) : Field → Sem (Nat × Nat))) >>= fun x => pure x.toArray) from rfl]
      rw [run_bind _ _ _ this]; rfl
    rw [run_bind _ _ _ hm]
    simp only [List.getElem?_toArray]
    rw [hr]; rfl
  · rename_i z n e hz hu
    rw [Option.bind_eq_some_iff] at h
    obtain ⟨s, hs, h⟩ := h
    simp only [Option.map_eq_some_iff] at h
    obtain ⟨cs, hcs, rfl⟩ := h
    obtain ⟨r', hr, hl⟩ := fill_sound (m := m) _ ps ps'.toList z.cells.toList z.cells cs (plain_cells m z (zero_plain hz)) hp hcs
    refine SV.pure hR (v' := .agg r') ?_ (VRel.agg_iff.2 (by simpa using hl))
    unfold Instr.build
    rw [run_bind _ _ _ (run_zero hz w), run_bind _ _ _ (run_un hu w)]
    simp only []
    rw [run_bind _ _ _ (run_sz hs w), hr]; rfl
  · cases h
def aBuildSlice (P : Program) (T : TypeId) (len : Nat) (parts : List (Nat × Value)) (A : AH) : Option (Value × AH) :=
  match sliceElem P T with
  | some e =>
    match szOf P e, zeroOf P e with
    | some s, some z =>
      if len * s ≤ 16777216 ∧ z.cells.size = s then
        (fillL (fun i => some (i * s, s)) (zrep len z.cells.toList) parts).map fun cs => (.slice (some ⟨A.next, 0, none⟩) len len, A.alloc (.row cs e false))
      else none
    | _, _ => none
  | none => none
theorem aBuildSlice_sound {m : Mp} {A A' : AH} {w : World} (hR : Rel P m A w) {T : TypeId} {len : Nat} {ps : List (Nat × Value)} {ps' : Array (Nat × Value)} {v : Value} (hlen : len < 1099511627776) (hp : PRel m ps ps'.toList) (h : aBuildSlice P T len ps A = some (v, A')) :
    SV P m A w (Instr.buildSlice T len ps') v A' := by
  unfold aBuildSlice at h
  split at h
  · rename_i e he
    have hu := sliceElem_spec he
    split at h
    · rename_i s z hs hz
      split at h
      · rename_i hb
        simp only [Option.map_eq_some_iff, Prod.mk.injEq] at h
        obtain ⟨cs, hcs, rfl, rfl⟩ := h
        have hz0 : LRel m (zrep len z.cells.toList) ((Array.range (len * s)).map fun i => z.cells[i % z.cells.size]!).toList := by
          rw [← hb.2, zeros_eq]; exact (plain_cells m z (zero_plain hz)).zrep _
        obtain ⟨r', hr, hl⟩ := fill_sound (m := m) _ ps ps'.toList _ _ cs hz0 hp hcs
        obtain ⟨r1, r2⟩ := hR.alloc cs r' e (by have := hl.1; simp at this; omega) (by rw [hl.1, List.take_length]; exact hl)
        refine ⟨_, _, .slice (some ⟨w.heap.size, 0, none⟩) len len, ?_, r1, .slice A.next 0 _ _ _ (Mp.upd_same _ _ _) (by unfold UNK; omega), r2⟩
        unfold Instr.buildSlice
        rw [run_bind _ _ _ (run_un hu w)]
        simp only []
        rw [run_bind _ _ _ (run_sz hs w), if_neg (by omega)]
        by_cases h0 : len * s = 0
        · rw [if_pos h0]
          simp only [pure_bind, h0]
          simp only [h0, map_range0] at hr ⊢
          rw [hr]
          simp only []
          rw [run_bind _ _ _ (run_newRow _ _ _)]; rfl
        · rw [if_neg h0]
          simp only [pure_bind]
          rw [run_bind _ _ _ (run_zero hz w), hr]
          simp only []
          rw [run_bind _ _ _ (run_newRow _ _ _)]; rfl
      · cases h
    · cases h
  · cases h
end Go.AI
/- AIi: elements, lengths, copies, appends. -/
namespace Go.AI
open Go Go.RowKit
variable {P : Program}
def aIndex (P : Program) (T : TypeId) (x i : Value) : Option Value :=
  match x, i with
  | .agg cs, .int _ i =>
    match arrElem P T with
    | some (n, e) => match szOf P e with
      | some s => if 0 ≤ i ∧ i < n then aPart P e cs.toList (i.toNat * s) else none
      | none => none
    | none => none
  | .string s, .int _ i =>
    match P.underlying T with
    | some .string => if 0 ≤ i then (s[i.toNat]?).map fun b => .int .u8 b.toNat else none
    | _ => none
  | _, _ => none
theorem aIndex_sound {m : Mp} {A : AH} {w : World} (hR : Rel P m A w) {T : TypeId} {x x' i i' v : Value} (hx : VRel m x x') (hi : VRel m i i') (h : aIndex P T x i = some v) : SV P m A w (Instr.index T x' i') v A := by
  unfold aIndex at h
  split at h
  · rename_i cs k i
    split at h
    · rename_i n e he
      have hu := arrElem_spec he
      split at h
      · rename_i s hs
        split at h
        · rename_i hb
          cases hi
          cases hx with
          | agg _ cs' e1 e2 =>
            obtain ⟨v', hr, hv⟩ := aPart_sound (w := w) (VRel.agg_iff.1 (.agg cs cs' e1 e2)) h
            refine SV.pure hR ?_ hv
            unfold Instr.index
            simp only [asIntOf, pure_bind]
            rw [run_bind _ _ _ (run_un hu w)]
            simp only [if_pos hb]
            rw [run_bind _ _ _ (run_sz hs w)]
            exact hr
        · cases h
      · cases h
    · cases h
  · rename_i s k i
    split at h
    · rename_i hu
      split at h
      · rename_i h0
        simp only [Option.map_eq_some_iff] at h
        obtain ⟨b, hb, rfl⟩ := h
        cases hi; cases hx
        refine SV.pure hR ?_ (.int .u8 b.toNat)
        unfold Instr.index
        simp only [asIntOf, pure_bind]
        rw [run_bind _ _ _ (run_un hu w)]
        simp only [if_pos h0, hb]; rfl
      · cases h
    · cases h
  · cases h
def aExtract (x : Value) (i : Nat) : Option Value :=
  match x with
  | .tuple vs => vs.toList[i]?
  | _ => none
theorem aExtract_sound {m : Mp} {A : AH} {w : World} (hR : Rel P m A w) {x x' v : Value} {i : Nat} (hx : VRel m x x') (h : aExtract x i = some v) : SV P m A w (Instr.extract x' i) v A := by
  unfold aExtract at h
  split at h
  · rename_i vs
    cases hx with
    | tuple _ vs' e1 e2 =>
      obtain ⟨v', e, hv⟩ := (VRel.tuple_iff.1 (.tuple vs vs' e1 e2)).get h
      rw [Array.getElem?_toList] at e
      refine SV.pure hR ?_ hv
      unfold Instr.extract
      simp only [e]; rfl
  · cases h
def aNil (x : Value) : Option Value :=
  match x with
  | .pointer (some a) => some (.pointer (some a))
  | .func (.func f) a c => some (.func (.func f) a c)
  | _ => none
/-! Lengths. -/
def aLen (P : Program) (T : TypeId) (x : Value) (A : AH) : Option Value :=
  match P.underlying T, x with
  | some .string, .string s => some (goInt s.size)
  | some (.array n _), _ => some (goInt n)
  | some (.slice _), .slice _ n _ => some (goInt n)
  | some (.map _ _), .map none => some (goInt 0)
  | some (.map _ _), .map (some b) => match A.get b with
    | some (.mp es) => some (goInt es.length)
    | _ => none
  | _, _ => none
theorem aLen_sound {m : Mp} {A : AH} {w : World} (hR : Rel P m A w) {Ts : Array TypeId} {T R : TypeId} {x x' v : Value} {xs : Array Value} (hT : Ts[0]? = some T) (hxs : xs[0]? = some x') (hx : VRel m x x') (h : aLen P T x A = some v) : SV P m A w (Builtin.len_ Ts R xs) v A := by
  unfold aLen at h
  split at h
  · rename_i hu; injection h with h; subst h; cases hx
    refine SV.pure hR ?_ (.int _ _)
    unfold Builtin.len_; rw [hT, hxs]; simp only []; rw [run_bind _ _ _ (run_un hu w)]; rfl
  · rename_i hu; injection h with h; subst h
    refine SV.pure hR ?_ (.int _ _)
    unfold Builtin.len_; rw [hT, hxs]; simp only []; rw [run_bind _ _ _ (run_un hu w)]; rfl
  · rename_i a n c hu; injection h with h; subst h
    have : ∃ a' c', x' = .slice a' n c' := by cases hx <;> exact ⟨_, _, rfl⟩
    obtain ⟨a', c', rfl⟩ := this
    refine SV.pure hR ?_ (.int .i64 n)
    unfold Builtin.len_; rw [hT, hxs]; simp only []; rw [run_bind _ _ _ (run_un hu w)]; rfl
  · rename_i hu; injection h with h; subst h; cases hx
    refine SV.pure hR ?_ (.int _ _)
    unfold Builtin.len_; rw [hT, hxs]; simp only []; rw [run_bind _ _ _ (run_un hu w)]; rfl
  · rename_i b hu
    split at h
    · rename_i es hb
      injection h with h; subst h
      cases hx with
      | map _ p hp =>
        obtain ⟨q, ents, clk, hq, hg, hn, _⟩ := hR.held _ _ hb
        rw [hp] at hq; injection hq with hq; subst hq
        refine SV.pure hR ?_ (.int .i64 es.length)
        unfold Builtin.len_; rw [hT, hxs]; simp only []; rw [run_bind _ _ _ (run_un hu w)]
        have : (getObj p.b).run P w = .ok (.map ents clk) w := by simp [getObj, Sem.run, hg]
        simp only []
        rw [run_bind _ _ _ this]
        simp only [hn]; rfl
    · cases h
  · cases h
def aCap (P : Program) (T : TypeId) (x : Value) : Option Value :=
  match P.underlying T, x with
  | some (.slice _), .slice _ _ c => if c = UNK then none else some (goInt c)
  | _, _ => none
theorem aCap_sound {m : Mp} {A : AH} {w : World} (hR : Rel P m A w) {Ts : Array TypeId} {T R : TypeId} {x x' v : Value} {xs : Array Value} (hT : Ts[0]? = some T) (hxs : xs[0]? = some x') (hx : VRel m x x') (h : aCap P T x = some v) : SV P m A w (Builtin.cap_ Ts R xs) v A := by
  unfold aCap at h
  split at h
  · rename_i e a n c hu
    split at h
    · cases h
    · rename_i hc
      injection h with h; subst h
      have : ∃ a', x' = .slice a' n c := by
        cases hx with
        | snil => exact ⟨_, rfl⟩
        | slice => exact ⟨_, rfl⟩
        | sliceU => exact absurd rfl hc
        | sliceE => exact absurd rfl hc
        | slice0 => exact ⟨_, rfl⟩
      obtain ⟨a', rfl⟩ := this
      refine SV.pure hR ?_ (.int .i64 c)
      unfold Builtin.cap_
      rw [hT, hxs]
      simp only []
      rw [run_bind _ _ _ (run_un hu w)]; rfl
  · cases h
def aMax (x y : Value) : Option Value := match x, y with | .int k a, .int _ b => some (.int k (if b > a then b else a)) | _, _ => none
def aMin (x y : Value) : Option Value := match x, y with | .int k a, .int _ b => some (.int k (if b < a then b else a)) | _, _ => none
def aFold (f : Value → Value → Option Value) : Value → List Value → Option Value
  | x, [] => some x
  | x, y :: ys => (f x y).bind fun z => aFold f z ys
theorem fold_max {m : Mp} {w : World} : ∀ (ys ys' : List Value) (x x' v : Value), VRel m x x' → LRel m ys ys' → aFold aMax x ys = some v → ∃ v', (ys'.foldlM Builtin.max2 x').run P w = .ok v' w ∧ VRel m v v' := by
  intro ys
  induction ys with
  | nil =>
    intro ys' x x' v hx hl h
    have : ys' = [] := List.eq_nil_of_length_eq_zero hl.1.symm
    subst this
    injection h with h; subst h; exact ⟨x', rfl, hx⟩
  | cons y ys ih =>
    intro ys' x x' v hx hl h
    cases ys' with
    | nil => have := hl.1; simp at this
    | cons y' ys' =>
      have hy := hl.2 0 _ _ rfl rfl
      have hl' : LRel m ys ys' := ⟨by have := hl.1; simpa using this, fun j a b e e' => hl.2 (j + 1) a b (by simpa using e) (by simpa using e')⟩
      simp only [aFold] at h
      rw [Option.bind_eq_some_iff] at h
      obtain ⟨z, hz, h⟩ := h
      unfold aMax at hz
      split at hz
      · injection hz with hz; subst hz
        cases hx; cases hy
        obtain ⟨v', hr, hv⟩ := ih ys' _ _ v (.int _ _) hl' h
        exact ⟨v', by rw [List.foldlM_cons]; exact hr, hv⟩
      · cases hz
theorem fold_min {m : Mp} {w : World} : ∀ (ys ys' : List Value) (x x' v : Value), VRel m x x' → LRel m ys ys' → aFold aMin x ys = some v → ∃ v', (ys'.foldlM Builtin.min2 x').run P w = .ok v' w ∧ VRel m v v' := by
  intro ys
  induction ys with
  | nil =>
    intro ys' x x' v hx hl h
    have : ys' = [] := List.eq_nil_of_length_eq_zero hl.1.symm
    subst this
    injection h with h; subst h; exact ⟨x', rfl, hx⟩
  | cons y ys ih =>
    intro ys' x x' v hx hl h
    cases ys' with
    | nil => have := hl.1; simp at this
    | cons y' ys' =>
      have hy := hl.2 0 _ _ rfl rfl
      have hl' : LRel m ys ys' := ⟨by have := hl.1; simpa using this, fun j a b e e' => hl.2 (j + 1) a b (by simpa using e) (by simpa using e')⟩
      simp only [aFold] at h
      rw [Option.bind_eq_some_iff] at h
      obtain ⟨z, hz, h⟩ := h
      unfold aMin at hz
      split at hz
      · injection hz with hz; subst hz
        cases hx; cases hy
        obtain ⟨v', hr, hv⟩ := ih ys' _ _ v (.int _ _) hl' h
        exact ⟨v', by rw [List.foldlM_cons]; exact hr, hv⟩
      · cases hz
/-! What is copied from a slice. -/
/-- The first cells of a slice. -/
def firstOf (A : AH) (s n : Nat) (x : Value) : Option (List Value) :=
  match x with
  | .slice none _ _ => if n = 0 then some [] else none
  | .slice (some ⟨b, o, none⟩) _ _ =>
    if n = 0 then some [] else
    match A.get b with
    | some (.row cs _ _) => if o + n * s ≤ cs.length then some ((cs.drop o).take (n * s)) else none
    | _ => none
  | _ => none
theorem firstOf_sound {m : Mp} {A : AH} {w : World} (hR : Rel P m A w) {s n l c : Nat} {a : Option Addr} {x' : Value} {vs : List Value} (hn : n ≤ l) (hx : VRel m (.slice a l c) x') (h : firstOf A s n (.slice a l c) = some vs) :
    ∃ vs', (Builtin.firstCells s n x').run P w = .ok vs' w ∧ LRel m vs vs'.toList := by
  unfold firstOf at h
  split at h
  · rename_i e
    injection e with e1 e2 e3; subst e1 e2 e3
    split at h
    · injection h with h; subst h
      cases hx
      exact ⟨#[], rfl, LRel.nil m⟩
    · cases h
  · rename_i b o _ _ e
    injection e with e1 e2 e3; subst e1 e2 e3
    split at h
    · rename_i h0
      subst h0
      injection h with h; subst h
      refine ⟨#[], ?_, LRel.nil m⟩
      cases hx <;> (simp only [Builtin.firstCells, Nat.zero_mul]; rfl)
    · rename_i h0
      split at h
      · rename_i cs E ro hb
        split at h
        · rename_i hle
          injection h with h; subst h
          have fin : ∀ (p : Pl) (c' : Nat), m b = some p → ∃ vs', (Builtin.firstCells s n (.slice (some ⟨p.b, p.base + o, none⟩) l c')).run P w = .ok vs' w ∧ LRel m ((cs.drop o).take (n * s)) vs'.toList := by
            intro p c' hp
            obtain ⟨cur, fr, hg, htot, hsz, hfr, hlen, hl⟩ := held_row hR hb hp
            refine ⟨((cur.toList.drop (p.base + o)).take (n * s)).toArray, ?_, ?_⟩
            · simp only [Builtin.firstCells]
              exact run_lc (a := ⟨p.b, p.base + o, none⟩) hg rfl (n * s) (by show p.base + o + _ ≤ _; omega)
            · simpa using hl.window o (n * s) hle
          cases hx with
          | slice _ _ _ _ p hp hc => exact fin p _ hp
          | sliceU _ _ _ c' p hp _ _ _ => exact fin p _ hp
          | sliceE => omega
          | slice0 => omega
        · cases h
      · cases h
  · cases h
theorem firstOf_len {A : AH} {s n : Nat} {x : Value} {vs : List Value} (h : firstOf A s n x = some vs) : vs.length = n * s := by
  unfold firstOf at h
  split at h
  · split at h
    · injection h with h; subst h; simp [*]
    · cases h
  · split at h
    · injection h with h; subst h; simp [*]
    · split at h
      · split at h
        · injection h with h; subst h; simp; omega
        · cases h
      · cases h
  · cases h
end Go.AI
/- AIj: copies, clears, appends. -/
namespace Go.AI
open Go Go.RowKit
variable {P : Program}
theorem Rel.ext {m : Mp} {A A' : AH} {w : World} (h : Rel P m A w) (hg : ∀ k, A'.get k = A.get k) (hn : A'.next = A.next) : Rel P m A' w :=
  ⟨fun b x hb => h.held b x (by rw [← hg]; exact hb), fun b c p q x y hb hc => h.apart b c p q x y (by rw [← hg]; exact hb) (by rw [← hg]; exact hc), fun b hb => by rw [hg]; exact h.fresh b (by rw [← hn]; exact hb), h.low⟩
theorem In.ext {m : Mp} {A A' : AH} (hg : ∀ k, A'.get k = A.get k) {k : Nat} (h : In m A' k) : In m A k := by
  obtain ⟨b, p, x, hb, r⟩ := h; exact ⟨b, p, x, by rw [← hg]; exact hb, r⟩
theorem Step.ext {m m' : Mp} {A A1 A2 : AH} {w w' : World} (h : Step m A w m' A1 w') (hg : ∀ k, A2.get k = A1.get k) (hn : A2.next = A1.next) : Step m A w m' A2 w' :=
  ⟨h.mono, by rw [hn]; exact h.nx, h.size, h.keep, fun k hk hi => h.img k hk (hi.ext hg), h.os, h.tape, h.output, h.old, fun b x hb hx => h.ros b x (by rw [← hg]; exact hb) hx⟩
def aCopy (P : Program) (T : TypeId) (dst src : Value) (A : AH) : Option (Value × AH) :=
  match dst, src with
  | .slice a dn dc, .slice b sn sc =>
    match sliceElem P T with
    | some e =>
      match szOf P e with
      | some s =>
        (firstOf A s (min sn dn) (.slice b sn sc)).bind fun vs =>
        if min sn dn = 0 then some (goInt 0, A) else
        match a with
        | some ⟨d, o, none⟩ =>
          match A.get d with
          | some (.row cs E false) => if o + vs.length ≤ cs.length ∧ vs.all oneB = true then some (goInt (min sn dn : Nat), A.set d (.row (spl cs o vs) E false)) else none
          | _ => none
        | _ => none
      | none => none
    | none => none
  | _, _ => none
theorem slice_shape {m : Mp} {a : Option Addr} {n c : Nat} {x' : Value} (h : VRel m (.slice a n c) x') : ∃ a' c', x' = .slice a' n c' := by cases h <;> exact ⟨_, _, rfl⟩
theorem slice_addr {m : Mp} {b o n c : Nat} {x' : Value} (h : VRel m (.slice (some ⟨b, o, none⟩) n c) x') (hn : n ≠ 0) : ∃ p c', m b = some p ∧ x' = .slice (some ⟨p.b, p.base + o, none⟩) n c' := by
  cases h with
  | slice _ _ _ _ p hp _ => exact ⟨p, _, hp, rfl⟩
  | sliceU _ _ _ c' p hp _ _ _ => exact ⟨p, c', hp, rfl⟩
  | sliceE => exact absurd rfl hn
  | slice0 => exact absurd rfl hn
theorem aCopy_sound {m : Mp} {A A' : AH} {w : World} (hR : Rel P m A w) {Ts : Array TypeId} {T R : TypeId} {x y x' y' v : Value} {xs : Array Value} (hT : Ts[0]? = some T) (h0 : xs[0]? = some x') (h1 : xs[1]? = some y') (hx : VRel m x x') (hy : VRel m y y')
    (h : aCopy P T x y A = some (v, A')) : SV P m A w (Builtin.copy_ Ts R xs) v A' := by
  unfold aCopy at h
  split at h
  · rename_i a dn dc b sn sc
    split at h
    · rename_i e he
      have hu := sliceElem_spec he
      split at h
      · rename_i s hs
        rw [Option.bind_eq_some_iff] at h
        obtain ⟨vs, hvs, h⟩ := h
        obtain ⟨a', dc', rfl⟩ := slice_shape hx
        obtain ⟨b', sc', rfl⟩ := slice_shape hy
        obtain ⟨vs', hr, hv⟩ := firstOf_sound hR (w := w) (Nat.min_le_left sn dn) hy hvs
        have start : ∀ {r : Result Value}, ((do
            if let some a := a' then storeCells a vs'.toList
            pure (goInt (Nat.min sn dn)) : Sem Value)).run P w = r → (Builtin.copy_ Ts R xs).run P w = r := by
          intro r hr'
          unfold Builtin.copy_
          rw [hT, h0, h1]
          simp only []
          rw [run_bind _ _ _ (run_un hu w)]
          simp only [Builtin.lenOf, pure_bind]
          rw [run_bind _ _ _ (run_sz hs w)]
          rw [run_bind _ _ _ (show (Builtin.firstCells s (Nat.min sn dn) (.slice b' sn sc')).run P w = _ from hr)]
          exact hr'
        have hvl := firstOf_len hvs
        split at h
        · rename_i hz
          simp only [Option.some.injEq, Prod.mk.injEq] at h
          obtain ⟨rfl, rfl⟩ := h
          have : vs' = #[] := by
            have := hv.1; rw [hvl, hz] at this; simp at this
            exact Array.eq_empty_of_size_eq_zero this.symm
          subst this
          have hz' : Nat.min sn dn = 0 := hz
          refine SV.pure hR (start ?_) (.int .i64 0)
          rw [hz']
          cases a' <;> rfl
        · rename_i hz
          split at h
          · rename_i d o
            split at h
            · rename_i cs E hd
              split at h
              · rename_i hc
                simp only [Option.some.injEq, Prod.mk.injEq] at h
                obtain ⟨rfl, rfl⟩ := h
                obtain ⟨p, c', hp, e⟩ := slice_addr hx (by have := Nat.min_le_right sn dn; omega)
                injection e with e1 e2 e3; subst e1 e3
                obtain ⟨m', w', r1, r2, r3⟩ := store_cells hR (o := o) hd hp hv hc.2 hc.1
                refine ⟨m', w', goInt (min sn dn : Nat), start ?_, r2, .int .i64 _, r3⟩
                simp only []
                rw [run_bind _ _ _ r1]; rfl
              · cases h
            · cases h
          · cases h
      · cases h
    · cases h
  · cases h
def aClear (P : Program) (T : TypeId) (x : Value) (A : AH) : Option AH :=
  match x with
  | .slice a n _ =>
    match sliceElem P T with
    | some e =>
      match zeroOf P e with
      | some z =>
        if n = 0 then some A else
        match a with
        | some ⟨d, o, none⟩ =>
          match A.get d with
          | some (.row cs E false) => if o + n * z.cells.size ≤ cs.length ∧ (zrep n z.cells.toList).all oneB = true then some (A.set d (.row (spl cs o (zrep n z.cells.toList)) E false)) else none
          | _ => none
        | _ => none
      | none => none
    | none => none
  | _ => none
theorem aClear_sound {m : Mp} {A A' : AH} {w : World} (hR : Rel P m A w) {Ts : Array TypeId} {T R : TypeId} {x x' : Value} {xs : Array Value} (hT : Ts[0]? = some T) (h0 : xs[0]? = some x') (hx : VRel m x x')
    (h : aClear P T x A = some A') : SV P m A w (Builtin.clear_ Ts R xs) (.tuple #[]) A' := by
  unfold aClear at h
  split at h
  · rename_i a n c
    split at h
    · rename_i e he
      have hu := sliceElem_spec he
      split at h
      · rename_i z hz
        obtain ⟨a', c', rfl⟩ := slice_shape hx
        split at h
        · rename_i hn
          subst hn
          injection h with h; subst h
          refine SV.pure hR (v' := .tuple #[]) ?_ (VRel.undef m)
          unfold Builtin.clear_
          rw [hT, h0]
          simp only []
          rw [run_bind _ _ _ (run_un hu w)]
          cases a' <;> rfl
        · rename_i hn
          split at h
          · rename_i d o
            split at h
            · rename_i cs E hd
              split at h
              · rename_i hc
                injection h with h; subst h
                obtain ⟨p, c2, hp, e⟩ := slice_addr hx hn
                injection e with e1 e2 e3; subst e1 e3
                have hv : LRel m (zrep n z.cells.toList) (Builtin.zeroCells z.cells n).toList := by
                  unfold Builtin.zeroCells; rw [zeros_eq]; exact (plain_cells m z (zero_plain hz)).zrep _
                obtain ⟨m', w', r1, r2, r3⟩ := store_cells hR (o := o) hd hp hv hc.2 (by rw [zrep_length]; simpa using hc.1)
                refine ⟨m', w', .tuple #[], ?_, r2, VRel.undef m', r3⟩
                unfold Builtin.clear_
                rw [hT, h0]
                simp only []
                rw [run_bind _ _ _ (run_un hu w)]
                cases n with
                | zero => exact absurd rfl hn
                | succ n =>
                  simp only []
                  rw [run_bind _ _ _ (run_zero hz w), run_bind _ _ _ r1]; rfl
              · cases h
            · cases h
          · cases h
      · cases h
    · cases h
  · cases h
end Go.AI
/- AIk: appends. -/
namespace Go.AI
open Go Go.RowKit
variable {P : Program}
def notInt (P : Program) (X : TypeId) : Bool :=
  match P.underlying X with
  | some (.int _) => false
  | some _ => true
  | none => false
def aAppend (P : Program) (T X : TypeId) (s x : Value) (A : AH) : Option (Value × AH) :=
  match s, x with
  | .slice a l c, .slice a2 n c2 =>
    if notInt P X = false then none else
    match sliceElem P T with
    | some e =>
      match szOf P e, byOf P e, zeroOf P e with
      | some z, some y, some zv =>
        (firstOf A z n (.slice a2 n c2)).bind fun new =>
        if n = 0 then (if c = UNK ∨ l ≤ c then some (.slice a l c, A) else none) else
        if ¬ (l + n ≤ 1099511627776 ∧ (l + n) * y ≤ 17592186044416 ∧ y ≤ 1048576 ∧ zv.cells.size = z) then none else
        match a with
        | none => if l = 0 ∧ c = 0 then some (.slice (some ⟨A.next, 0, none⟩) n UNK, A.alloc (.row new e false)) else none
        | some ⟨b, o, none⟩ =>
          if c = UNK then
            match A.get b with
            | some (.row cs E false) =>
              if E = e ∧ new.all oneB = true ∧ 0 < z then
                if o + (l + n) * z ≤ cs.length then some (.slice a (l + n) UNK, A.set b (.row (spl cs (o + l * z) new) E false))
                else if o + l * z ≤ cs.length then some (.slice (some ⟨A.next, 0, none⟩) (l + n) UNK, (A.kill b).alloc (.row ((cs.drop o).take (l * z) ++ new) e false))
                else none
              else none
            | _ => none
          else if l + n ≤ c then
            match A.get b with
            | some (.row cs E false) => if o + (l + n) * z ≤ cs.length ∧ new.all oneB = true then some (.slice a (l + n) c, A.set b (.row (spl cs (o + l * z) new) E false)) else none
            | _ => none
          else (firstOf A z l (.slice a l c)).bind fun old => some (.slice (some ⟨A.next, 0, none⟩) (l + n) UNK, A.alloc (.row (old ++ new) e false))
        | _ => none
      | _, _, _ => none
    | none => none
  | _, _ => none
theorem grow_le (need : Nat) : ∀ (r c : Nat), c < need → Builtin.growBy need r c ≤ 2 * need + 192
  | 0, c, h => by simp [Builtin.growBy]; omega
  | r + 1, c, h => by
    simp only [Builtin.growBy]
    split
    · omega
    · rcases Nat.lt_or_ge (c + (c + 768) / 4) need with h' | h'
      · exact grow_le need r _ h'
      · cases r with
        | zero => simp [Builtin.growBy]; omega
        | succ r => simp only [Builtin.growBy]; rw [if_pos h']; omega
theorem next_le {need c : Nat} (h : c < need) : Builtin.nextslicecap need c ≤ 2 * need + 192 := by
  unfold Builtin.nextslicecap
  split
  · omega
  · split
    · omega
    · exact grow_le need 4 c h
/-- A row of its own is made. -/
theorem run_grow {m : Mp} {ol nl : List Value} {w : World} {Ts : Array TypeId} {T X R e : TypeId} {xs : Array Value} {a : Option Addr} {l c n : Nat} {x' : Value} {z y : Nat} {zv : Value} (hT : Ts[0]? = some T) (hX : Ts[1]? = some X) (h0 : xs[0]? = some (.slice a l c)) (h1 : xs[1]? = some x')
    (hXi : notInt P X = true) (hu : P.underlying T = some (.slice e)) (hz : szOf P e = some z) (hy : byOf P e = some y) (hzv : zeroOf P e = some zv) (hlen : Builtin.lenOf x' = pure n)
    (hgr : c < l + n) (hb1 : l + n ≤ 1099511627776) (hb2 : (l + n) * y ≤ 17592186044416) (hb3 : y ≤ 1048576)
    (hold : ∀ k, ∃ o : Array Value, (Builtin.firstCells z l (.slice a l c)).run P { w with drawn := k } = .ok o { w with drawn := k } ∧ LRel m ol o.toList)
    (hnew : ∀ k, ∃ o : Array Value, (Builtin.firstCells z n x').run P { w with drawn := k } = .ok o { w with drawn := k } ∧ LRel m nl o.toList) :
    ∃ (cap k : Nat) (old new : Array Value), (l + n ≤ cap ∧ cap < UNK) ∧ LRel m ol old.toList ∧ LRel m nl new.toList ∧ (Builtin.append_ Ts R xs).run P w = .ok (.slice (some ⟨w.heap.size, 0, none⟩) (l + n) cap) (World.new { w with drawn := k } (.cells (old ++ new ++ Builtin.zeroCells zv.cells (cap - (l + n))) e)) := by
  obtain ⟨d, hd, hdi⟩ : ∃ d, P.underlying X = some d ∧ ∀ k, d ≠ .int k := by
    unfold notInt at hXi
    split at hXi
    · cases hXi
    · rename_i d hne hd; exact ⟨d, hd, fun k e => hne k e⟩
    · cases hXi
  obtain ⟨i, hi, rfl⟩ := byOf_spec hy
  obtain ⟨old, ho, hol⟩ := hold (w.drawn + 1)
  obtain ⟨new, hn, hnl⟩ := hnew (w.drawn + 1)
  refine ⟨(Question.appendCap (l + n) c e).cut (w.tape w.drawn (.appendCap (l + n) c e)), w.drawn + 1, old, new, ?_, hol, hnl, ?_⟩
  · refine ⟨by simp only [Question.cut]; exact Nat.le_add_right _ _, ?_⟩
    simp only [Question.cut, UNK]
    have := Nat.mod_lt (w.tape w.drawn (.appendCap (l + n) c e)) (show 2 ^ 63 - (l + n) > 0 by omega)
    omega
  unfold Builtin.append_
  rw [hT, h0, h1]
  simp only []
  rw [run_bind _ _ _ (run_un hu w)]
  simp only []
  rw [run_bind _ _ _ (run_sz hz w)]
  simp only [hX]
  rw [run_bind _ _ _ (run_un hd w)]
  simp only [pure_bind, Bool.false_eq_true, if_false, hlen]
  rw [if_neg (by omega)]
  rw [run_bind _ _ _ (run_ti hi w)]
  rw [if_neg (by intro h; have := h.1; simp [IntKind.max, IntKind.bits] at this; omega)]
  rw [run_bind _ _ _ (run_ti hi w)]
  rw [if_neg (by
    have := next_le hgr
    have h2 : Builtin.nextslicecap (l + n) c * i.bytes ≤ (2 * (l + n) + 192) * i.bytes := Nat.mul_le_mul_right _ this
    have h3 : (2 * (l + n) + 192) * i.bytes = 2 * ((l + n) * i.bytes) + 192 * i.bytes := by rw [Nat.add_mul, Nat.mul_assoc]
    omega)]
  have hch : (choose (.appendCap (l + n) c e)).run P w = .ok ((Question.appendCap (l + n) c e).cut (w.tape w.drawn (.appendCap (l + n) c e))) { w with drawn := w.drawn + 1 } := by
    simp [choose, Sem.run, Question.forced]
  rw [run_bind _ _ _ hch]
  generalize (Question.appendCap (l + n) c e).cut (w.tape w.drawn (.appendCap (l + n) c e)) = cap
  rw [run_bind _ _ _ (run_ti hi _)]
  have ask : ∀ k (w : World), (askRoom k).run P w = .ok () w := by intro k w; unfold askRoom; split <;> rfl
  rw [run_bind _ _ _ (ask _ _), run_bind _ _ _ ho]
  simp only [Bool.not_false, if_true]
  rw [run_bind _ _ _ hn, run_bind _ _ _ (run_zero hzv _), run_bind _ _ _ (run_newRow _ _ _)]
  rfl
/-- There is room. -/
theorem run_room {w : World} {Ts : Array TypeId} {T X R e : TypeId} {xs : Array Value} {a : Option Addr} {l c n : Nat} {x' : Value} {z : Nat} {new : Array Value} (hT : Ts[0]? = some T) (hX : Ts[1]? = some X) (h0 : xs[0]? = some (.slice a l c)) (h1 : xs[1]? = some x')
    (hXi : notInt P X = true) (hu : P.underlying T = some (.slice e)) (hz : szOf P e = some z) (hlen : Builtin.lenOf x' = pure n) (hgr : l + n ≤ c) (hnew : (Builtin.firstCells z n x').run P w = .ok new w) {r : Result Value}
    (hr : ((do if let some a := a then storeCells (a.add (l * z)) new.toList
               pure (.slice a (l + n) c)) : Sem Value).run P w = r) : (Builtin.append_ Ts R xs).run P w = r := by
  obtain ⟨d, hd, hdi⟩ : ∃ d, P.underlying X = some d ∧ ∀ k, d ≠ .int k := by
    unfold notInt at hXi
    split at hXi
    · cases hXi
    · rename_i d hne hd; exact ⟨d, hd, fun k e => hne k e⟩
    · cases hXi
  unfold Builtin.append_
  rw [hT, h0, h1]
  simp only []
  rw [run_bind _ _ _ (run_un hu w)]
  simp only []
  rw [run_bind _ _ _ (run_sz hz w)]
  simp only [hX]
  rw [run_bind _ _ _ (run_un hd w)]
  simp only [pure_bind, Bool.false_eq_true, if_false, hlen]
  rw [if_pos hgr]
  simp only [Bool.not_false, if_true]
  rw [run_bind _ _ _ hnew]
  exact hr
theorem held_grown {m : Mp} {w : World} {A : AH} {n : Nat} (hR : Rel P m A w) {old new : List Value} {old' new' : Array Value} (e : TypeId) {zv : Value} (ho : LRel m old old'.toList) (hn : LRel m new new'.toList) :
    let cur := old' ++ new' ++ Builtin.zeroCells zv.cells n
    let p : Pl := ⟨w.heap.size, 0, cur.size, szD P e⟩
    Rel P (m.upd A.next p) (A.alloc (.row (old ++ new) e false)) (World.new w (.cells cur e)) ∧ Step m A w (m.upd A.next p) (A.alloc (.row (old ++ new) e false)) (World.new w (.cells cur e)) := by
  have hl := ho.append hn
  have e1 : (old ++ new).length = (old'.toList ++ new'.toList).length := hl.1
  refine hR.alloc (old ++ new) _ e ?_ ?_
  · simp at e1 ⊢; omega
  · have : (old' ++ new' ++ Builtin.zeroCells zv.cells n).toList.take (old ++ new).length = old'.toList ++ new'.toList := by
      rw [e1, Array.toList_append, Array.toList_append, List.take_left]
    rw [this]; exact hl
theorem Rel.sub {m : Mp} {A A' : AH} {w : World} (h : Rel P m A w) (hg : ∀ k x, A'.get k = some x → A.get k = some x) (hn : A'.next = A.next) : Rel P m A' w := by
  refine ⟨fun b x hb => h.held b x (hg b x hb), fun b c p q x y hb hc => h.apart b c p q x y (hg b x hb) (hg c y hc), fun b hb => ?_, h.low⟩
  have hf := h.fresh b (by rw [← hn]; exact hb)
  refine ⟨?_, hf.2⟩
  cases e : A'.get b with
  | none => rfl
  | some x =>
    have := hg b x e
    rw [hf.1] at this; cases this
theorem Step.sub {m m' : Mp} {A A1 A2 : AH} {w w' : World} (h : Step m A w m' A1 w') (hg : ∀ k x, A2.get k = some x → A1.get k = some x) (hn : A2.next = A1.next) : Step m A w m' A2 w' :=
  ⟨h.mono, by rw [hn]; exact h.nx, h.size, h.keep, fun k hk hi => h.img k hk (by obtain ⟨b, p, x, hb, r⟩ := hi; exact ⟨b, p, x, hg b x hb, r⟩), h.os, h.tape, h.output, h.old, fun b x hb hx => h.ros b x (hg b x hb) hx⟩
theorem SV.sub {m : Mp} {A A1 A2 : AH} {w : World} {s : Sem Value} {v : Value} (h : SV P m A w s v A1) (hg : ∀ k x, A2.get k = some x → A1.get k = some x) (hn : A2.next = A1.next) : SV P m A w s v A2 := by
  obtain ⟨m', w', v', r1, r2, r3, r4⟩ := h
  exact ⟨m', w', v', r1, r2.sub hg hn, r3, r4.sub hg hn⟩
theorem aAppend_sound {m : Mp} {A A' : AH} {w : World} (hR : Rel P m A w) {Ts : Array TypeId} {T X R : TypeId} {s x s' x' v : Value} {xs : Array Value} (hT : Ts[0]? = some T) (hX : Ts[1]? = some X) (h0 : xs[0]? = some s') (h1 : xs[1]? = some x') (hs : VRel m s s') (hx : VRel m x x')
    (h : aAppend P T X s x A = some (v, A')) : SV P m A w (Builtin.append_ Ts R xs) v A' := by
  unfold aAppend at h
  split at h
  · rename_i a l c a2 n c2
    split at h
    · cases h
    · rename_i hXi
      have hXi : notInt P X = true := by simpa using hXi
      split at h
      · rename_i e he
        have hu := sliceElem_spec he
        split at h
        · rename_i z y zv hz hy hzv
          rw [Option.bind_eq_some_iff] at h
          obtain ⟨new, hnew, h⟩ := h
          obtain ⟨a', c', rfl⟩ := slice_shape hs
          obtain ⟨a2', c2', rfl⟩ := slice_shape hx
          obtain ⟨new', hnr, hnl⟩ := firstOf_sound hR (Nat.le_refl n) hx hnew
          have hlen : Builtin.lenOf (.slice a2' n c2') = (pure n : Sem Nat) := rfl
          have hnewl := firstOf_len hnew
          split at h
          · rename_i hn0
            subst hn0
            split at h
            · rename_i hc
              simp only [Option.some.injEq, Prod.mk.injEq] at h
              obtain ⟨rfl, rfl⟩ := h
              have hle : l + 0 ≤ c' := by
                cases hs with
                | snil _ _ hcu => exact hc.resolve_left hcu
                | slice _ _ _ _ _ _ hcu => exact hc.resolve_left hcu
                | sliceU => assumption
                | sliceE => omega
                | slice0 => omega
              have : new' = #[] := by
                have := hnl.1; rw [hnewl] at this; simp at this
                exact Array.eq_empty_of_size_eq_zero this.symm
              subst this
              refine SV.pure hR (run_room hT hX h0 h1 hXi hu hz hlen hle hnr ?_) hs
              cases a' <;> rfl
            · cases h
          · rename_i hn0
            split at h
            · cases h
            · rename_i hbs
              have hbs := Classical.not_not.1 hbs
              obtain ⟨hb1, hb2, hb3, hb4⟩ := hbs
              have hzsz : zv.cells.toList.length = z := by simpa using hb4
              have hnewk : ∀ k, ∃ o : Array Value, (Builtin.firstCells z n (.slice a2' n c2')).run P { w with drawn := k } = .ok o { w with drawn := k } ∧ LRel m new o.toList := fun k => firstOf_sound (hR.drawn k) (Nat.le_refl n) hx hnew
              have hzl : zv.cells.size = z := hb4
              -- a row of its own
              have grow : ∀ {ol : List Value} {a1 : Option Addr} {c1 : Nat}, xs[0]? = some (.slice a1 l c1) → c1 < l + n → (∀ k, ∃ o : Array Value, (Builtin.firstCells z l (.slice a1 l c1)).run P { w with drawn := k } = .ok o { w with drawn := k } ∧ LRel m ol o.toList) → ol.length = l * z →
                  SV P m A w (Builtin.append_ Ts R xs) (.slice (some ⟨A.next, 0, none⟩) (l + n) UNK) (A.alloc (.row (ol ++ new) e false)) := by
                intro ol a1 c1 h0 hc1 hold hol
                obtain ⟨cap, k, o', n', hcap, lo, ln, hrun⟩ := run_grow (R := R) hT hX h0 h1 hXi hu hz hy hzv hlen hc1 hb1 hb2 hb3 hold hnewk
                obtain ⟨r1, r2⟩ := held_grown (hR.drawn k) e (n := cap - (l + n)) (zv := zv) lo ln
                refine ⟨_, _, _, hrun, r1, ?_, (Step.drawn m A w k).trans r2⟩
                refine .sliceU A.next 0 _ cap _ (Mp.upd_same _ _ _) hcap.1 ?_ hcap.2
                have e1 : o'.size = l * z := by have := lo.1; rw [hol] at this; simpa using this.symm
                have e2 : n'.size = n * z := by have := ln.1; rw [hnewl] at this; simpa using this.symm
                simp only [szD_of hz, Array.size_append, e1, e2, Builtin.zeroCells, Array.size_map, Array.size_range, hzl]
                rw [← Nat.add_mul, ← Nat.add_mul, Nat.add_sub_cancel' hcap.1]; omega
              split at h
              · split at h
                · rename_i hlc
                  obtain ⟨rfl, rfl⟩ := hlc
                  simp only [Option.some.injEq, Prod.mk.injEq] at h
                  obtain ⟨rfl, rfl⟩ := h
                  cases hs with
                  | snil =>
                    have := grow (ol := []) h0 (by omega) (fun k => ⟨#[], rfl, LRel.nil m⟩) (by simp)
                    simpa using this
                · cases h
              · rename_i b o
                split at h
                · rename_i hcu
                  subst hcu
                  split at h
                  · rename_i cs E hb
                    split at h
                    · rename_i hE
                      obtain ⟨rfl, hone, hz0⟩ := hE
                      split at h
                      · rename_i hfit
                        simp only [Option.some.injEq, Prod.mk.injEq] at h
                        obtain ⟨rfl, rfl⟩ := h
                        have hfit' : o + l * z + new.length ≤ cs.length := by rw [hnewl]; rw [Nat.add_mul] at hfit; omega
                        have hin : ∃ p, m b = some p ∧ a' = some ⟨p.b, p.base + o, none⟩ ∧ l + n ≤ c' ∧ p.base + o + c' * p.sz = p.tot ∧ c' < UNK := by
                          cases hs with
                          | slice _ _ _ _ p hp hc => exact absurd rfl hc
                          | sliceU _ _ _ c' p hp hn' ht hcc =>
                            obtain ⟨cur, fr, _, htot, hsz, _, hlen', _⟩ := held_row hR hb hp
                            have hps := hsz z hz
                            refine ⟨p, hp, rfl, ?_, ht, hcc⟩
                            refine Nat.le_of_mul_le_mul_right (c := z) ?_ hz0
                            rw [hps] at ht; omega
                          | sliceE _ _ o' p hp ht =>
                            obtain ⟨cur, fr, _, htot, hsz, _, hlen', _⟩ := held_row hR hb hp
                            have : 0 < n * z := Nat.mul_pos (by omega) hz0
                            rw [Nat.zero_add] at hfit
                            omega
                        obtain ⟨p, hp, rfl, hle, ht, hcc⟩ := hin
                        obtain ⟨m', w', r1, r2, r3⟩ := store_cells hR (o := o + l * z) hb hp hnl hone hfit'
                        refine ⟨m', w', .slice (some ⟨p.b, p.base + o, none⟩) (l + n) c', ?_, r2, .sliceU b o _ _ p (r3.mono _ _ hp) hle ht hcc, r3⟩
                        refine run_room hT hX h0 h1 hXi hu hz hlen hle hnr ?_
                        simp only []
                        rw [add_spot _ rfl]
                        simp only [Nat.add_assoc]
                        rw [run_bind _ _ _ r1]; rfl
                      · rename_i hfit
                        split at h
                        · rename_i hlo
                          simp only [Option.some.injEq, Prod.mk.injEq] at h
                          obtain ⟨rfl, rfl⟩ := h
                          have hold : firstOf A z l (.slice (some ⟨b, o, none⟩) l UNK) = some ((cs.drop o).take (l * z)) := by
                            simp only [firstOf]
                            split
                            · rename_i e; subst e; simp
                            · rw [hb]; simp only []; rw [if_pos hlo]
                          have out : c' < l + n → SV P m A w (Builtin.append_ Ts R xs) (.slice (some ⟨A.next, 0, none⟩) (l + n) UNK) ((A.kill b).alloc (.row ((cs.drop o).take (l * z) ++ new) E false)) := by
                            intro hlt
                            refine (grow h0 hlt (fun k => firstOf_sound (hR.drawn k) (Nat.le_refl l) hs hold) (firstOf_len hold)).sub (fun k x hk => ?_) (by simp)
                            rw [AH.get_alloc, AH.next_kill] at hk
                            rw [AH.get_alloc]
                            split at hk
                            · rw [if_pos ‹_›]; exact hk
                            · rw [if_neg ‹_›]; rw [AH.get_kill] at hk; split at hk
                              · cases hk
                              · exact hk
                          by_cases hle : l + n ≤ c'
                          · have hin : ∃ p, m b = some p ∧ a' = some ⟨p.b, p.base + o, none⟩ ∧ p.base + o + c' * p.sz = p.tot ∧ c' < UNK := by
                              cases hs with
                              | slice _ _ _ _ p hp hc => exact absurd rfl hc
                              | sliceU _ _ _ c' p hp hn' ht hcc => exact ⟨p, hp, rfl, ht, hcc⟩
                              | sliceE => omega
                            obtain ⟨p, hp, rfl, ht, hcc⟩ := hin
                            obtain ⟨cur, fr, hg, htot, hsz, hfr, hlen', hl⟩ := held_row hR hb hp
                            obtain rfl := hfr rfl
                            have hps := hsz z hz
                            have h1' : ∀ v ∈ new'.toList, oneB v = true := by
                              intro v' hm
                              obtain ⟨i, hi, ei⟩ := List.getElem_of_mem hm
                              have hi' : i < new.length := by rw [hnl.1]; exact hi
                              rw [(hnl.2 i new[i] v' (List.getElem?_eq_getElem hi') (by rw [List.getElem?_eq_getElem hi, ei])).one]
                              exact List.all_eq_true.1 hone _ (List.getElem_mem hi')
                            have hnz : new'.toList.length = n * z := by rw [← hnl.1, hnewl]
                            have hfits : p.base + o + l * z + n * z ≤ cur.size := by
                              have := Nat.mul_le_mul_right z hle
                              rw [Nat.add_mul] at this
                              rw [hps] at ht; omega
                            have hrun := run_sc (P := P) (a := ⟨p.b, p.base + o + l * z, none⟩) rfl new'.toList 0 w cur hg h1' (by show p.base + o + l * z + 0 + _ ≤ _; rw [hnz]; omega)
                            simp only [Nat.add_zero] at hrun
                            have hsl : (spl cur.toList (p.base + o + l * z) new'.toList).length = cur.size := by rw [spl_length _ _ _ (by rw [hnz]; simpa using hfits)]; simp
                            have hput : (World.put w p.b (.cells (spl cur.toList (p.base + o + l * z) new'.toList).toArray E (0, 0))).heap[p.b]? = some (.cells (spl cur.toList (p.base + o + l * z) new'.toList).toArray E (0, 0)) := by
                              rw [World.put_get _ _ _ _ (hR.low b p hp), if_pos rfl]
                            obtain ⟨q1, q2⟩ := hR.put (y := .row (cs.take (o + l * z)) E false) (o := .cells (spl cur.toList (p.base + o + l * z) new'.toList).toArray E (0, 0)) hb rfl rfl hp (by
                              refine ⟨p, _, (0, 0), hp, hput, by simp [hsl, htot], hsz, fun _ => rfl, by simp [hsl]; omega, ?_⟩
                              have e1 : (cs.take (o + l * z)).length = o + l * z := by simp; omega
                              rw [e1]
                              have e2 : (((spl cur.toList (p.base + o + l * z) new'.toList).toArray).toList.drop p.base).take (o + l * z) = ((cur.toList.drop p.base).take cs.length).take (o + l * z) := by
                                simp only [spl, List.take_take, Nat.min_eq_left hlo]
                                rw [List.append_assoc, List.drop_append_of_le_length (by simp; omega), List.take_append_of_le_length (by simp; omega), List.drop_take, List.take_take]
                                congr 1; omega
                              rw [e2]; exact hl.take _)
                            have hb2 : (A.set b (.row (cs.take (o + l * z)) E false)).get b = some (.row (cs.take (o + l * z)) E false) := by rw [AH.get_set, if_pos rfl]
                            have hle' := Mp.upd_le (m := m) (n := A.next) ⟨p.b, p.base + o, p.tot, p.sz⟩ (hR.fresh _ (Nat.le_refl _)).2
                            obtain ⟨q3, q4⟩ := q1.rename (q := ⟨p.b, p.base + o, p.tot, p.sz⟩) (y := .row ((cs.drop o).take (l * z) ++ new) E false) hb2 rfl rfl hp rfl (by
                              refine ⟨_, _, (0, 0), Mp.upd_same _ _ _, hput, by simp [hsl, htot], hsz, fun _ => rfl, by simp [hsl, hnewl]; omega, ?_⟩
                              have e1 : ((cs.drop o).take (l * z) ++ new).length = l * z + n * z := by simp [hnewl]; omega
                              rw [e1]
                              have e2 : (((spl cur.toList (p.base + o + l * z) new'.toList).toArray).toList.drop (p.base + o)).take (l * z + n * z) = (cur.toList.drop (p.base + o)).take (l * z) ++ new'.toList := by
                                simp only [spl]
                                rw [List.append_assoc, List.drop_append_of_le_length (by simp; omega), List.drop_take, ← List.append_assoc, List.take_append_of_le_length (by simp [hnz]; omega), List.take_of_length_le (by simp [hnz]; omega)]
                                congr 2; omega
                              rw [e2]
                              exact ((hl.window o (l * z) hlo).append hnl).mono hle')
                            have hgk : ∀ k, ((A.kill b).alloc (.row ((cs.drop o).take (l * z) ++ new) E false)).get k = (((A.set b (.row (cs.take (o + l * z)) E false)).kill b).alloc (.row ((cs.drop o).take (l * z) ++ new) E false)).get k := by
                              intro k
                              rw [AH.get_alloc, AH.get_alloc, AH.next_kill, AH.next_kill, AH.next_set]
                              by_cases e1 : k = A.next
                              · rw [if_pos e1, if_pos e1]
                              · rw [if_neg e1, if_neg e1, AH.get_kill, AH.get_kill, AH.get_set]
                                by_cases e2 : k = b
                                · rw [if_pos e2, if_pos e2]
                                · rw [if_neg e2, if_neg e2, if_neg e2]
                            refine ⟨_, _, .slice (some ⟨p.b, p.base + o, none⟩) (l + n) c', ?_, q3.ext hgk (by simp), .sliceU A.next 0 (l + n) c' ⟨p.b, p.base + o, p.tot, p.sz⟩ (Mp.upd_same _ _ _) hle ht hcc, (q2.trans q4).ext hgk (by simp)⟩
                            refine run_room hT hX h0 h1 hXi hu hz hlen hle hnr ?_
                            simp only []
                            rw [add_spot _ rfl]
                            simp only []
                            rw [run_bind _ _ _ hrun]; rfl
                          · exact out (by omega)
                        · cases h
                    · cases h
                  · cases h
                · rename_i hcu
                  split at h
                  · rename_i hfit
                    split at h
                    · rename_i cs E hb
                      split at h
                      · rename_i hc
                        simp only [Option.some.injEq, Prod.mk.injEq] at h
                        obtain ⟨rfl, rfl⟩ := h
                        have hin : ∃ p, m b = some p ∧ a' = some ⟨p.b, p.base + o, none⟩ ∧ c' = c := by
                          cases hs with
                          | slice _ _ _ _ p hp hc => exact ⟨p, hp, rfl, rfl⟩
                          | sliceU => exact absurd rfl hcu
                          | sliceE => exact absurd rfl hcu
                          | slice0 => omega
                        obtain ⟨p, hp, rfl, rfl⟩ := hin
                        have hfit' : o + l * z + new.length ≤ cs.length := by have := hc.1; rw [hnewl]; rw [Nat.add_mul] at this; omega
                        obtain ⟨m', w', r1, r2, r3⟩ := store_cells hR (o := o + l * z) hb hp hnl hc.2 hfit'
                        refine ⟨m', w', .slice (some ⟨p.b, p.base + o, none⟩) (l + n) c', ?_, r2, .slice b o _ _ p (r3.mono _ _ hp) hcu, r3⟩
                        refine run_room hT hX h0 h1 hXi hu hz hlen hfit hnr ?_
                        simp only []
                        rw [add_spot _ rfl]
                        simp only [Nat.add_assoc]
                        rw [run_bind _ _ _ r1]; rfl
                      · cases h
                    · cases h
                  · rename_i hfit
                    rw [Option.bind_eq_some_iff] at h
                    obtain ⟨old, hold, h⟩ := h
                    simp only [Option.some.injEq, Prod.mk.injEq] at h
                    obtain ⟨rfl, rfl⟩ := h
                    have hcc : c' = c := by
                      cases hs with
                      | slice => rfl
                      | sliceU => exact absurd rfl hcu
                      | sliceE => exact absurd rfl hcu
                      | slice0 => rfl
                    subst hcc
                    exact grow h0 (by omega) (fun k => firstOf_sound (hR.drawn k) (Nat.le_refl l) hs hold) (firstOf_len hold)
              · cases h
        · cases h
      · cases h
  · cases h
end Go.AI
/- AIm: maps whose keys are numbers, strings, or structs of them. -/
namespace Go.AI
open Go Go.RowKit
variable {P : Program}
def aKeyAll (f : Field → Bool) : List Field → Bool
  | [] => true
  | x :: xs => (x.name == "_" || f x) && aKeyAll f xs
/-- May a value be a key? -/
def aKey (P : Program) : Nat → TypeId → Value → Bool
  | 0, _, _ => false
  | k + 1, t, v =>
    match P.underlying t, v with
    | some (.int _), .int .. => true
    | some .string, .string _ => true
    | some .bool, .bool _ => true
    | some (.struct fs), .agg cs => aKeyAll (fun f => match aPart P f.type cs.toList f.offset with | some a => aKey P k f.type a | none => false) fs.toList
    | _, _ => false
theorem keyAll_sound {m : Mp} {w : World} {cs cs' : Array Value} (hc : LRel m cs.toList cs'.toList) (e : Bool) (d : Nat) (g : TypeId → Value → Bool) (hg : ∀ t a a', VRel m a a' → g t a = true → (Instr.checkKey e d t a').run P w = .ok () w) :
    ∀ fs : List Field, aKeyAll (fun f => match aPart P f.type cs.toList f.offset with | some a => g f.type a | none => false) fs = true →
      (forIn fs PUnit.unit (fun (f : Field) (_ : PUnit) => (do
        if f.name ≠ "_" then Instr.checkKey e d f.type (← part f.type cs' f.offset)
        pure (ForInStep.yield PUnit.unit) : Sem (ForInStep PUnit)))).run P w = .ok PUnit.unit w := by
  intro fs
  induction fs with
  | nil => intro _; rfl
  | cons f fs ih =>
    intro h
    simp only [aKeyAll, Bool.and_eq_true, Bool.or_eq_true, beq_iff_eq] at h
    rw [List.forIn_cons]
    by_cases hn : f.name = "_"
    · simp only [hn, ne_eq, not_true_eq_false, if_false, pure_bind]
      exact ih h.2
    · have h1 := h.1.resolve_left hn
      split at h1
      · rename_i a ha
        obtain ⟨a', ra, hva⟩ := aPart_sound (w := w) hc ha
        have hk := hg _ _ _ hva h1
        rw [if_pos hn]
        simp only [bind_assoc]
        rw [run_bind _ _ _ ra, run_bind _ _ _ hk]
        simp only [pure_bind]
        exact ih h.2
      · cases h1
theorem aKey_sound {m : Mp} {w : World} (e : Bool) : ∀ (k : Nat) (t : TypeId) (v v' : Value), VRel m v v' → aKey P k t v = true → ∀ d, k ≤ d → (Instr.checkKey e d t v').run P w = .ok () w := by
  intro k
  induction k with
  | zero => intro t v v' _ h; cases h
  | succ k ih =>
    intro t v v' hv h d hd
    obtain ⟨d, rfl⟩ : ∃ j, d = j + 1 := ⟨d - 1, by omega⟩
    simp only [aKey] at h
    split at h
    · rename_i hu; cases hv; unfold Instr.checkKey; rw [run_bind _ _ _ (run_un hu w)]; rfl
    · rename_i hu; cases hv; unfold Instr.checkKey; rw [run_bind _ _ _ (run_un hu w)]; rfl
    · rename_i hu; cases hv; unfold Instr.checkKey; rw [run_bind _ _ _ (run_un hu w)]; rfl
    · rename_i fs cs hu
      cases hv with
      | agg _ cs' e1 e2 =>
        unfold Instr.checkKey; rw [run_bind _ _ _ (run_un hu w)]
        simp only []
        have := keyAll_sound (w := w) (VRel.agg_iff.1 (.agg cs cs' e1 e2)) e d (aKey P k) (fun t a a' ha hk => ih t a a' ha hk d (by omega)) fs.toList h
        rw [← Array.forIn_toList]
        rw [run_bind _ _ _ this]; rfl
    · cases h
/-- Where a key stands among entries. -/
def aFind (P : Program) (A : AH) (kt : TypeId) (k : Value) : List (Value × Value) → Nat → Option (Option (Nat × Value))
  | [], _ => some none
  | e :: es, i =>
    match aEq P A 20 kt k e.1 with
    | some true => some (some (i, e.2))
    | some false => aFind P A kt k es (i + 1)
    | none => none
def ERelL (m : Mp) (es : List (Value × Value)) (es' : List MapEntry) : Prop := es.length = es'.length ∧ ∀ (i : Nat) p e, es[i]? = some p → es'[i]? = some e → VRel m p.1 e.key ∧ VRel m p.2 e.val
theorem aFind_sound {m : Mp} {A : AH} {w : World} (hR : Rel P m A w) {kt : TypeId} {k k' : Value} (hk : VRel m k k') : ∀ (es : List (Value × Value)) (es' : List MapEntry) (i : Nat) (r : Option (Nat × Value)), ERelL m es es' → aFind P A kt k es i = some r →
    ∃ r', (Instr.findAsking kt k' es' i).run P w = .ok r' w ∧ ((r = none ∧ r' = none) ∨ ∃ j v v', r = some (j, v) ∧ r' = some (j, v') ∧ VRel m v v' ∧ i ≤ j ∧ ∃ q, es[j - i]? = some (q, v)) := by
  intro es
  induction es with
  | nil =>
    intro es' i r hl h
    have : es' = [] := List.eq_nil_of_length_eq_zero hl.1.symm
    subst this
    injection h with h; subst h
    exact ⟨none, rfl, .inl ⟨rfl, rfl⟩⟩
  | cons p es ih =>
    intro es' i r hl h
    cases es' with
    | nil => have := hl.1; simp at this
    | cons e es' =>
      obtain ⟨hk1, hv1⟩ := hl.2 0 _ _ rfl rfl
      have hl' : ERelL m es es' := ⟨by have := hl.1; simpa using this, fun j a b e e' => hl.2 (j + 1) a b (by simpa using e) (by simpa using e')⟩
      simp only [aFind] at h
      split at h
      · rename_i he
        injection h with h; subst h
        refine ⟨some (i, e.val), ?_, .inr ⟨i, p.2, e.val, rfl, rfl, hv1, Nat.le_refl _, p.1, by simp⟩⟩
        simp only [Instr.findAsking]
        rw [run_bind _ _ _ (show (Op.equal kt k' e.key).run P w = _ from aEq_sound hR 20 kt _ _ _ _ true hk hk1 he 10000 (by omega))]; rfl
      · rename_i he
        obtain ⟨r', hr, hrr⟩ := ih es' (i + 1) r hl' h
        refine ⟨r', ?_, ?_⟩
        · simp only [Instr.findAsking]
          rw [run_bind _ _ _ (show (Op.equal kt k' e.key).run P w = _ from aEq_sound hR 20 kt _ _ _ _ false hk hk1 he 10000 (by omega))]
          exact hr
        · rcases hrr with h | ⟨j, v, v', h1, h2, h3, h4, q, h5⟩
          · exact .inl h
          · refine .inr ⟨j, v, v', h1, h2, h3, by omega, q, ?_⟩
            rw [show j - i = (j - (i + 1)) + 1 by omega, List.getElem?_cons_succ]; exact h5
      · cases h
/-- Where findNow tells something, it tells what findAsking tells. -/
theorem findNow_eq {w : World} {kt : TypeId} {d : TypeDesc} (hu : P.underlying kt = some d) (k : Value) : ∀ (es : List MapEntry) (i : Nat) (r : Option (Nat × Value)), Instr.findNow d k es i = some r → (Instr.findAsking kt k es i).run P w = .ok r w := by
  intro es
  induction es with
  | nil => intro i r h; injection h with h; subst h; rfl
  | cons e es ih =>
    intro i r h
    simp only [Instr.findNow] at h
    have key : ∀ b, Instr.sameNow d k e.key = some b → (Op.equal kt k e.key).run P w = .ok b w := by
      intro b hb
      generalize e.key = kk at hb ⊢
      unfold Instr.sameNow at hb
      split at hb
      · split at hb
        · rename_i hk; subst hk; injection hb with hb; subst hb
          exact run_equalIn_int w 9999 kt _ _ _ _ hu
        · cases hb
      · injection hb with hb; subst hb
        show (Op.equalIn 10000 kt _ _).run P w = _
        unfold Op.equalIn; rw [run_bind _ _ _ (run_un hu w)]; rfl
      · injection hb with hb; subst hb
        show (Op.equalIn 10000 kt _ _).run P w = _
        unfold Op.equalIn; rw [run_bind _ _ _ (run_un hu w)]; rfl
      · cases hb
    simp only [Instr.findAsking]
    split at h
    · rename_i hs
      injection h with h; subst h
      rw [run_bind _ _ _ (key _ hs)]; rfl
    · rename_i hs
      rw [run_bind _ _ _ (key _ hs)]
      exact ih (i + 1) r h
    · cases h
theorem run_find {w : World} {kt : TypeId} {d : TypeDesc} (hu : P.underlying kt = some d) {k : Value} {es : List MapEntry} {r : Option (Nat × Value)} (h : (Instr.findAsking kt k es).run P w = .ok r w) : (Instr.findKey kt k es).run P w = .ok r w := by
  unfold Instr.findKey
  rw [run_bind _ _ _ (run_un hu w)]
  split
  · rename_i r' hr
    have := findNow_eq (P := P) (w := w) hu k es 0 r' hr
    rw [h] at this; injection this with this; subst this; rfl
  · exact h
def mapOf (P : Program) (T : TypeId) : Option (TypeId × TypeId) := match P.underlying T with | some (.map k e) => some (k, e) | _ => none
theorem mapOf_spec {T k e : TypeId} (h : mapOf P T = some (k, e)) : P.underlying T = some (.map k e) := by
  unfold mapOf at h; split at h
  · injection h with h; injection h with h1 h2; subst h1 h2; assumption
  · cases h
def aLookup (P : Program) (T : TypeId) (x k : Value) (ok : Bool) (A : AH) : Option Value :=
  match x, mapOf P T with
  | .map (some b), some (kt, et) =>
    match A.get b, zeroOf P et with
    | some (.mp es), some z =>
      if aKey P 20 kt k = true ∧ (P.underlying kt).isSome then
        (aFind P A kt k es 0).map fun r =>
          match r with
          | some q => if ok then .tuple #[q.2, .bool true] else q.2
          | none => if ok then .tuple #[z, .bool false] else z
      else none
    | _, _ => none
  | _, _ => none
theorem held_map {m : Mp} {A : AH} {w : World} (hR : Rel P m A w) {b : Nat} {es : List (Value × Value)} {p : Pl} (hb : A.get b = some (.mp es)) (hp : m b = some p) :
    ∃ ents clk, w.heap[p.b]? = some (.map ents clk) ∧ ERelL m es ents.toList := by
  obtain ⟨q, ents, clk, hq, hg, hn, he⟩ := hR.held b _ hb
  rw [hp] at hq; injection hq with hq; subst hq
  refine ⟨ents, clk, hg, by simpa using hn.symm, fun i pr e h1 h2 => ?_⟩
  obtain ⟨e', h3, h4, h5⟩ := he i pr.1 pr.2 h1
  rw [Array.getElem?_toList, h3] at h2
  injection h2 with h2; subst h2
  exact ⟨h4, h5⟩
theorem tup2 {m : Mp} {a a' b b' : Value} (h1 : VRel m a a') (h2 : VRel m b b') : VRel m (.tuple #[a, b]) (.tuple #[a', b']) := VRel.tuple_iff.2 (LRel.cons h1 (LRel.cons h2 (LRel.nil m)))
theorem aLookup_sound {m : Mp} {A : AH} {w : World} (hR : Rel P m A w) {T : TypeId} {x x' k k' v : Value} {ok : Bool} (hx : VRel m x x') (hk : VRel m k k') (h : aLookup P T x k ok A = some v) : SV P m A w (Instr.lookup T x' k' ok) v A := by
  unfold aLookup at h
  split at h
  · rename_i b kt et hm
    have hu := mapOf_spec hm
    split at h
    · rename_i es z hb hz
      split at h
      · rename_i hkk
        obtain ⟨hkk, hks⟩ := hkk
        obtain ⟨d, hd⟩ := Option.isSome_iff_exists.1 hks
        simp only [Option.map_eq_some_iff] at h
        obtain ⟨r, hr, rfl⟩ := h
        cases hx with
        | map _ p hp =>
          obtain ⟨ents, clk, hg, hl⟩ := held_map hR hb hp
          obtain ⟨r', hrun, hrr⟩ := aFind_sound hR hk es ents.toList 0 r hl hr
          have hgo : (getObj p.b).run P w = .ok (.map ents clk) w := by simp [getObj, Sem.run, hg]
          have start : ∀ {q : Result Value}, ((do
              let (v, ok') ← match r' with
                | some (_, v) => pure (v, true)
                | none => pure (← zeroValue et, false)
              pure (if ok then .tuple #[v, .bool ok'] else v) : Sem Value)).run P w = q → (Instr.lookup T (.map (some p.b)) k' ok).run P w = q := by
            intro q hq
            unfold Instr.lookup
            rw [run_bind _ _ _ (run_un hu w)]
            simp only []
            rw [run_bind _ _ _ hgo]
            simp only [pure_bind]
            rw [run_bind _ _ _ (aKey_sound (w := w) ents.isEmpty 20 kt k k' hk hkk 10000 (by omega))]
            rw [run_bind _ _ _ (run_find hd hrun)]
            exact hq
          rcases hrr with ⟨rfl, rfl⟩ | ⟨j, v, v', rfl, rfl, hv, _⟩
          · have hzr := plainV_rel m z (zero_plain hz)
            cases ok with
            | true =>
              refine SV.pure hR (start ?_) (tup2 hzr (.bool false))
              simp only []; rw [run_bind _ _ _ (run_zero hz w)]; rfl
            | false =>
              refine SV.pure hR (start ?_) hzr
              simp only []; rw [run_bind _ _ _ (run_zero hz w)]; rfl
          · cases ok with
            | true => exact SV.pure hR (start rfl) (tup2 hv (.bool true))
            | false => exact SV.pure hR (start rfl) hv
      · cases h
    · cases h
  · cases h
def aMakeMap (A : AH) : Value × AH := (.map (some A.next), A.alloc (.mp []))
theorem aMakeMap_sound {m : Mp} {A : AH} {w : World} (hR : Rel P m A w) (T : TypeId) : SV P m A w (Instr.makeMap T none) (aMakeMap A).1 (aMakeMap A).2 := by
  obtain ⟨r1, r2⟩ := hR.allocMap
  refine ⟨_, _, .map (some w.heap.size), ?_, r1, ?_, r2⟩
  · unfold Instr.makeMap
    simp only []
    rw [run_bind _ _ _ (run_new _ w)]; rfl
  · exact .map A.next _ (Mp.upd_same _ _ _)
/-- The same cell. -/
def eqCell : Value → Value → Bool
  | .int k a, .int k' b => decide (k = k') && decide (a = b)
  | .bool a, .bool b => a == b
  | .string a, .string b => decide (a = b)
  | _, _ => false
def eqCells : List Value → List Value → Bool
  | [], [] => true
  | a :: as, b :: bs => eqCell a b && eqCells as bs
  | _, _ => false
def eqFlat : Value → Value → Bool
  | .agg a, .agg b => eqCells a.toList b.toList
  | a, b => eqCell a b
theorem eqCell_rel {m : Mp} {a b a' b' : Value} (h : eqCell a b = true) (ha : VRel m a a') (hb : VRel m b b') : a' = b' := by
  cases ha <;> cases hb <;> simp [eqCell, junkV] at h <;> simp_all
theorem eqCells_rel {m : Mp} : ∀ (a b a' b' : List Value), eqCells a b = true → LRel m a a' → LRel m b b' → a' = b'
  | [], [], a', b', _, ha, hb => by
    have h1 : a' = [] := List.eq_nil_of_length_eq_zero ha.1.symm
    have h2 : b' = [] := List.eq_nil_of_length_eq_zero hb.1.symm
    rw [h1, h2]
  | x :: a, y :: b, a', b', h, ha, hb => by
    simp only [eqCells, Bool.and_eq_true] at h
    cases a' with
    | nil => have := ha.1; simp at this
    | cons x' a' =>
      cases b' with
      | nil => have := hb.1; simp at this
      | cons y' b' =>
        have e1 := eqCell_rel h.1 (ha.2 0 _ _ rfl rfl) (hb.2 0 _ _ rfl rfl)
        have e2 := eqCells_rel a b a' b' h.2 ⟨by have := ha.1; simpa using this, fun j a b e e' => ha.2 (j + 1) a b (by simpa using e) (by simpa using e')⟩ ⟨by have := hb.1; simpa using this, fun j a b e e' => hb.2 (j + 1) a b (by simpa using e) (by simpa using e')⟩
        rw [e1, e2]
  | [], _ :: _, _, _, h, _, _ => by cases h
  | _ :: _, [], _, _, h, _, _ => by cases h
theorem eqFlat_rel {m : Mp} {a b a' b' : Value} (h : eqFlat a b = true) (ha : VRel m a a') (hb : VRel m b b') : a' = b' := by
  by_cases hx : ∃ x y, a = .agg x ∧ b = .agg y
  · obtain ⟨x, y, rfl, rfl⟩ := hx
    cases ha with
    | agg _ x' e1 e2 =>
      cases hb with
      | agg _ y' e3 e4 =>
        have := eqCells_rel _ _ _ _ h (VRel.agg_iff.1 (.agg x x' e1 e2)) (VRel.agg_iff.1 (.agg y y' e3 e4))
        rw [Array.toList_inj.1 this]
  · have : eqFlat a b = eqCell a b := by
      unfold eqFlat
      split
      · exact absurd ⟨_, _, rfl, rfl⟩ hx
      · rfl
    rw [this] at h
    exact eqCell_rel h ha hb
theorem run_stays (old new : Value) (w : World) : ∃ k r, (Instr.keyThatStays old new).run P w = .ok r { w with drawn := k } ∧ (r = old ∨ r = new) := by
  unfold Instr.keyThatStays
  split
  · exact ⟨w.drawn, new, rfl, .inr rfl⟩
  · refine ⟨w.drawn + 1, if (Question.extern "map.whichKeyStays" 2).cut (w.tape w.drawn (.extern "map.whichKeyStays" 2)) = 0 then new else old, ?_, ?_⟩
    · have : (choose (.extern "map.whichKeyStays" 2)).run P w = .ok ((Question.extern "map.whichKeyStays" 2).cut (w.tape w.drawn (.extern "map.whichKeyStays" 2))) { w with drawn := w.drawn + 1 } := by
        simp [choose, Sem.run, Question.forced]
      rw [run_bind _ _ _ this]; rfl
    · split
      · exact .inr rfl
      · exact .inl rfl
def aMapSet (P : Program) (T : TypeId) (x k v : Value) (A : AH) : Option AH :=
  match x, mapOf P T with
  | .map (some b), some (kt, _) =>
    match A.get b with
    | some (.mp es) =>
      if aKey P 20 kt k = true ∧ (P.underlying kt).isSome then
        match aFind P A kt k es 0 with
        | some (some q) =>
          match es[q.1]? with
          | some e => if eqFlat e.1 k = true then some (A.set b (.mp (es.set q.1 (k, v)))) else none
          | none => none
        | some none => some (A.set b (.mp (es ++ [(k, v)])))
        | none => none
      else none
    | _ => none
  | _, _ => none
theorem aMapSet_sound {m : Mp} {A A' : AH} {w : World} (hR : Rel P m A w) {T : TypeId} {x x' k k' v v' : Value} (hx : VRel m x x') (hk : VRel m k k') (hv : VRel m v v') (h : aMapSet P T x k v A = some A') : SU P m A w (Instr.mapUpdate T x' k' v') A' := by
  unfold aMapSet at h
  split at h
  · rename_i b kt et hm
    have hu := mapOf_spec hm
    split at h
    · rename_i es hb
      split at h
      · rename_i hkk
        obtain ⟨hkk, hks⟩ := hkk
        obtain ⟨d, hd⟩ := Option.isSome_iff_exists.1 hks
        cases hx with
        | map _ p hp =>
          obtain ⟨ents, clk, hg, hl⟩ := held_map hR hb hp
          have hgo : (getObj p.b).run P w = .ok (.map ents clk) w := by simp [getObj, Sem.run, hg]
          have start : ∀ {r' : Option (Nat × Value)}, (Instr.findAsking kt k' ents.toList).run P w = .ok r' w → ∀ {q : Result Unit}, ((match r' with
              | some (i, _) => do
                let key ← Instr.keyThatStays (((ents[i]?).map (·.key)).getD k') k'
                setObj p.b (.map (ents.modify i fun e => { e with key, val := v' }) clk)
              | none => setObj p.b (.map (ents.push { key := k', val := v', born := clk }) (clk + 1)) : Sem Unit)).run P w = q → (Instr.mapUpdate T (.map (some p.b)) k' v').run P w = q := by
            intro r' hrun q hq
            unfold Instr.mapUpdate
            rw [run_bind _ _ _ (run_un hu w)]
            simp only []
            rw [run_bind _ _ _ hgo]
            simp only []
            rw [run_bind _ _ _ (aKey_sound (w := w) false 20 kt k k' hk hkk 10000 (by omega))]
            rw [run_bind _ _ _ (run_find hd hrun)]
            exact hq
          have set_ : ∀ (w : World) (o : Obj), w.heap[p.b]? = some (.map ents clk) → (setObj p.b o).run P w = .ok () (World.put w p.b o) := by
            intro w o hg; simp [setObj, Sem.run, hg]; rfl
          split at h
          · rename_i q hq
            split at h
            · rename_i e he
              split at h
              · rename_i hsame
                injection h with h; subst h
                obtain ⟨r', hrun, hrr⟩ := aFind_sound hR hk es ents.toList 0 _ hl hq
                rcases hrr with ⟨h1, _⟩ | ⟨j, u, u', h1, rfl, _, _, _⟩
                · cases h1
                · injection h1 with h1; subst h1
                  have hlt : j < es.length := (List.getElem?_eq_some_iff.1 he).1
                  have hlt' : j < ents.size := by have := hl.1; simp at this; omega
                  have hent : ents[j]? = some ents[j] := Array.getElem?_eq_getElem hlt'
                  have hold := (hl.2 j e ents[j] he (by rw [Array.getElem?_toList]; exact hent)).1
                  have hkeq := eqFlat_rel hsame hold hk
                  obtain ⟨kk, r, hst, hor⟩ := run_stays (P := P) (((ents[j]?).map (·.key)).getD k') k' w
                  have hr : r = k' := by
                    rcases hor with h | h
                    · rw [h, hent]; exact hkeq
                    · exact h
                  subst hr
                  have hRk := hR.drawn kk
                  obtain ⟨r1, r2⟩ := hRk.put (y := .mp (es.set j (k, v))) (o := .map (ents.modify j fun e => { e with key := r, val := v' }) clk) hb rfl rfl hp (by
                    refine ⟨p, _, clk, hp, by rw [World.put_get _ _ _ _ (hRk.low b p hp), if_pos rfl], by have := hl.1; simp at this; simp [this], fun i a c hac => ?_⟩
                    rw [List.getElem?_set] at hac
                    have hil : i < es.length := by
                      split at hac
                      · omega
                      · exact (List.getElem?_eq_some_iff.1 hac).1
                    have hil' : i < ents.size := by have := hl.1; simp at this; omega
                    rw [Array.getElem?_modify]
                    split at hac
                    · rename_i hji
                      subst hji
                      injection hac with hac; injection hac with h3 h4; subst h3 h4
                      rw [if_pos rfl, hent]
                      exact ⟨_, rfl, hk, hv⟩
                    · rename_i hji
                      rw [if_neg hji]
                      have he' : ents[i]? = some ents[i] := Array.getElem?_eq_getElem hil'
                      rw [he']
                      exact ⟨_, rfl, hl.2 i (a, c) ents[i] hac (by rw [Array.getElem?_toList]; exact he')⟩)
                  refine ⟨m, _, start hrun ?_, r1, (Step.drawn m A w kk).trans r2⟩
                  simp only []
                  rw [run_bind _ _ _ hst]
                  exact set_ _ _ hg
              · cases h
            · cases h
          · rename_i hq
            injection h with h; subst h
            obtain ⟨r', hrun, hrr⟩ := aFind_sound hR hk es ents.toList 0 _ hl hq
            rcases hrr with ⟨_, rfl⟩ | ⟨j, u, u', h1, _⟩
            · obtain ⟨r1, r2⟩ := hR.put (y := .mp (es ++ [(k, v)])) (o := .map (ents.push { key := k', val := v', born := clk }) (clk + 1)) hb rfl rfl hp (by
                refine ⟨p, _, clk + 1, hp, by rw [World.put_get _ _ _ _ (hR.low b p hp), if_pos rfl], by have := hl.1; simp at this; simp [this], fun i a c hac => ?_⟩
                have hle := hl.1
                simp only [Array.length_toList] at hle
                rw [Array.getElem?_push]
                rcases Nat.lt_or_ge i es.length with hi | hi
                · rw [List.getElem?_append_left hi] at hac
                  rw [if_neg (by omega)]
                  have he' : ents[i]? = some ents[i] := Array.getElem?_eq_getElem (by omega)
                  rw [he']
                  exact ⟨_, rfl, hl.2 i (a, c) ents[i] hac (by rw [Array.getElem?_toList]; exact he')⟩
                · rw [List.getElem?_append_right hi] at hac
                  have : i = es.length := by
                    rcases Nat.lt_or_ge (i - es.length) 1 with h | h
                    · omega
                    · rw [List.getElem?_eq_none (by simpa using h)] at hac; cases hac
                  subst this
                  simp at hac
                  obtain ⟨rfl, rfl⟩ := hac
                  rw [if_pos hle]
                  exact ⟨_, rfl, hk, hv⟩)
              exact ⟨m, _, start hrun (set_ _ _ hg), r1, r2⟩
            · cases h1
          · cases h
      · cases h
    · cases h
  · cases h
end Go.AI
/- AIl: so many zeros appended. -/
namespace Go.AI
open Go Go.RowKit
variable {P : Program}
def aAppendZ (P : Program) (T X : TypeId) (s x : Value) (A : AH) : Option (Value × AH) :=
  match s, x with
  | .slice a l c, .int _ i =>
    if notInt P X = true then none else
    match P.underlying X with
    | none => none
    | some _ =>
    match sliceElem P T with
    | some e =>
      match szOf P e, byOf P e, zeroOf P e with
      | some z, some y, some zv =>
        if 0 ≤ i ∧ l + i.toNat ≤ 1099511627776 ∧ (l + i.toNat) * y ≤ 17592186044416 ∧ y ≤ 1048576 ∧ zv.cells.size = z ∧ c ≠ UNK ∧ c < l + i.toNat then
          (firstOf A z l (.slice a l c)).bind fun old => some (.slice (some ⟨A.next, 0, none⟩) (l + i.toNat) UNK, A.alloc (.row (old ++ zrep i.toNat zv.cells.toList) e false))
        else none
      | _, _, _ => none
    | none => none
  | _, _ => none
theorem zeroCells_eq (z : Array Value) (k : Nat) : (Builtin.zeroCells z k).toList = zrep k z.toList := zeros_eq z k
theorem zrep_len {z : Nat} (l : List Value) (h : l.length = z) : ∀ k, (zrep k l).length = k * z := fun k => by simp [zrep, h]
theorem aAppendZ_sound {m : Mp} {A A' : AH} {w : World} (hR : Rel P m A w) {Ts : Array TypeId} {T X R : TypeId} {s x s' x' v : Value} {xs : Array Value} (hT : Ts[0]? = some T) (hX : Ts[1]? = some X) (h0 : xs[0]? = some s') (h1 : xs[1]? = some x') (hs : VRel m s s') (hx : VRel m x x')
    (h : aAppendZ P T X s x A = some (v, A')) : SV P m A w (Builtin.append_ Ts R xs) v A' := by
  unfold aAppendZ at h
  split at h
  · rename_i a l c ki n
    split at h
    · cases h
    · rename_i hXi
      split at h
      · cases h
      · rename_i d hd
        obtain ⟨kd, rfl⟩ : ∃ k, d = .int k := by
          unfold notInt at hXi; rw [hd] at hXi
          cases d <;> first | exact ⟨_, rfl⟩ | simp at hXi
        split at h
        · rename_i e he
          have hu := sliceElem_spec he
          split at h
          · rename_i z y zv hz hy hzv
            split at h
            · rename_i hbs
              obtain ⟨hn0, hb1, hb2, hb3, hb4, hcU, hgr⟩ := hbs
              rw [Option.bind_eq_some_iff] at h
              obtain ⟨old, hold, h⟩ := h
              simp only [Option.some.injEq, Prod.mk.injEq] at h
              obtain ⟨rfl, rfl⟩ := h
              obtain ⟨a', rfl⟩ : ∃ a', s' = .slice a' l c := by
                cases hs with
                | snil => exact ⟨_, rfl⟩
                | slice => exact ⟨_, rfl⟩
                | sliceU => exact absurd rfl hcU
                | sliceE => exact absurd rfl hcU
                | slice0 => exact ⟨_, rfl⟩
              cases hx
              obtain ⟨i, hi, rfl⟩ := byOf_spec hy
              have hwr : IntKind.i64.wrap n = n := IntWalk.i64_in _ (by omega)
              have hnl : LRel m (zrep n.toNat zv.cells.toList) (Builtin.zeroCells zv.cells n.toNat).toList := by
                rw [zeroCells_eq]; exact (plain_cells m zv (zero_plain hzv)).zrep _
              obtain ⟨o', ho, hol⟩ := firstOf_sound (hR.drawn (w.drawn + 1)) (Nat.le_refl l) hs hold
              have hcap : l + n.toNat ≤ (Question.appendCap (l + n.toNat) c e).cut (w.tape w.drawn (.appendCap (l + n.toNat) c e)) ∧ (Question.appendCap (l + n.toNat) c e).cut (w.tape w.drawn (.appendCap (l + n.toNat) c e)) < UNK := by
                refine ⟨by simp only [Question.cut]; exact Nat.le_add_right _ _, ?_⟩
                simp only [Question.cut, UNK]
                have := Nat.mod_lt (w.tape w.drawn (.appendCap (l + n.toNat) c e)) (show 2 ^ 63 - (l + n.toNat) > 0 by omega)
                omega
              have hrun : (Builtin.append_ Ts R xs).run P w = .ok (.slice (some ⟨w.heap.size, 0, none⟩) (l + n.toNat) ((Question.appendCap (l + n.toNat) c e).cut (w.tape w.drawn (.appendCap (l + n.toNat) c e)))) (World.new { w with drawn := w.drawn + 1 } (.cells (o' ++ Builtin.zeroCells zv.cells n.toNat ++ Builtin.zeroCells zv.cells ((Question.appendCap (l + n.toNat) c e).cut (w.tape w.drawn (.appendCap (l + n.toNat) c e)) - (l + n.toNat))) e)) := by
                unfold Builtin.append_
                rw [hT, h0, h1]
                simp only []
                rw [run_bind _ _ _ (run_un hu w)]
                simp only []
                rw [run_bind _ _ _ (run_sz hz w)]
                simp only [hX]
                rw [run_bind _ _ _ (run_un hd w)]
                simp only [pure_bind, if_true, asInt, asIntOf, hwr]
                rw [if_neg (by omega)]
                have hb4' : ¬ n * (i.bytes : Int) > 2 ^ 48 := by
                  have h1 : n.toNat * i.bytes ≤ (l + n.toNat) * i.bytes := Nat.mul_le_mul_right _ (by omega)
                  have h2 : ((n.toNat * i.bytes : Nat) : Int) = n * (i.bytes : Int) := by rw [Int.natCast_mul, Int.toNat_of_nonneg hn0]
                  omega
                rw [run_bind _ _ _ (run_ti hi w)]
                rw [if_neg hb4']
                rw [if_neg (by omega)]
                rw [run_bind _ _ _ (run_ti hi w)]
                rw [if_neg (by intro h; have := h.1; simp [IntKind.max, IntKind.bits] at this; omega)]
                rw [run_bind _ _ _ (run_ti hi w)]
                rw [if_neg (by
                  have := next_le hgr
                  have h2 : Builtin.nextslicecap (l + n.toNat) c * i.bytes ≤ (2 * (l + n.toNat) + 192) * i.bytes := Nat.mul_le_mul_right _ this
                  have h3 : (2 * (l + n.toNat) + 192) * i.bytes = 2 * ((l + n.toNat) * i.bytes) + 192 * i.bytes := by rw [Nat.add_mul, Nat.mul_assoc]
                  omega)]
                have hch : (choose (.appendCap (l + n.toNat) c e)).run P w = .ok ((Question.appendCap (l + n.toNat) c e).cut (w.tape w.drawn (.appendCap (l + n.toNat) c e))) { w with drawn := w.drawn + 1 } := by
                  simp [choose, Sem.run, Question.forced]
                rw [run_bind _ _ _ hch]
                generalize (Question.appendCap (l + n.toNat) c e).cut (w.tape w.drawn (.appendCap (l + n.toNat) c e)) = cap
                rw [run_bind _ _ _ (run_ti hi _)]
                have ask : ∀ k (w : World), (askRoom k).run P w = .ok () w := by intro k w; unfold askRoom; split <;> rfl
                rw [run_bind _ _ _ (ask _ _), run_bind _ _ _ ho]
                simp only [Bool.not_true, if_false, Bool.false_eq_true]
                have hnew : ∀ w : World, (if n.toNat * z = 0 then (pure #[] : Sem (Array Value)) else do pure (Builtin.zeroCells (← zeroValue e).cells n.toNat)).run P w = .ok (Builtin.zeroCells zv.cells n.toNat) w := by
                  intro w
                  by_cases h0 : n.toNat * z = 0
                  · rw [if_pos h0]
                    have : Builtin.zeroCells zv.cells n.toNat = #[] := by unfold Builtin.zeroCells; rw [hb4, h0]; exact map_range0 _
                    rw [this]; rfl
                  · rw [if_neg h0, run_bind _ _ _ (run_zero hzv _)]; rfl
                rw [run_bind _ _ _ (hnew _), run_bind _ _ _ (run_zero hzv _), run_bind _ _ _ (run_newRow _ _ _)]
                rfl
              generalize (Question.appendCap (l + n.toNat) c e).cut (w.tape w.drawn (.appendCap (l + n.toNat) c e)) = cap at hcap hrun
              obtain ⟨r1, r2⟩ := held_grown (hR.drawn (w.drawn + 1)) e (n := cap - (l + n.toNat)) (zv := zv) hol hnl
              refine ⟨_, _, _, hrun, r1, ?_, (Step.drawn m A w (w.drawn + 1)).trans r2⟩
              refine .sliceU A.next 0 _ cap _ (Mp.upd_same _ _ _) hcap.1 ?_ hcap.2
              have e1 : o'.size = l * z := by have := hol.1; rw [firstOf_len hold] at this; simpa using this.symm
              have e2 : (Builtin.zeroCells zv.cells n.toNat).size = n.toNat * z := by simp [Builtin.zeroCells, hb4]
              have e3 : (Builtin.zeroCells zv.cells (cap - (l + n.toNat))).size = (cap - (l + n.toNat)) * z := by simp [Builtin.zeroCells, hb4]
              simp only [Array.size_append, e1, e2, e3, szD_of hz, Nat.zero_add]
              rw [← Nat.add_mul, ← Nat.add_mul, Nat.add_sub_cancel' hcap.1]
            · cases h
          · cases h
        · cases h
  · cases h
end Go.AI
/- AIn: operations. -/
namespace Go.AI
open Go Go.RowKit
variable {P : Program}
def ev (E : Env) : Operand → Value
  | .tmp t => E.get t
  | .const v => v
  | .global g => .pointer (some ⟨g, 0, none⟩)
  | .func f => .func (.func f) #[] #[]
def opdOk : Operand → Bool
  | .tmp _ => true
  | .const v => plainV v
  | .global _ => false
  | .func _ => true
/-- The slots of a frame bear what is known of them. -/
def ERel (m : Mp) (n : Nat) (E : Env) (a : Act) : Prop := a.tmps.size = n ∧ a.defers = [] ∧ ∀ t, VRel m (E.get t) (a.tmps.getD t undef)
theorem ERel.mono {m m' : Mp} (hm : m.le m') {n : Nat} {E : Env} {a : Act} (h : ERel m n E a) : ERel m' n E a := ⟨h.1, h.2.1, fun t => (h.2.2 t).mono hm⟩
theorem ERel.ev {m : Mp} {n : Nat} {E : Env} {a : Act} (h : ERel m n E a) {x : Operand} (hx : opdOk x = true) : VRel m (ev E x) (a.eval x) := by
  cases x with
  | tmp t => exact h.2.2 t
  | const v => exact plainV_rel m v hx
  | global g => cases hx
  | func f => exact .func _ _ _ _ _ rfl (fun i v v' e => by simp at e) rfl (fun i v v' e => by simp at e)
theorem ERel.put {m : Mp} {n : Nat} {E : Env} {a : Act} (h : ERel m n E a) {d : Option Tmp} {v v' : Value} (hd : ∀ t, d = some t → t < n) (hv : VRel m v v') : ERel m n (E.put d v) (a.put d v') := by
  cases d with
  | none => exact h
  | some t =>
    refine ⟨by simp [Act.put, h.1], h.2.1, fun k => ?_⟩
    simp only [Env.put, Env.get_set, Act.put]
    have hlt : t < a.tmps.size := by rw [h.1]; exact hd t rfl
    by_cases e : k = t
    · subst e; rw [if_pos rfl]; simp [Array.getD_eq_getD_getElem?, hlt, hv]
    · rw [if_neg e]
      have := h.2.2 k
      simp only [Array.getD_eq_getD_getElem?, Array.getElem?_setIfInBounds] at this ⊢
      rw [if_neg (by omega)]; exact this
def aBuiltin (P : Program) (b : Builtin) (Ts : Array TypeId) (xs : List Value) (A : AH) : Option (Value × AH) :=
  match b, xs with
  | .len, [x] => (Ts[0]?).bind fun T => (aLen P T x A).map fun v => (v, A)
  | .cap, [x] => (Ts[0]?).bind fun T => (aCap P T x).map fun v => (v, A)
  | .append, [s, x] => (Ts[0]?).bind fun T => (Ts[1]?).bind fun X => (match x with | .int _ _ => aAppendZ P T X s x A | _ => aAppend P T X s x A)
  | .copy, [d, s] => (Ts[0]?).bind fun T => aCopy P T d s A
  | .clear, [x] => (Ts[0]?).bind fun T => (aClear P T x A).map fun A' => (.tuple #[], A')
  | .max, x :: ys => (aFold aMax x ys).map fun v => (v, A)
  | .min, x :: ys => (aFold aMin x ys).map fun v => (v, A)
  | _, _ => none
def isIface (P : Program) (T : TypeId) : Option Bool := (P.underlying T).map fun | .interface _ => true | _ => false
def aIface (P : Program) (T : TypeId) (v : Value) : Option Value := match isIface P T with | some false => some (.iface T v) | _ => none
def aAssert (P : Program) (T : TypeId) (ok : Bool) (x : Value) : Option Value :=
  match x with
  | .iface t v => match isIface P T with | some false => if t = T then some (if ok then .tuple #[v, .bool true] else v) else none | _ => none
  | _ => none
theorem isIface_spec {T : TypeId} (h : isIface P T = some false) : ∃ d, P.underlying T = some d ∧ ∀ ms, d ≠ .interface ms := by
  unfold isIface at h
  cases hu : P.underlying T with
  | none => rw [hu] at h; cases h
  | some d =>
    rw [hu] at h
    refine ⟨d, rfl, fun ms e => ?_⟩
    subst e; simp at h
theorem aIface_sound {m : Mp} {A : AH} {w : World} (hR : Rel P m A w) {T : TypeId} {x x' v : Value} (hx : VRel m x x') (h : aIface P T x = some v) : SV P m A w (Instr.makeInterface T x') v A := by
  unfold aIface at h
  split at h
  · rename_i hi
    injection h with h; subst h
    obtain ⟨d, hu, hd⟩ := isIface_spec hi
    refine ⟨m, w, .iface T x', ?_, hR, .iface T _ _ hx, Step.refl _ _ _⟩
    unfold Instr.makeInterface
    rw [run_bind _ _ _ (run_underlying hu w)]
    cases d <;> first | rfl | exact absurd rfl (hd _)
  · cases h
theorem aAssert_sound {m : Mp} {A : AH} {w : World} (hR : Rel P m A w) {T xT : TypeId} {ok : Bool} {x x' v : Value} (hx : VRel m x x') (h : aAssert P T ok x = some v) : SV P m A w (Instr.typeAssert x' xT T ok) v A := by
  unfold aAssert at h
  split at h
  · rename_i t u
    split at h
    · rename_i hi
      split at h
      · rename_i ht
        subst ht
        injection h with h; subst h
        obtain ⟨d, hu, hd⟩ := isIface_spec hi
        cases hx with
        | iface _ _ u' hu' =>
          refine ⟨m, w, if ok then .tuple #[u', .bool true] else u', ?_, hR, ?_, Step.refl _ _ _⟩
          · unfold Instr.typeAssert
            rw [run_bind _ _ _ (run_underlying hu w)]
            cases d <;> first | exact absurd rfl (hd _) | (simp only [if_true]; rfl)
          · cases ok
            · exact hu'
            · refine .tuple _ _ rfl fun i a b ha hb => ?_
              match i with
              | 0 => simp at ha hb; subst ha; subst hb; exact hu'
              | 1 => simp at ha hb; subst ha; subst hb; exact .bool true
              | i + 2 => simp at ha
      · cases h
    · cases h
  · cases h
def aOp (P : Program) (E : Env) (o : Oper) (A : AH) : Option (Value × AH) :=
  match o.op with
  | .move x => some (ev E x, A)
  | .assign x => some (ev E x, A)
  | .pick c a b => match ev E c with | .bool t => some (if t then ev E a else ev E b, A) | _ => none
  | .alloc T => aAlloc P T A
  | .box T x => some (aBox T (ev E x) A)
  | .build T ps => (aBuild P T (ps.toList.map fun p => (p.1, ev E p.2))).map fun v => (v, A)
  | .buildSlice T n ps => if n < 1099511627776 then aBuildSlice P T n (ps.toList.map fun p => (p.1, ev E p.2)) A else none
  | .load T x => (aLoad P T (ev E x) A).map fun v => (v, A)
  | .store T a x => (aStore P T (ev E a) (ev E x) A).map fun A' => (undef, A')
  | .nilCheck x => (aNil (ev E x)).map fun v => (v, A)
  | .binOp op T x y _ => (aBin P A op T (ev E x) (ev E y)).map fun v => (v, A)
  | .unOp op _ x => (aUn op (ev E x)).map fun v => (v, A)
  | .convert s d x => (aConv P s d (ev E x)).map fun v => (v, A)
  | .makeFunc fn a c => some (.func fn (a.map (ev E)) (c.map (ev E)), A)
  | .makeMap _ none => some (aMakeMap A)
  | .makeSlice T l c => aMakeSlice P T (ev E l) (ev E c) A
  | .slice T x lo hi mx => (aSlice P T (ev E x) (lo.map (ev E)) (hi.map (ev E)) (mx.map (ev E)) A).map fun v => (v, A)
  | .fieldAddr S x f => (aFieldAddr P S (ev E x) f).map fun v => (v, A)
  | .field S x f => (aField P S (ev E x) f).map fun v => (v, A)
  | .indexAddr T x i => (aIndexAddr P T (ev E x) (ev E i)).map fun v => (v, A)
  | .index T x i => (aIndex P T (ev E x) (ev E i)).map fun v => (v, A)
  | .lookup T x k ok => (aLookup P T (ev E x) (ev E k) ok A).map fun v => (v, A)
  | .mapUpdate T x k v => (aMapSet P T (ev E x) (ev E k) (ev E v) A).map fun A' => (undef, A')
  | .insert T x k v => (aMapSet P T (ev E x) (ev E k) (ev E v) A).map fun A' => (undef, A')
  | .extract x i => (aExtract (ev E x) i).map fun v => (v, A)
  | .makeInterface T x => (aIface P T (ev E x)).map fun v => (v, A)
  | .typeAssert x _ T ok => (aAssert P T ok (ev E x)).map fun v => (v, A)
  | .call c => match c.callee with
    | .builtin b => aBuiltin P b c.argTypes (c.args.toList.map (ev E)) A
    | _ => none
  | _ => none
theorem op_opt {m : Mp} {E : Env} {a : Act} {x : Option Operand} (hx : ∀ y, x = some y → VRel m (ev E y) (a.eval y)) : ORel m (x.map (ev E)) (x.map a.eval) := by
  cases x with
  | none => exact .inl ⟨rfl, rfl⟩
  | some y => exact .inr ⟨_, _, rfl, rfl, hx y rfl⟩
theorem op_list {m : Mp} {E : Env} {a : Act} {xs : List Operand} (hx : ∀ y ∈ xs, VRel m (ev E y) (a.eval y)) : LRel m (xs.map (ev E)) (xs.map a.eval) :=
  ⟨by simp, fun i v v' e e' => by
    rw [List.getElem?_map] at e e'
    cases hxi : xs[i]? with
    | none => rw [hxi] at e; cases e
    | some y =>
      rw [hxi] at e e'
      injection e with e; injection e' with e'; subst e e'
      exact hx y (List.mem_of_getElem? hxi)⟩
theorem op_parts {m : Mp} {E : Env} {a : Act} {ps : List (Nat × Operand)} (hx : ∀ p ∈ ps, VRel m (ev E p.2) (a.eval p.2)) : PRel m (ps.map fun p => (p.1, ev E p.2)) (ps.map fun p => (p.1, a.eval p.2)) :=
  ⟨by simp, fun i v v' e e' => by
    rw [List.getElem?_map] at e e'
    cases hxi : ps[i]? with
    | none => rw [hxi] at e; cases e
    | some y =>
      rw [hxi] at e e'
      injection e with e; injection e' with e'; subst e e'
      exact ⟨rfl, hx y (List.mem_of_getElem? hxi)⟩⟩
/-- An operation runs as is said. -/
def OS (P : Program) (m : Mp) (A : AH) (w : World) (s : Sem Next) (v : Value) (A' : AH) : Prop :=
  ∃ m' w' v', (s.run P w = .ok (.value v') w' ∨ (s.run P w = .ok .skip w' ∧ v' = undef)) ∧ Rel P m' A' w' ∧ VRel m' v v' ∧ Step m A w m' A' w'
theorem SV.os {m : Mp} {A A' : AH} {w : World} {s : Sem Value} {v : Value} (h : SV P m A w s v A') : OS P m A w (s >>= fun x => Pure.pure (Next.value x)) v A' := by
  obtain ⟨m', w', v', h1, h2⟩ := h
  exact ⟨m', w', v', .inl (by rw [run_bind _ _ _ h1]; rfl), h2⟩
theorem SU.os {m : Mp} {A A' : AH} {w : World} {s : Sem Unit} (h : SU P m A w s A') : OS P m A w (s >>= fun _ => Pure.pure Next.skip) undef A' := by
  obtain ⟨m', w', h1, h2, h3⟩ := h
  exact ⟨m', w', undef, .inr ⟨by rw [run_bind _ _ _ h1]; rfl, rfl⟩, h2, VRel.undef m', h3⟩
theorem aBuiltin_sound {m : Mp} {A A' : AH} {w : World} (hR : Rel P m A w) {b : Builtin} {Ts : Array TypeId} {R : TypeId} {cs : Array Bool} {xs : List Value} {xs' : Array Value} {v : Value} (hx : LRel m xs xs'.toList)
    (h : aBuiltin P b Ts xs A = some (v, A')) : OS P m A w (builtin b Ts R cs xs') v A' := by
  have get : ∀ (i : Nat) x, xs[i]? = some x → ∃ x', xs'[i]? = some x' ∧ VRel m x x' := by
    intro i x e
    obtain ⟨x', e', hv⟩ := hx.get e
    exact ⟨x', by rw [← Array.getElem?_toList]; exact e', hv⟩
  unfold aBuiltin at h
  split at h
  · rw [Option.bind_eq_some_iff] at h
    obtain ⟨T, hT, h⟩ := h
    simp only [Option.map_eq_some_iff, Prod.mk.injEq] at h
    obtain ⟨u, hu, rfl, rfl⟩ := h
    obtain ⟨x', e, hv⟩ := get 0 _ rfl
    exact (aLen_sound hR hT e hv hu).os
  · rw [Option.bind_eq_some_iff] at h
    obtain ⟨T, hT, h⟩ := h
    simp only [Option.map_eq_some_iff, Prod.mk.injEq] at h
    obtain ⟨u, hu, rfl, rfl⟩ := h
    obtain ⟨x', e, hv⟩ := get 0 _ rfl
    exact (aCap_sound hR hT e hv hu).os
  · rw [Option.bind_eq_some_iff] at h
    obtain ⟨T, hT, h⟩ := h
    rw [Option.bind_eq_some_iff] at h
    obtain ⟨X, hX, h⟩ := h
    obtain ⟨s', e0, hs⟩ := get 0 _ rfl
    obtain ⟨x', e1, hv⟩ := get 1 _ rfl
    split at h
    · exact (aAppendZ_sound hR hT hX e0 e1 hs hv h).os
    · exact (aAppend_sound hR hT hX e0 e1 hs hv h).os
  · rw [Option.bind_eq_some_iff] at h
    obtain ⟨T, hT, h⟩ := h
    obtain ⟨s', e0, hs⟩ := get 0 _ rfl
    obtain ⟨x', e1, hv⟩ := get 1 _ rfl
    exact (aCopy_sound hR hT e0 e1 hs hv h).os
  · rw [Option.bind_eq_some_iff] at h
    obtain ⟨T, hT, h⟩ := h
    simp only [Option.map_eq_some_iff, Prod.mk.injEq] at h
    obtain ⟨u, hu, rfl, rfl⟩ := h
    obtain ⟨x', e, hv⟩ := get 0 _ rfl
    exact (aClear_sound hR hT e hv hu).os
  · rename_i x ys
    simp only [Option.map_eq_some_iff, Prod.mk.injEq] at h
    obtain ⟨u, hu, rfl, rfl⟩ := h
    obtain ⟨x', e, hv⟩ := get 0 _ rfl
    cases hl : xs'.toList with
    | nil => rw [hl] at hx; have := hx.1; simp at this
    | cons x2 ys' =>
      rw [hl] at hx
      have : x2 = x' := by rw [← Array.getElem?_toList, hl] at e; simpa using e
      subst this
      obtain ⟨v', hr, hv'⟩ := fold_max (P := P) (w := w) ys ys' x x2 u hv ⟨by have := hx.1; simpa using this, fun j a b e e' => hx.2 (j + 1) a b (by simpa using e) (by simpa using e')⟩ hu
      refine SV.os (SV.pure hR ?_ hv')
      unfold Builtin.max_
      rw [hl]; exact hr
  · rename_i x ys
    simp only [Option.map_eq_some_iff, Prod.mk.injEq] at h
    obtain ⟨u, hu, rfl, rfl⟩ := h
    obtain ⟨x', e, hv⟩ := get 0 _ rfl
    cases hl : xs'.toList with
    | nil => rw [hl] at hx; have := hx.1; simp at this
    | cons x2 ys' =>
      rw [hl] at hx
      have : x2 = x' := by rw [← Array.getElem?_toList, hl] at e; simpa using e
      subst this
      obtain ⟨v', hr, hv'⟩ := fold_min (P := P) (w := w) ys ys' x x2 u hv ⟨by have := hx.1; simpa using this, fun j a b e e' => hx.2 (j + 1) a b (by simpa using e) (by simpa using e')⟩ hu
      refine SV.os (SV.pure hR ?_ hv')
      unfold Builtin.min_
      rw [hl]; exact hr
  · cases h
theorem aOp_sound {m : Mp} {A A' : AH} {w : World} (hR : Rel P m A w) {E : Env} {a : Act} {o : Oper} {v : Value} (hok : ∀ x ∈ o.op.operands, VRel m (ev E x) (a.eval x)) (h : aOp P E o A = some (v, A')) :
    OS P m A w (execOp a.eval o) v A' := by
  unfold aOp at h
  unfold execOp
  cases hop : o.op with
  | move x =>
    simp only [hop] at h hok ⊢
    injection h with h; injection h with h1 h2; subst h1 h2
    exact ⟨m, w, _, .inl rfl, hR, hok x (by simp [Op.operands]), Step.refl _ _ _⟩
  | assign x =>
    simp only [hop] at h hok ⊢
    injection h with h; injection h with h1 h2; subst h1 h2
    exact ⟨m, w, _, .inl rfl, hR, hok x (by simp [Op.operands]), Step.refl _ _ _⟩
  | pick c x y =>
    simp only [hop] at h hok ⊢
    have hc := hok c (by simp [Op.operands])
    split at h
    · rename_i t ht
      injection h with h; injection h with h1 h2; subst h1 h2
      rw [ht] at hc
      generalize hcc : a.eval c = cc at hc
      cases hc
      refine ⟨m, w, if t then a.eval x else a.eval y, .inl ?_, hR, ?_, Step.refl _ _ _⟩
      · simp only [asBool, pure_bind]; rfl
      · cases t
        · exact hok y (by simp [Op.operands])
        · exact hok x (by simp [Op.operands])
    · cases h
  | alloc T => simp only [hop] at h ⊢; exact (aAlloc_sound hR h).os
  | box T x =>
    simp only [hop] at h hok ⊢
    injection h with h; injection h with h1 h2; subst h1 h2
    exact (aBox_sound hR (hok x (by simp [Op.operands]))).os
  | build T ps =>
    simp only [hop, Option.map_eq_some_iff, Prod.mk.injEq] at h hok ⊢
    obtain ⟨u, hu, rfl, rfl⟩ := h
    exact (aBuild_sound hR (by simpa using op_parts (fun p hp => hok p.2 (by simp [Op.operands]; exact ⟨p.1, Array.mem_def.2 hp⟩))) hu).os
  | buildSlice T len ps =>
    simp only [hop] at h hok ⊢
    split at h
    · exact (aBuildSlice_sound hR ‹_› (by simpa using op_parts (fun p hp => hok p.2 (by simp [Op.operands]; exact ⟨p.1, Array.mem_def.2 hp⟩))) h).os
    · cases h
  | load T x =>
    simp only [hop, Option.map_eq_some_iff, Prod.mk.injEq] at h hok ⊢
    obtain ⟨u, hu, rfl, rfl⟩ := h
    exact (aLoad_sound hR (hok x (by simp [Op.operands])) hu).os
  | store T x y =>
    simp only [hop, Option.map_eq_some_iff, Prod.mk.injEq] at h hok ⊢
    obtain ⟨u, hu, rfl, rfl⟩ := h
    exact (aStore_sound hR (hok x (by simp [Op.operands])) (hok y (by simp [Op.operands])) hu).os
  | nilCheck x =>
    simp only [hop, Option.map_eq_some_iff, Prod.mk.injEq] at h hok ⊢
    obtain ⟨u, hu, rfl, rfl⟩ := h
    have hx := hok x (by simp [Op.operands])
    unfold aNil at hu
    split at hu
    · rename_i ad ht
      injection hu with hu; subst hu
      rw [ht] at hx
      generalize hcc : a.eval x = cc at hx
      cases hx with
      | ptr b o p hp => exact ⟨m, w, _, .inl rfl, hR, .ptr b o p hp, Step.refl _ _ _⟩
    · rename_i f q c ht
      injection hu with hu; subst hu
      rw [ht] at hx
      generalize hcc : a.eval x = cc at hx
      cases hx with
      | func _ _ q' _ c' h1 h2 h3 h4 => exact ⟨m, w, _, .inl rfl, hR, .func _ _ q' _ c' h1 h2 h3 h4, Step.refl _ _ _⟩
    · cases hu
  | binOp op T x y yT =>
    simp only [hop, Option.map_eq_some_iff, Prod.mk.injEq] at h hok ⊢
    obtain ⟨u, hu, rfl, rfl⟩ := h
    exact (aBin_sound hR (hok x (by simp [Op.operands])) (hok y (by simp [Op.operands])) hu).os
  | unOp op T x =>
    simp only [hop, Option.map_eq_some_iff, Prod.mk.injEq] at h hok ⊢
    obtain ⟨u, hu, rfl, rfl⟩ := h
    exact (aUn_sound hR (hok x (by simp [Op.operands])) hu).os
  | convert s d x =>
    simp only [hop, Option.map_eq_some_iff, Prod.mk.injEq] at h hok ⊢
    obtain ⟨u, hu, rfl, rfl⟩ := h
    exact (aConv_sound hR (hok x (by simp [Op.operands])) hu).os
  | makeFunc fn q c =>
    simp only [hop] at h hok ⊢
    injection h with h; injection h with h1 h2; subst h1 h2
    have e1 := op_list (xs := q.toList) (fun y hy => hok y (by simp [Op.operands]; exact .inl (Array.mem_def.2 hy)))
    have e2 := op_list (xs := c.toList) (fun y hy => hok y (by simp [Op.operands]; exact .inr (Array.mem_def.2 hy)))
    refine SV.os (s := Instr.makeFunc fn (q.map a.eval) (c.map a.eval)) (SV.pure hR (v' := .func fn (q.map a.eval) (c.map a.eval)) rfl ?_)
    refine .func fn _ _ _ _ (by simp) (fun i v v' h h' => e1.2 i v v' ?_ ?_) (by simp) (fun i v v' h h' => e2.2 i v v' ?_ ?_)
    · rw [← Array.toList_map, Array.getElem?_toList]; exact h
    · rw [← Array.toList_map, Array.getElem?_toList]; exact h'
    · rw [← Array.toList_map, Array.getElem?_toList]; exact h
    · rw [← Array.toList_map, Array.getElem?_toList]; exact h'
  | makeMap T r =>
    simp only [hop] at h hok ⊢
    cases r with
    | none =>
      injection h with h; injection h with h1 h2; subst h1 h2
      exact (aMakeMap_sound hR T).os
    | some r => cases h
  | makeSlice T l c =>
    simp only [hop] at h hok ⊢
    exact (aMakeSlice_sound hR (hok l (by simp [Op.operands])) (hok c (by simp [Op.operands])) h).os
  | slice T x lo hi mx =>
    simp only [hop, Option.map_eq_some_iff, Prod.mk.injEq] at h hok ⊢
    obtain ⟨u, hu, rfl, rfl⟩ := h
    refine (aSlice_sound hR (hok x (by simp [Op.operands])) (op_opt fun y e => hok y ?_) (op_opt fun y e => hok y ?_) (op_opt fun y e => hok y ?_) hu).os <;> (subst e; simp [Op.operands])
  | fieldAddr S x f =>
    simp only [hop, Option.map_eq_some_iff, Prod.mk.injEq] at h hok ⊢
    obtain ⟨u, hu, rfl, rfl⟩ := h
    exact (aFieldAddr_sound hR (hok x (by simp [Op.operands])) hu).os
  | field S x f =>
    simp only [hop, Option.map_eq_some_iff, Prod.mk.injEq] at h hok ⊢
    obtain ⟨u, hu, rfl, rfl⟩ := h
    exact (aField_sound hR (hok x (by simp [Op.operands])) hu).os
  | indexAddr T x i =>
    simp only [hop, Option.map_eq_some_iff, Prod.mk.injEq] at h hok ⊢
    obtain ⟨u, hu, rfl, rfl⟩ := h
    exact (aIndexAddr_sound hR (hok x (by simp [Op.operands])) (hok i (by simp [Op.operands])) hu).os
  | index T x i =>
    simp only [hop, Option.map_eq_some_iff, Prod.mk.injEq] at h hok ⊢
    obtain ⟨u, hu, rfl, rfl⟩ := h
    exact (aIndex_sound hR (hok x (by simp [Op.operands])) (hok i (by simp [Op.operands])) hu).os
  | lookup T x i ok =>
    simp only [hop, Option.map_eq_some_iff, Prod.mk.injEq] at h hok ⊢
    obtain ⟨u, hu, rfl, rfl⟩ := h
    exact (aLookup_sound hR (hok x (by simp [Op.operands])) (hok i (by simp [Op.operands])) hu).os
  | mapUpdate T x k y =>
    simp only [hop, Option.map_eq_some_iff, Prod.mk.injEq] at h hok ⊢
    obtain ⟨u, hu, rfl, rfl⟩ := h
    exact (aMapSet_sound hR (hok x (by simp [Op.operands])) (hok k (by simp [Op.operands])) (hok y (by simp [Op.operands])) hu).os
  | insert T x k y =>
    simp only [hop, Option.map_eq_some_iff, Prod.mk.injEq] at h hok ⊢
    obtain ⟨u, hu, rfl, rfl⟩ := h
    exact (aMapSet_sound hR (hok x (by simp [Op.operands])) (hok k (by simp [Op.operands])) (hok y (by simp [Op.operands])) hu).os
  | extract x i =>
    simp only [hop, Option.map_eq_some_iff, Prod.mk.injEq] at h hok ⊢
    obtain ⟨u, hu, rfl, rfl⟩ := h
    exact (aExtract_sound hR (hok x (by simp [Op.operands])) hu).os
  | makeInterface T x =>
    simp only [hop, Option.map_eq_some_iff, Prod.mk.injEq] at h hok ⊢
    obtain ⟨u, hu, rfl, rfl⟩ := h
    exact (aIface_sound hR (hok x (by simp [Op.operands])) hu).os
  | typeAssert x xT T ok =>
    simp only [hop, Option.map_eq_some_iff, Prod.mk.injEq] at h hok ⊢
    obtain ⟨u, hu, rfl, rfl⟩ := h
    exact (aAssert_sound hR (hok x (by simp [Op.operands])) hu).os
  | call c =>
    simp only [hop] at h hok ⊢
    split at h
    · rename_i b hb
      have hl := op_list (xs := c.args.toList) (fun y hy => hok y (by simp [Op.operands, Call.operands]; exact .inr (Array.mem_def.2 hy)))
      have hl' : LRel m (c.args.toList.map (ev E)) (c.args.map a.eval).toList := by rw [Array.toList_map]; exact hl
      obtain ⟨m', w', v', hr, rest⟩ := aBuiltin_sound (w := w) hR (R := o.type) (cs := c.args.map fun | .const _ => true | _ => false) hl' h
      refine ⟨m', w', v', ?_, rest⟩
      unfold resolve
      simp only [hb, pure_bind, invoke]
      exact hr
    · cases h
  | _ => simp only [hop] at h; cases h
end Go.AI
/- AIo: in which order a drawn region is gone through, and what is checked of it. -/
namespace Go.AI
open Go
inductive Cl where
  | act | rd | al
  deriving DecidableEq
/-- Acting, reading (or merely computing), making. -/
def clOf (o : Oper) : Cl :=
  match o.op with
  | .alloc _ | .box .. | .buildSlice .. | .makeSlice .. | .makeMap .. => .al
  | .call c => match c.callee with
    | .builtin .len | .builtin .cap | .builtin .max | .builtin .min => .rd
    | _ => .act
  | .store .. | .mapUpdate .. | .insert .. => .act
  | .move _ | .assign _ | .pick .. | .build .. | .load .. | .nilCheck _ | .binOp .. | .unOp .. | .convert .. | .makeFunc .. | .slice .. | .fieldAddr .. | .field .. | .indexAddr .. | .index .. | .lookup .. | .extract .. => .rd
  | _ => .act
/-- Does an operation look at memory? -/
def looks (o : Oper) : Bool :=
  match o.op with
  | .load .. | .lookup .. => true
  | .binOp op .. => match op with | .eql | .neq => true | _ => false
  | .call c => match c.callee with | .builtin .len => true | _ => false
  | .slice .. => true
  | _ => false
structure Pn where
  i : Nat
  held : List Nat
  flo : List Nat
  keep : Bool
/-- All that must come before each. -/
def preds (ops : Array Oper) : Array Nat := Region.before ops
def isPred (pr : Array Nat) (j i : Nat) : Bool := (pr.getD i 0).testBit j
/-- The order: what acts as early as may be, all that makes as late. -/
def orderOf (ops : Array Oper) : List Nat :=
  let pr := preds ops
  let n := ops.size
  let cl := fun i => clOf (ops.getD i default)
  let acts := (List.range n).filter fun i => cl i == .act
  let closeRd := fun (done : List Nat) =>
    (List.range n).foldl (fun d i => if !d.contains i && cl i == .rd && (List.range n).all (fun j => !isPred pr j i || d.contains j) then d ++ [i] else d) done
  let withPreds := fun (done : List Nat) (a : Nat) =>
    closeRd (((List.range n).filter fun j => isPred pr j a && !done.contains j).foldl (fun d j => if d.contains j then d else closeRd (d ++ [j])) done ++ [a])
  let d1 := acts.foldl withPreds (closeRd [])
  (List.range n).foldl (fun d i => if d.contains i then d else closeRd (d ++ [i])) d1
def planOf (ops : Array Oper) : List Pn :=
  let pr := preds ops
  let cl := fun i => clOf (ops.getD i default)
  let rec go : List Nat → List Nat → List Pn
    | _, [] => []
    | done, i :: is =>
      (if cl i = .act then ⟨i, done.filter fun q => cl q == .rd && looks (ops.getD q default) && !isPred pr q i, is.filter fun p => cl p == .al && !isPred pr i p, false⟩ else ⟨i, [], [], false⟩) :: go (done ++ [i]) is
  let ps := go [] (orderOf ops)
  ps.map fun p => { p with keep := ps.any fun q => q.held.contains p.i }
/-- Is a plan a right one? -/
def planGo (ops : Array Oper) (pr : Array Nat) : List Nat → List Nat → List Pn → Bool
  | done, _, [] => (List.range ops.size).all fun i => done.contains i
  | done, kept, p :: ps =>
    let o := ops.getD p.i default
    decide (p.i < ops.size) && !done.contains p.i &&
    (o.after.toList.all fun e => !Region.binds .any e || done.contains e.on) &&
    ((List.range ops.size).all fun j => !isPred pr j p.i || done.contains j) &&
    (match o.guard with | none => true | some (j, _) => isPred pr j p.i && ((ops[j]?).bind (·.dst)).isSome) &&
    ((List.range ops.size).all fun j => j == p.i || match (ops.getD j default).dst with
      | some d => (!(o.looksAt ops).contains d || isPred pr j p.i || isPred pr p.i j) && o.dst != some d
      | none => true) &&
    (match clOf o with
     | .act => (done.all fun q => clOf (ops.getD q default) == .rd || isPred pr q p.i) &&
        (done.all fun q => !(clOf (ops.getD q default) == .rd && looks (ops.getD q default)) || isPred pr q p.i || (p.held.contains q && kept.contains q)) &&
        (ps.all fun q => !(clOf (ops.getD q.i default) == .al) || isPred pr p.i q.i || (p.flo.contains q.i && (List.range ops.size).all fun j => !isPred pr j q.i || done.contains j))
     | .rd => done.all fun a => !(clOf (ops.getD a default) == .act) || isPred pr a p.i
     | .al => o.dst.isSome) &&
    planGo ops pr (done ++ [p.i]) (if p.keep then kept ++ [p.i] else kept) ps
def planOk (ops : Array Oper) (plan : List Pn) : Bool := planGo ops (preds ops) [] [] plan
end Go.AI
/- AIp: calls, and regions in the order of the text. -/
namespace Go.AI
open Go Go.RowKit
variable {P : Program}
/-- A call of f is entered. -/
def Enters (P : Program) (f : FuncId) : Prop := ∀ (args : Array Value) (w : World), (callFunc f args).run P w = .ok (.enter f args) w
/-- What a call comes to, over named blocks. -/
def ACall (P : Program) (f : FuncId) (args : List Value) (A : AH) (R : Value → AH → Prop) : Prop :=
  ∀ (m : Mp) (w : World) (args' : Array Value), Rel P m A w → LRel m args args'.toList →
    ((callFunc f args').run P w = .ok (.enter f args') w ∧ Calls P f args' w fun (e : Ending) (w' : World) => ∃ v v' A' m', e = .returned v' ∧ R v A' ∧ Rel P m' A' w' ∧ VRel m' v v' ∧ Step m A w m' A' w') ∨
    ∃ v' w', (callFunc f args').run P w = .ok (.value v') w' ∧ ∃ v A' m', R v A' ∧ Rel P m' A' w' ∧ VRel m' v v' ∧ Step m A w m' A' w'
/-- Every name that is known was given. -/
def AH.wf (A : AH) : Prop := ∀ b x, A.get b = some x → b < A.next
theorem Rel.wf {m : Mp} {A : AH} {w : World} (h : Rel P m A w) : A.wf := fun _ _ hb => h.lt hb
theorem ACall.mono {f : FuncId} {args : List Value} {A : AH} {R R' : Value → AH → Prop} (h : ACall P f args A R) (hr : ∀ v A', A'.wf → A.next ≤ A'.next → R v A' → R' v A') : ACall P f args A R' :=
  fun m w args' hR hl => (h m w args' hR hl).imp (fun h => ⟨h.1, h.2.mono fun e w' ⟨v, v', A', m', he, hr1, hr2, hr3, hr4⟩ => ⟨v, v', A', m', he, hr v A' hr2.wf hr4.nx hr1, hr2, hr3, hr4⟩⟩)
    fun ⟨v', w', he, v, A', m', hr1, hr2, hr3, hr4⟩ => ⟨v', w', he, v, A', m', hr v A' hr2.wf hr4.nx hr1, hr2, hr3, hr4⟩
theorem ACall.wf {f : FuncId} {args : List Value} {A : AH} {R : Value → AH → Prop} (h : A.wf → ACall P f args A R) : ACall P f args A R :=
  fun m w args' hR hl => h hR.wf m w args' hR hl
theorem ACall.enter {f : FuncId} {args : List Value} {A : AH} {R : Value → AH → Prop} (hf : Enters P f) (h : ∀ (m : Mp) (w : World) (args' : Array Value), Rel P m A w → LRel m args args'.toList →
    Calls P f args' w fun (e : Ending) (w' : World) => ∃ v v' A' m', e = .returned v' ∧ R v A' ∧ Rel P m' A' w' ∧ VRel m' v v' ∧ Step m A w m' A' w') : ACall P f args A R :=
  fun m w args' hR hl => Or.inl ⟨hf args' w, h m w args' hR hl⟩
theorem ACall.entered {f : FuncId} {args : List Value} {A : AH} {R : Value → AH → Prop} (hf : Enters P f) (h : ACall P f args A R) {m : Mp} {w : World} {args' : Array Value} (hR : Rel P m A w) (hl : LRel m args args'.toList) :
    Calls P f args' w fun (e : Ending) (w' : World) => ∃ v v' A' m', e = .returned v' ∧ R v A' ∧ Rel P m' A' w' ∧ VRel m' v v' ∧ Step m A w m' A' w' := by
  rcases h m w args' hR hl with h | ⟨v', w', he, _⟩
  · exact h.2
  · rw [hf args' w] at he; cases he
def wantedA (ops : Array Oper) (E : Env) (o : Oper) : Bool :=
  match o.guard with
  | none => true
  | some (j, want) =>
    match (ops[j]?).bind (·.dst) with
    | some d => match E.get d with | .bool b => b == want | _ => false
    | none => false
/-- The function behind a method of a type, where it takes the value as it stands. -/
def methOf (P : Program) (t : TypeId) (name : String) : Option FuncId :=
  match P.info? t with
  | some i =>
    match i.methods.find? (·.name == name) with
    | some m =>
      if m.path.toList.isEmpty then
        match m.func with
        | some (f, pr) =>
          match P.underlying t with
          | some (.pointer _) => if pr then some f else none
          | some _ => if pr then none else some f
          | none => none
        | none => none
      else none
    | none => none
  | none => none
theorem run_method {t : TypeId} {name : String} {f : FuncId} (h : methOf P t name = some f) (n : Nat) (v : Value) (w : World) : (method (n + 1) t v name).run P w = .ok (f, v) w := by
  unfold methOf at h
  split at h
  · rename_i i hi
    split at h
    · rename_i mt hm
      split at h
      · rename_i hp
        split at h
        · rename_i g pr hf
          have hpath : mt.path.toList = [] := List.isEmpty_iff.1 hp
          unfold method
          rw [run_bind _ _ _ (run_ti hi w)]
          simp only [hm]
          rw [run_bind _ _ _ (by rw [hpath]; rfl : (follow mt.path.toList t (.val v)).run P w = .ok (t, .val v) w)]
          simp only [hf]
          split at h
          · rename_i e hu
            split at h
            · rename_i hpr
              subst hpr
              injection h with h; subst h
              have hr : ∀ wr, (receiverAt t (.val v) true wr).run P w = .ok v w := fun wr => by
                unfold receiverAt
                rw [run_bind _ _ _ (run_underlying hu w)]; rfl
              rw [run_bind _ _ _ (hr _)]; rfl
            · cases h
          · rename_i d hne hu
            split at h
            · cases h
            · rename_i hpr
              injection h with h; subst h
              have hpr' : pr = false := by simpa using hpr
              subst hpr'
              have hr : ∀ wr, (receiverAt t (.val v) false wr).run P w = .ok v w := fun wr => by
                unfold receiverAt
                rw [run_bind _ _ _ (run_underlying hu w)]
                cases d <;> first | rfl | exact absurd rfl (hne _)
              rw [run_bind _ _ _ (hr _)]; rfl
          · cases h
        · cases h
      · cases h
    · cases h
  · cases h
theorem methOf_lt {t : TypeId} {name : String} {f : FuncId} (h : methOf P t name = some f) : ∃ k, P.types.size + Made.depth = k + 1 := by
  unfold methOf at h
  split at h
  · rename_i i hi
    have hd : Made.depth ≠ 0 := by decide
    exact ⟨P.types.size + Made.depth - 1, by omega⟩
  · cases h
def aCallee (P : Program) (E : Env) (o : Oper) : Option (FuncId × List Value) :=
  match o.op with
  | .call c =>
    match c.callee with
    | .value f =>
      match ev E f with
      | .func (.func k) a c' => some (k, a.toList ++ c.args.toList.map (ev E) ++ c'.toList)
      | _ => none
    | .invoke r name =>
      match ev E r with
      | .iface t v => (methOf P t name).map fun k => (k, v :: c.args.toList.map (ev E))
      | _ => none
    | _ => none
  | _ => none
/-- Does an operation keep to the frame, and are its constants plain? -/
def operOk (n : Nat) (o : Oper) : Bool := (match o.dst with | some d => decide (d < n) | none => true) && o.op.operands.toList.all opdOk
theorem operOk_dst {n : Nat} {o : Oper} (h : operOk n o = true) : ∀ t, o.dst = some t → t < n := by
  intro t e
  simp only [operOk, e, Bool.and_eq_true, decide_eq_true_eq] at h
  exact h.1
theorem operOk_opd {n : Nat} {o : Oper} (h : operOk n o = true) : ∀ x ∈ o.op.operands, opdOk x = true := by
  intro x hx
  simp only [operOk, Bool.and_eq_true, List.all_eq_true] at h
  exact h.2 x (Array.mem_def.1 hx)
theorem bool_rel {m : Mp} {v : Value} {b : Bool} (h : VRel m v (.bool b)) : v = .bool b := by
  cases h with
  | bool => rfl
  | junk _ h => simp [jB] at h
theorem bool_rel' {m : Mp} {v' : Value} {b : Bool} (h : VRel m (.bool b) v') : v' = .bool b := by cases h; rfl
theorem wanted_rel {m : Mp} {ops : Array Oper} {E : Env} {a : Act} {o : Oper} (h : ∀ j want d, o.guard = some (j, want) → (ops[j]?).bind (·.dst) = some d → VRel m (E.get d) (a.tmps.getD d undef)) :
    Region.wanted o (yielded ops a.tmps) = wantedA ops E o := by
  unfold Region.wanted wantedA
  cases hg : o.guard with
  | none => rfl
  | some p =>
    obtain ⟨j, want⟩ := p
    simp only []
    unfold yielded
    cases hd : (ops[j]?).bind (·.dst) with
    | none => simp
    | some d =>
      have hv := h j want d hg hd
      simp only [Option.bind_some]
      cases ht : a.tmps[d]? with
      | none =>
        have : a.tmps.getD d undef = undef := by simp [Array.getD_eq_getD_getElem?, ht]
        rw [this] at hv
        have hu : ∀ b, E.get d ≠ .bool b := by intro b e; rw [e] at hv; cases hv
        cases hE : E.get d <;> first | rfl | exact absurd hE (hu _)
      | some u =>
        have : a.tmps.getD d undef = u := by simp [Array.getD_eq_getD_getElem?, ht]
        rw [this] at hv
        cases hE : E.get d with
        | bool b =>
          rw [hE] at hv
          have := bool_rel' hv
          subst this
          cases b <;> cases want <;> rfl
        | _ =>
          rw [hE] at hv
          cases hu : u with
          | bool b => rw [hu] at hv; have := bool_rel hv; cases this
          | _ => rfl
/-- What follows an operation. -/
def AStep (P : Program) (E : Env) (o : Oper) (A : AH) (K : Value → AH → Prop) : Prop :=
  match aCallee P E o with
  | some q => ACall P q.1 q.2 A K
  | none => match aOp P E o A with
    | some q => K q.1 q.2
    | none => False
theorem run_callee {m : Mp} {w : World} {E : Env} {a : Act} {o : Oper} {f : FuncId} {args : List Value} (hop : ∀ x ∈ o.op.operands, VRel m (ev E x) (a.eval x)) (h : aCallee P E o = some (f, args)) :
    ∃ args' : Array Value, (execOp a.eval o).run P w = (callFunc f args').run P w ∧ LRel m args args'.toList := by
  unfold aCallee at h
  split at h
  · rename_i c hc
    split at h
    · rename_i g hg
      split at h
      · rename_i k q c' hk
        simp only [Option.some.injEq, Prod.mk.injEq] at h
        obtain ⟨rfl, rfl⟩ := h
        have hgv := hop g (by simp [hc, Op.operands, Call.operands, hg])
        rw [hk] at hgv
        generalize hgc : a.eval g = gc at hgv
        cases hgv with
        | func _ _ q' _ c2 h1 h2 h3 h4 =>
          have hargs : LRel m (c.args.toList.map (ev E)) (c.args.map a.eval).toList := by
            rw [Array.toList_map]
            refine ⟨by simp, fun i v v' e e' => ?_⟩
            rw [List.getElem?_map] at e e'
            cases hxi : c.args.toList[i]? with
            | none => rw [hxi] at e; cases e
            | some y =>
              rw [hxi] at e e'
              injection e with e; injection e' with e'; subst e e'
              exact hop y (by simp only [hc, Op.operands, Call.operands, hg]; exact Array.mem_append.2 (.inr (Array.mem_def.2 (List.mem_of_getElem? hxi))))
          have e1 : LRel m q.toList q'.toList := ⟨by simpa using h1, fun i v v' e e' => h2 i v v' (by simpa using e) (by simpa using e')⟩
          have e2 : LRel m c'.toList c2.toList := ⟨by simpa using h3, fun i v v' e e' => h4 i v v' (by simpa using e) (by simpa using e')⟩
          refine ⟨q' ++ c.args.map a.eval ++ c2, ?_, ?_⟩
          · unfold execOp
            rw [hc]
            simp only []
            unfold resolve
            simp only [hg, Deferred.ofValue, hgc, pure_bind]
            unfold invoke
            rfl
          · rw [Array.toList_append, Array.toList_append]
            exact (e1.append hargs).append e2
      · cases h
    · rename_i r name hg
      split at h
      · rename_i t v hk
        obtain ⟨k, hk1, hk2⟩ := Option.map_eq_some_iff.1 h
        simp only [Prod.mk.injEq] at hk2
        obtain ⟨rfl, rfl⟩ := hk2
        have hgv := hop r (by simp [hc, Op.operands, Call.operands, hg])
        rw [hk] at hgv
        generalize hgc : a.eval r = gc at hgv
        cases hgv with
        | iface _ _ v' hv =>
          have hargs : LRel m (c.args.toList.map (ev E)) (c.args.map a.eval).toList := by
            rw [Array.toList_map]
            refine ⟨by simp, fun i v v' e e' => ?_⟩
            rw [List.getElem?_map] at e e'
            cases hxi : c.args.toList[i]? with
            | none => rw [hxi] at e; cases e
            | some y =>
              rw [hxi] at e e'
              injection e with e; injection e' with e'; subst e e'
              exact hop y (by simp only [hc, Op.operands, Call.operands, hg]; exact Array.mem_append.2 (.inr (Array.mem_def.2 (List.mem_of_getElem? hxi))))
          obtain ⟨n, hn⟩ := methOf_lt hk1
          refine ⟨#[v'] ++ c.args.map a.eval, ?_, ?_⟩
          · unfold execOp
            rw [hc]
            simp only []
            unfold resolve
            simp only [hg, hgc, pure_bind]
            unfold invoke
            have e0 : (#[Value.iface t v'] ++ c.args.map a.eval)[0]? = some (.iface t v') := by
              rw [Array.getElem?_append_left (Nat.zero_lt_one)]; rfl
            have e1 : (#[Value.iface t v'] ++ c.args.map a.eval).extract 1 (#[Value.iface t v'] ++ c.args.map a.eval).size = c.args.map a.eval := by
              apply Array.toList_inj.1
              simp [List.take_of_length_le]
            simp only [e0, e1]
            unfold callMethod
            simp only []
            rw [run_bind _ _ _ (run_program w)]
            simp only [hn]
            rw [run_bind _ _ _ (run_method hk1 n v' w)]
          · rw [Array.toList_append]
            exact LRel.cons hv hargs
      · cases h
    · cases h
  · cases h
/-- What a run of operations leaves: some slots, some heap, of which Q is known. -/
def Fin (P : Program) (n : Nat) (m : Mp) (A : AH) (w : World) (Q : Exit → Env → AH → Prop) (ex : Exit) (a' : Act) (w' : World) : Prop :=
  ∃ E' A' m', Rel P m' A' w' ∧ ERel m' n E' a' ∧ Step m A w m' A' w' ∧ Q ex E' A'
theorem Fin.step {n : Nat} {m m1 : Mp} {A A1 : AH} {w w1 : World} {Q : Exit → Env → AH → Prop} {ex : Exit} {a' : Act} {w' : World} (hs : Step m A w m1 A1 w1) (h : Fin P n m1 A1 w1 Q ex a' w') : Fin P n m A w Q ex a' w' := by
  obtain ⟨E', A', m', h1, h2, h3, h4⟩ := h
  exact ⟨E', A', m', h1, h2, hs.trans h3, h4⟩
/-- One operation, in its frame. -/
theorem step_sound {m : Mp} {A : AH} {w : World} (hR : Rel P m A w) {E : Env} {a : Act} {o : Oper} (hop : ∀ x ∈ o.op.operands, VRel m (ev E x) (a.eval x)) {K : Value → AH → Prop} (h : AStep P E o A K)
    {N : Act → World → Prop} {Q : Exit → Act → World → Prop} (hK : ∀ v A' m' w' v', K v A' → Rel P m' A' w' → VRel m' v v' → Step m A w m' A' w' → N (a.put o.dst v') w') : o.wp P a w N Q := by
  unfold AStep at h
  unfold Oper.wp
  split at h
  · rename_i q hq
    obtain ⟨f, args⟩ := q
    obtain ⟨args', hr, hl⟩ := run_callee (w := w) hop hq
    rw [hr]
    rcases h m w args' hR hl with ⟨he, hc⟩ | ⟨v', w', he, v, A', m', hv, r1, r2, r3⟩
    · rw [he, Oper.upon_enter]
      refine hc.mono ?_
      rintro e w' ⟨v, v', A', m', rfl, hv, r1, r2, r3⟩
      exact hK v A' m' w' v' hv r1 r2 r3
    · rw [he, Oper.upon_value]; exact hK v A' m' w' v' hv r1 r2 r3
  · split at h
    · rename_i q hq
      obtain ⟨v, A'⟩ := q
      obtain ⟨m', w', v', hr, r1, r2, r3⟩ := aOp_sound hR hop hq
      rcases hr with hr | ⟨hr, rfl⟩
      · rw [hr, Oper.upon_value]; exact hK v A' m' w' v' h r1 r2 r3
      · rw [hr, Oper.upon_skip]; exact hK v A' m' w' _ h r1 r2 r3
    · cases h
/-- Operations, one behind the other. -/
def AOps (P : Program) (ops : Array Oper) : List Oper → Env → AH → (Env → AH → Prop) → Prop
  | [], E, A, K => K E A
  | o :: os, E, A, K => if wantedA ops E o = true then AStep P E o A fun v A' => AOps P ops os (E.put o.dst v) A' K else AOps P ops os (E.put o.dst undef) A K
/-- Is a region's each operation right? -/
def regOk (n : Nat) (ops : Array Oper) : Bool := ops.toList.all (operOk n)
theorem AOps_sound {n : Nat} {ops : Array Oper} (hok : regOk n ops = true) {Q : Exit → Env → AH → Prop} {m0 : Mp} {A0 : AH} {w0 : World} : ∀ (os : List Oper) (is : List Nat), is.length = os.length → (∀ (k : Nat) (o : Oper), os[k]? = some o → ∃ i, is[k]? = some i ∧ ops[i]? = some o) →
    ∀ (m : Mp) (A : AH) (w : World) (E : Env) (a : Act), Rel P m A w → ERel m n E a → Step m0 A0 w0 m A w → AOps P ops os E A (Q .normal) → wpOps P ops (Fin P n m0 A0 w0 Q) is a w := by
  intro os
  induction os with
  | nil =>
    intro is hl _ m A w E a hR hE hS h
    have : is = [] := List.eq_nil_of_length_eq_zero hl
    subst this
    exact ⟨E, A, m, hR, hE, hS, h⟩
  | cons o os ih =>
    intro is hl hi m A w E a hR hE hS h
    cases is with
    | nil => simp at hl
    | cons i is =>
      obtain ⟨i', e1, e2⟩ := hi 0 o rfl
      simp only [List.getElem?_cons_zero, Option.some.injEq] at e1
      subst e1
      have hmem : o ∈ ops.toList := Array.mem_def.1 (Array.mem_of_getElem? e2)
      have ho : operOk n o = true := List.all_eq_true.1 hok o hmem
      have hi' : ∀ (k : Nat) (o : Oper), os[k]? = some o → ∃ i, is[k]? = some i ∧ ops[i]? = some o := fun k o e => hi (k + 1) o (by simpa using e)
      have hl' : is.length = os.length := by simpa using hl
      rw [wpOps_cons]
      unfold wpOp
      rw [e2]
      simp only []
      have hw : Region.wanted o (yielded ops a.tmps) = wantedA ops E o := wanted_rel fun j want d _ _ => hE.2.2 d
      rw [hw]
      simp only [AOps] at h
      have hop : ∀ x ∈ o.op.operands, VRel m (ev E x) (a.eval x) := fun x hx => hE.ev (operOk_opd ho x hx)
      split
      · rename_i hwt
        rw [if_pos hwt] at h
        refine .inl (step_sound hR hop h fun v A' m' w' v' hk r1 r2 r3 => ?_)
        exact ih is hl' hi' m' A' w' _ _ r1 ((hE.mono r3.mono).put (operOk_dst ho) r2) (hS.trans r3) hk
      · rename_i hwt
        rw [if_neg hwt] at h
        exact ih is hl' hi' m A w _ _ hR (hE.put (operOk_dst ho) (VRel.undef m)) hS h
/-- A region in the order of the text. -/
theorem region_plain {n : Nat} {ops : Array Oper} (hok : regOk n ops = true) {Q : Exit → Env → AH → Prop} {m : Mp} {A : AH} {w : World} {E : Env} {a : Act} (hR : Rel P m A w) (hE : ERel m n E a) (h : AOps P ops ops.toList E A (Q .normal)) (id : Nat) :
    (Code.region id ops false).wp P (Fin P n m A w Q) a w := by
  refine wp_region (AOps_sound hok ops.toList _ (by simp) (fun k o e => ?_) m A w E a hR hE (Step.refl _ _ _) h)
  have hk : k < ops.size := by have := (List.getElem?_eq_some_iff.1 e).1; simpa using this
  exact ⟨k, by rw [List.getElem?_range hk], by rw [← Array.getElem?_toList]; exact e⟩
end Go.AI
/- AIq: what reads answers alike in greater heaps; what is made does not look at the heap. -/
namespace Go.AI
open Go Go.RowKit
variable {P : Program}
/-- Of the blocks that a world bears, the second heap knows what the first knows. -/
def Sub (m : Mp) (A1 A2 : AH) : Prop := ∀ b x, m b ≠ none → A1.get b = some x → A2.get b = some x
theorem wrow_move {m : Mp} {A1 A2 : AH} (hs : Sub m A1 A2) {b : Nat} (hb : m b ≠ none) (h : A1.wrow b = true) : A2.wrow b = true := by
  obtain ⟨cs, E, e⟩ := wrow_spec h
  simp [AH.wrow, hs b _ hb e]
theorem aPart_rel {m : Mp} {T : TypeId} {cs cs' : List Value} (hc : LRel m cs cs') {off : Nat} {v : Value} (h : aPart P T cs off = some v) : ∃ v', VRel m v v' := by
  unfold aPart at h
  split at h
  · split at h
    · rename_i n _
      injection h with h; subst h
      exact ⟨.agg ((cs'.drop off).take n).toArray, VRel.agg_iff.2 ((hc.drop off).take n)⟩
    · cases h
  · obtain ⟨v', _, hv⟩ := hc.get h; exact ⟨v', hv⟩
  · cases h
theorem eqAll_move {f g : Field → Option Bool} (hfg : ∀ x r, f x = some r → g x = some r) : ∀ (fs : List Field) (r : Bool), aEqAll f fs = some r → aEqAll g fs = some r
  | [], r, h => h
  | x :: xs, r, h => by
    simp only [aEqAll] at h ⊢
    split at h
    · rw [if_pos ‹_›]
      rw [Option.bind_eq_some_iff] at h
      obtain ⟨b, hb, h⟩ := h
      rw [hfg x b hb]
      simp only [Option.bind_some]
      split at h
      · rw [if_pos ‹_›]; exact eqAll_move hfg xs r h
      · rw [if_neg ‹_›]; exact h
    · rw [if_neg ‹_›]; exact eqAll_move hfg xs r h
theorem eqItems_move {f g : Nat → Option Bool} (hfg : ∀ x r, f x = some r → g x = some r) : ∀ (fs : List Nat) (r : Bool), aEqItems f fs = some r → aEqItems g fs = some r
  | [], r, h => h
  | x :: xs, r, h => by
    simp only [aEqItems] at h ⊢
    rw [Option.bind_eq_some_iff] at h
    obtain ⟨b, hb, h⟩ := h
    rw [hfg x b hb]
    simp only [Option.bind_some]
    split at h
    · rw [if_pos ‹_›]; exact eqItems_move hfg xs r h
    · rw [if_neg ‹_›]; exact h
theorem aEq_move {m : Mp} {A1 A2 : AH} (hs : Sub m A1 A2) : ∀ (k : Nat) (t : TypeId) (x y x' y' : Value) (r : Bool), VRel m x x' → VRel m y y' → aEq P A1 k t x y = some r → aEq P A2 k t x y = some r := by
  intro k
  induction k with
  | zero => intro t x y x' y' r _ _ h; cases h
  | succ k ih =>
    intro t x y x' y' r hx hy h
    simp only [aEq] at h ⊢
    split at h
    · exact h
    · exact h
    · exact h
    · split at h
      · exact h
      · exact h
      · rename_i b o c q
        split at h
        · cases hx with
          | ptr _ _ p hp =>
            cases hy with
            | ptr _ _ p' hp' =>
              split at h
              · rename_i hw
                simp only [Bool.and_eq_true] at hw
                rw [if_pos (by simp [wrow_move hs (by rw [hp]; simp) hw.1, wrow_move hs (by rw [hp']; simp) hw.2])]
                exact h
              · split at h
                · rename_i hbc
                  subst hbc
                  by_cases hw2 : (A2.wrow b && A2.wrow b) = true
                  · rw [if_pos hw2]; simpa using h
                  · rw [if_neg hw2, if_pos rfl]; exact h
                · cases h
        · cases h
      · cases h
    · exact h
    · exact h
    · exact h
    · rename_i fs hu
      split at h
      · rename_i xs ys
        split at h
        · rename_i hst
          rw [if_pos hst]
          cases hx with
          | agg _ xs' a1 a2 =>
            cases hy with
            | agg _ ys' b1 b2 =>
              refine eqAll_move (fun f r hf => ?_) _ r h
              rw [Option.bind_eq_some_iff] at hf
              obtain ⟨a, ha, hf⟩ := hf
              rw [Option.bind_eq_some_iff] at hf
              obtain ⟨b, hb, hf⟩ := hf
              obtain ⟨a', ha'⟩ := aPart_rel (VRel.agg_iff.1 (.agg xs xs' a1 a2)) ha
              obtain ⟨b', hb'⟩ := aPart_rel (VRel.agg_iff.1 (.agg ys ys' b1 b2)) hb
              simp only [ha, hb, Option.bind_some]
              exact ih _ _ _ _ _ r ha' hb' hf
        · cases h
      · cases h
    · rename_i n e hu
      split at h
      · rename_i xs ys
        split at h
        · rename_i s hsz
          cases hx with
          | agg _ xs' a1 a2 =>
            cases hy with
            | agg _ ys' b1 b2 =>
              refine eqItems_move (fun f r hf => ?_) _ r h
              rw [Option.bind_eq_some_iff] at hf
              obtain ⟨a, ha, hf⟩ := hf
              rw [Option.bind_eq_some_iff] at hf
              obtain ⟨b, hb, hf⟩ := hf
              obtain ⟨a', ha'⟩ := aPart_rel (VRel.agg_iff.1 (.agg xs xs' a1 a2)) ha
              obtain ⟨b', hb'⟩ := aPart_rel (VRel.agg_iff.1 (.agg ys ys' b1 b2)) hb
              simp only [ha, hb, Option.bind_some]
              exact ih _ _ _ _ _ r ha' hb' hf
        · cases h
      · cases h
    · cases h
theorem aLoad_move {m : Mp} {A1 A2 : AH} (hs : Sub m A1 A2) {T : TypeId} {x x' v : Value} (hx : VRel m x x') (h : aLoad P T x A1 = some v) : aLoad P T x A2 = some v := by
  unfold aLoad at h ⊢
  split at h
  · cases hx with
    | ptr _ _ p hp =>
      split at h
      · rename_i hb
        simp only [hs _ _ (by rw [hp]; simp) hb]; exact h
      · cases h
  · cases h
theorem aSlice_move {m : Mp} {A1 A2 : AH} (hs : Sub m A1 A2) {T : TypeId} {x x' v : Value} {lo hi mx : Option Value} (hx : VRel m x x') (h : aSlice P T x lo hi mx A1 = some v) : aSlice P T x lo hi mx A2 = some v := by
  unfold aSlice at h ⊢
  split at h
  · exact h
  · rename_i a n c
    split at h
    · split at h
      · split at h
        · rename_i hn
          rw [if_pos hn]
          rw [Option.bind_eq_some_iff] at h
          obtain ⟨q, hq, h⟩ := h
          rw [hq]
          simp only [Option.bind_some]
          split at h
          · exact h
          · split at h
            · rename_i hcu
              rw [if_pos hcu]
              split at h
              · rename_i b o
                split at h
                · rename_i hb
                  have hm : m b ≠ none := by
                    cases hx with
                    | slice _ _ _ _ p hp _ => rw [hp]; simp
                    | sliceU _ _ _ _ p hp _ _ _ => rw [hp]; simp
                    | sliceE _ _ _ p hp _ => rw [hp]; simp
                    | slice0 _ _ _ p hp => rw [hp]; simp
                  simp only [hs _ _ hm hb]; exact h
                · cases h
              · cases h
            · rw [if_neg ‹_›]; exact h
        · cases h
      · cases h
    · cases h
  · cases h
theorem aFind_move {m : Mp} {A1 A2 : AH} (hs : Sub m A1 A2) {kt : TypeId} {k k' : Value} (hk : VRel m k k') : ∀ (es : List (Value × Value)) (i : Nat) (r : Option (Nat × Value)), (∀ p ∈ es, ∃ q, VRel m p.1 q) → aFind P A1 kt k es i = some r → aFind P A2 kt k es i = some r
  | [], i, r, _, h => h
  | e :: es, i, r, he, h => by
    obtain ⟨q, hq⟩ := he e (by simp)
    simp only [aFind] at h ⊢
    cases hx : aEq P A1 20 kt k e.1 with
    | none => rw [hx] at h; cases h
    | some b =>
      rw [hx] at h
      rw [aEq_move hs 20 kt _ _ _ _ b hk hq hx]
      cases b
      · exact aFind_move hs hk es (i + 1) r (fun p hp => he p (by simp [hp])) h
      · exact h
theorem aBin_move {m : Mp} {A1 A2 : AH} (hs : Sub m A1 A2) {op : BinOp} {T : TypeId} {x y x' y' v : Value} (hx : VRel m x x') (hy : VRel m y y') (h : aBin P A1 op T x y = some v) : aBin P A2 op T x y = some v := by
  have key : ∀ (g : Bool → Value), (aEq P A1 20 T x y).map g = some v → (aEq P A2 20 T x y).map g = some v := by
    intro g hg
    simp only [Option.map_eq_some_iff] at hg ⊢
    obtain ⟨r, hr, e⟩ := hg
    exact ⟨r, aEq_move hs 20 T _ _ _ _ r hx hy hr, e⟩
  unfold aBin at h ⊢
  split at h
  · exact h
  · exact h
  · split at h
    · rw [if_pos ‹_›]
      split at h <;> first | exact key _ h | cases h
    · cases h
  · split at h <;> first | exact key _ h | cases h
  · split at h <;> first | exact key _ h | cases h
  · split at h <;> first | exact key _ h | cases h
  · split at h <;> first | exact key _ h | cases h
  · cases h
/-- What reads answers alike where more is known. -/
theorem rd_move {m : Mp} {A1 A2 A' : AH} {w : World} {A0 : AH} (hR : Rel P m A0 w) (h1 : ∀ b x, m b ≠ none → A1.get b = some x → A0.get b = some x) (hs : Sub m A1 A2) {E : Env} {o : Oper} (hc : clOf o = .rd) (hop : ∀ x ∈ o.op.operands, ∃ v', VRel m (ev E x) v') {v : Value}
    (h : aOp P E o A1 = some (v, A')) : A' = A1 ∧ aOp P E o A2 = some (v, A2) := by
  unfold clOf at hc
  unfold aOp at h ⊢
  have mp : ∀ {α : Option Value}, α.map (fun v => (v, A1)) = some (v, A') → A' = A1 ∧ α = some v := by
    intro α e
    simp only [Option.map_eq_some_iff, Prod.mk.injEq] at e
    obtain ⟨u, hu, rfl, rfl⟩ := e
    exact ⟨rfl, hu⟩
  cases hop' : o.op with
  | move x => simp only [hop'] at h ⊢; injection h with h; injection h with e1 e2; subst e1 e2; exact ⟨rfl, rfl⟩
  | assign x => simp only [hop'] at h ⊢; injection h with h; injection h with e1 e2; subst e1 e2; exact ⟨rfl, rfl⟩
  | pick c x y =>
    simp only [hop'] at h ⊢
    split at h
    · injection h with h; injection h with e1 e2; subst e1 e2; exact ⟨rfl, rfl⟩
    · cases h
  | build T ps => simp only [hop'] at h ⊢; obtain ⟨e1, e2⟩ := mp h; exact ⟨e1, by rw [e2]; rfl⟩
  | load T x =>
    simp only [hop'] at h hop ⊢
    obtain ⟨e1, e2⟩ := mp h
    obtain ⟨x', hx⟩ := hop x (by simp [Op.operands])
    exact ⟨e1, by rw [aLoad_move hs hx e2]; rfl⟩
  | nilCheck x => simp only [hop'] at h ⊢; obtain ⟨e1, e2⟩ := mp h; exact ⟨e1, by rw [e2]; rfl⟩
  | binOp op T x y yT =>
    simp only [hop'] at h hop ⊢
    obtain ⟨e1, e2⟩ := mp h
    obtain ⟨x', hx⟩ := hop x (by simp [Op.operands])
    obtain ⟨y', hy⟩ := hop y (by simp [Op.operands])
    exact ⟨e1, by rw [aBin_move hs hx hy e2]; rfl⟩
  | unOp op T x => simp only [hop'] at h ⊢; obtain ⟨e1, e2⟩ := mp h; exact ⟨e1, by rw [e2]; rfl⟩
  | convert s d x => simp only [hop'] at h ⊢; obtain ⟨e1, e2⟩ := mp h; exact ⟨e1, by rw [e2]; rfl⟩
  | makeFunc fn q c => simp only [hop'] at h ⊢; injection h with h; injection h with e1 e2; subst e1 e2; exact ⟨rfl, rfl⟩
  | slice T x lo hi mx =>
    simp only [hop'] at h hop ⊢
    obtain ⟨e1, e2⟩ := mp h
    obtain ⟨x', hx⟩ := hop x (by simp [Op.operands])
    exact ⟨e1, by rw [aSlice_move hs hx e2]; rfl⟩
  | fieldAddr S x f => simp only [hop'] at h ⊢; obtain ⟨e1, e2⟩ := mp h; exact ⟨e1, by rw [e2]; rfl⟩
  | field S x f => simp only [hop'] at h ⊢; obtain ⟨e1, e2⟩ := mp h; exact ⟨e1, by rw [e2]; rfl⟩
  | indexAddr T x i => simp only [hop'] at h ⊢; obtain ⟨e1, e2⟩ := mp h; exact ⟨e1, by rw [e2]; rfl⟩
  | index T x i => simp only [hop'] at h ⊢; obtain ⟨e1, e2⟩ := mp h; exact ⟨e1, by rw [e2]; rfl⟩
  | lookup T x k ok =>
    simp only [hop'] at h hop ⊢
    obtain ⟨e1, e2⟩ := mp h
    obtain ⟨x', hx⟩ := hop x (by simp [Op.operands])
    obtain ⟨k', hk⟩ := hop k (by simp [Op.operands])
    refine ⟨e1, ?_⟩
    have : aLookup P T (ev E x) (ev E k) ok A2 = some v := by
      unfold aLookup at e2 ⊢
      split at e2
      · rename_i b kt et hxe hm
        split at e2
        · rename_i es z hb hz
          rw [hxe] at hx
          cases hx with
          | map _ p hp =>
            have hne : m b ≠ none := by rw [hp]; simp
            simp only [hs _ _ hne hb, hz]
            split at e2
            · rename_i hkk
              rw [if_pos hkk]
              simp only [Option.map_eq_some_iff] at e2 ⊢
              obtain ⟨r, hr, e⟩ := e2
              obtain ⟨ents, clk, _, hl⟩ := held_map hR (h1 b _ hne hb) hp
              refine ⟨r, aFind_move hs hk es 0 r (fun q hq => ?_) hr, e⟩
              obtain ⟨i, hi, e⟩ := List.getElem_of_mem hq
              have hi' : i < ents.toList.length := by rw [← hl.1]; exact hi
              exact ⟨_, (hl.2 i q _ (by rw [List.getElem?_eq_getElem hi, e]) (List.getElem?_eq_getElem hi')).1⟩
            · cases e2
        · cases e2
      · cases e2
    rw [this]; rfl
  | extract x i => simp only [hop'] at h ⊢; obtain ⟨e1, e2⟩ := mp h; exact ⟨e1, by rw [e2]; rfl⟩
  | call c =>
    simp only [hop'] at h hc hop ⊢
    split at h
    · rename_i b hb
      unfold aBuiltin at h ⊢
      split at h
      · rename_i x hxs
        rw [Option.bind_eq_some_iff] at h
        obtain ⟨T, hT, h⟩ := h
        obtain ⟨e1, e2⟩ := mp h
        refine ⟨e1, ?_⟩
        rw [hT]
        simp only [Option.bind_some]
        have hxr : ∃ x', VRel m x x' := by
          cases hargs : c.args.toList with
          | nil => rw [hargs] at hxs; cases hxs
          | cons y ys =>
            rw [hargs] at hxs
            simp only [List.map_cons, List.cons.injEq] at hxs
            obtain ⟨x', hx'⟩ := hop y (by simp only [Op.operands, Call.operands]; exact Array.mem_append.2 (.inr (Array.mem_def.2 (by rw [hargs]; simp))))
            exact ⟨x', by rw [← hxs.1]; exact hx'⟩
        obtain ⟨x', hx⟩ := hxr
        have : aLen P T x A2 = some v := by
          unfold aLen at e2 ⊢
          split at e2
          · exact e2
          · exact e2
          · exact e2
          · exact e2
          · rename_i b hu
            split at e2
            · rename_i es hb
              cases hx with
              | map _ p hp =>
                simp only [hs _ _ (by rw [hp]; simp) hb]; exact e2
            · cases e2
          · cases e2
        rw [this]; rfl
      · rw [Option.bind_eq_some_iff] at h
        obtain ⟨T, hT, h⟩ := h
        obtain ⟨e1, e2⟩ := mp h
        exact ⟨e1, by rw [hT]; simp only [Option.bind_some]; rw [e2]; rfl⟩
      · rw [hb] at hc; cases hc
      · rw [hb] at hc; cases hc
      · rw [hb] at hc; cases hc
      · obtain ⟨e1, e2⟩ := mp h; exact ⟨e1, by rw [e2]; rfl⟩
      · obtain ⟨e1, e2⟩ := mp h; exact ⟨e1, by rw [e2]; rfl⟩
      · cases h
    · cases h
  | _ => simp only [hop'] at hc; cases hc
/-- What merely computes answers alike in every heap. -/
theorem pure_move {A1 A2 A' : AH} {E : Env} {o : Oper} (hc : clOf o = .rd) (hl : looks o = false) {v : Value} (h : aOp P E o A1 = some (v, A')) : A' = A1 ∧ aOp P E o A2 = some (v, A2) := by
  unfold clOf at hc
  unfold looks at hl
  unfold aOp at h ⊢
  have mp : ∀ {α : Option Value}, α.map (fun v => (v, A1)) = some (v, A') → A' = A1 ∧ α = some v := by
    intro α e
    simp only [Option.map_eq_some_iff, Prod.mk.injEq] at e
    obtain ⟨u, hu, rfl, rfl⟩ := e
    exact ⟨rfl, hu⟩
  cases hop' : o.op with
  | move x => simp only [hop'] at h ⊢; injection h with h; injection h with e1 e2; subst e1 e2; exact ⟨rfl, rfl⟩
  | assign x => simp only [hop'] at h ⊢; injection h with h; injection h with e1 e2; subst e1 e2; exact ⟨rfl, rfl⟩
  | pick c x y =>
    simp only [hop'] at h ⊢
    split at h
    · injection h with h; injection h with e1 e2; subst e1 e2; exact ⟨rfl, rfl⟩
    · cases h
  | makeFunc fn q c => simp only [hop'] at h ⊢; injection h with h; injection h with e1 e2; subst e1 e2; exact ⟨rfl, rfl⟩
  | binOp op T x y yT =>
    simp only [hop'] at h hl ⊢
    obtain ⟨e1, e2⟩ := mp h
    refine ⟨e1, ?_⟩
    have : aBin P A2 op T (ev E x) (ev E y) = some v := by
      unfold aBin at e2 ⊢
      split at e2
      · exact e2
      · exact e2
      · split at e2
        · split at e2 <;> first | cases e2 | (simp at hl; done)
        · cases e2
      · split at e2 <;> first | cases e2 | (simp at hl; done)
      · split at e2 <;> first | cases e2 | (simp at hl; done)
      · split at e2 <;> first | cases e2 | (simp at hl; done)
      · split at e2 <;> first | cases e2 | (simp at hl; done)
      · cases e2
    rw [this]; rfl
  | call c =>
    simp only [hop'] at h hc hl ⊢
    split at h
    · rename_i b hb
      unfold aBuiltin at h ⊢
      split at h
      · rw [hb] at hl; cases hl
      · rw [Option.bind_eq_some_iff] at h
        obtain ⟨T, hT, h⟩ := h
        obtain ⟨e1, e2⟩ := mp h
        exact ⟨e1, by rw [hT]; simp only [Option.bind_some]; rw [e2]; rfl⟩
      · rw [hb] at hc; cases hc
      · rw [hb] at hc; cases hc
      · rw [hb] at hc; cases hc
      · obtain ⟨e1, e2⟩ := mp h; exact ⟨e1, by rw [e2]; rfl⟩
      · obtain ⟨e1, e2⟩ := mp h; exact ⟨e1, by rw [e2]; rfl⟩
      · cases h
    · cases h
  | build T ps => simp only [hop'] at h ⊢; obtain ⟨e1, e2⟩ := mp h; exact ⟨e1, by rw [e2]; rfl⟩
  | nilCheck x => simp only [hop'] at h ⊢; obtain ⟨e1, e2⟩ := mp h; exact ⟨e1, by rw [e2]; rfl⟩
  | unOp op T x => simp only [hop'] at h ⊢; obtain ⟨e1, e2⟩ := mp h; exact ⟨e1, by rw [e2]; rfl⟩
  | convert s d x => simp only [hop'] at h ⊢; obtain ⟨e1, e2⟩ := mp h; exact ⟨e1, by rw [e2]; rfl⟩
  | fieldAddr S x f => simp only [hop'] at h ⊢; obtain ⟨e1, e2⟩ := mp h; exact ⟨e1, by rw [e2]; rfl⟩
  | field S x f => simp only [hop'] at h ⊢; obtain ⟨e1, e2⟩ := mp h; exact ⟨e1, by rw [e2]; rfl⟩
  | indexAddr T x i => simp only [hop'] at h ⊢; obtain ⟨e1, e2⟩ := mp h; exact ⟨e1, by rw [e2]; rfl⟩
  | index T x i => simp only [hop'] at h ⊢; obtain ⟨e1, e2⟩ := mp h; exact ⟨e1, by rw [e2]; rfl⟩
  | extract x i => simp only [hop'] at h ⊢; obtain ⟨e1, e2⟩ := mp h; exact ⟨e1, by rw [e2]; rfl⟩
  | _ => simp only [hop'] at hc hl; first | (cases hc; done) | (cases hl; done)
end Go.AI
/- AIr: what is made, and where it is laid. -/
namespace Go.AI
open Go Go.RowKit
variable {P : Program}
/-- What an operation makes: its value, by the name, and the block. -/
def MK (P : Program) (E : Env) (o : Oper) (vf : Nat → Value) (x : Blk) : Prop := ∀ A, aOp P E o A = some (vf A.next, A.alloc x)
/-- A block's bearing. -/
def BRel (m : Mp) : Blk → Obj → Prop
  | .row cs E false, .cells cur E' fr => E = E' ∧ fr = (0, 0) ∧ LRel m cs cur.toList
  | .mp [], .map es _ => es = #[]
  | _, _ => False
def plOf (P : Program) (k : Nat) : Obj → Pl
  | .cells cur E _ => ⟨k, 0, cur.size, szD P E⟩
  | _ => ⟨k, 0, 0, 0⟩
theorem plOf_b (k : Nat) (o : Obj) : (plOf P k o).b = k := by cases o <;> rfl
theorem BRel.mono {m m' : Mp} (hm : m.le m') {x : Blk} {o : Obj} (h : BRel m x o) : BRel m' x o := by
  unfold BRel at h ⊢
  split at h
  · exact ⟨h.1, h.2.1, h.2.2.mono hm⟩
  · exact h
  · cases h
theorem BRel.ro {m : Mp} {x : Blk} {o : Obj} (h : BRel m x o) : x.ro = false := by
  unfold BRel at h
  split at h
  · rfl
  · rfl
  · cases h
theorem BRel.held {m : Mp} {x : Blk} {o : Obj} {k id : Nat} {w : World} (h : BRel m x o) (hm : m id = some (plOf P k o)) (hw : w.heap[k]? = some o) : Held P m w id x := by
  unfold BRel at h
  split at h
  · rename_i cs E cur E' fr
    obtain ⟨rfl, rfl, hl⟩ := h
    refine ⟨_, cur, (0, 0), hm, hw, rfl, fun n hn => szD_of hn, fun _ => rfl, ?_, ?_⟩
    · have := hl.1; simp [plOf] at this ⊢; omega
    · simp only [plOf, List.drop_zero]; rw [hl.1, List.take_length]; exact hl
  · rename_i es clk
    subst h
    exact ⟨_, #[], clk, hm, hw, rfl, fun i k v e => by simp at e⟩
  · cases h
theorem al_mk {E : Env} {o : Oper} {A A' : AH} {v : Value} (hc : clOf o = .al) (h : aOp P E o A = some (v, A')) : ∃ vf x, MK P E o vf x ∧ v = vf A.next ∧ A' = A.alloc x := by
  unfold clOf at hc
  cases hop : o.op with
  | alloc T =>
    have e : ∀ A, aOp P E o A = aAlloc P T A := fun A => by unfold aOp; simp only [hop]
    rw [e] at h
    simp only [aAlloc, Option.map_eq_some_iff] at h
    obtain ⟨z, hz, h⟩ := h
    simp only [aBox, Prod.mk.injEq] at h
    exact ⟨fun id => .pointer (some ⟨id, 0, none⟩), .row z.cells.toList T false, fun A => by rw [e]; simp [aAlloc, hz, aBox], h.1.symm, h.2.symm⟩
  | box T x =>
    have e : ∀ A, aOp P E o A = some (aBox T (ev E x) A) := fun A => by unfold aOp; simp only [hop]
    rw [e] at h
    simp only [aBox, Option.some.injEq, Prod.mk.injEq] at h
    exact ⟨fun id => .pointer (some ⟨id, 0, none⟩), .row (ev E x).cells.toList T false, fun A => by rw [e]; rfl, h.1.symm, h.2.symm⟩
  | makeMap T r =>
    cases r with
    | some r => unfold aOp at h; simp only [hop] at h; cases h
    | none =>
      have e : ∀ A, aOp P E o A = some (aMakeMap A) := fun A => by unfold aOp; simp only [hop]
      rw [e] at h
      simp only [aMakeMap, Option.some.injEq, Prod.mk.injEq] at h
      exact ⟨fun id => .map (some id), .mp [], fun A => by rw [e]; rfl, h.1.symm, h.2.symm⟩
  | makeSlice T l c =>
    have e : ∀ A, aOp P E o A = aMakeSlice P T (ev E l) (ev E c) A := fun A => by unfold aOp; simp only [hop]
    rw [e] at h
    have e2 : ∀ A, aOp P E o A = aMakeSlice P T (ev E l) (ev E c) A := e
    unfold aMakeSlice at h e2
    split at h
    · rename_i kl l' kc c' hl hc'
      split at h
      · rename_i el he
        split at h
        · rename_i s y z hs hy hz
          split at h
          · rename_i hb
            simp only [Option.some.injEq, Prod.mk.injEq] at h
            refine ⟨fun id => .slice (some ⟨id, 0, none⟩) l'.toNat c'.toNat, .row (zrep c'.toNat z.cells.toList) el false, fun A => ?_, h.1.symm, h.2.symm⟩
            rw [e2]; simp only [hl, hc', he, hs, hy, hz]; rw [if_pos hb]
          · cases h
        · cases h
      · cases h
    · cases h
  | buildSlice T len ps =>
    have e : ∀ A, aOp P E o A = if len < 1099511627776 then aBuildSlice P T len (ps.toList.map fun p => (p.1, ev E p.2)) A else none := fun A => by unfold aOp; simp only [hop]
    rw [e] at h
    have e2 := e
    unfold aBuildSlice at h e2
    split at h
    · rename_i hlt
      split at h
      · rename_i el he
        split at h
        · rename_i s z hs hz
          split at h
          · rename_i hb
            simp only [Option.map_eq_some_iff, Prod.mk.injEq] at h
            obtain ⟨cs, hcs, h1, h2⟩ := h
            refine ⟨fun id => .slice (some ⟨id, 0, none⟩) len len, .row cs el false, fun A => ?_, h1.symm, h2.symm⟩
            rw [e2, if_pos hlt]; simp only [he, hs, hz]; rw [if_pos hb, hcs]; rfl
          · cases h
        · cases h
      · cases h
    · cases h
  | call c =>
    simp only [hop] at hc
    split at hc <;> cases hc
  | _ => simp only [hop] at hc; cases hc
/-- What is made is laid at the heap's end. -/
theorem mk_run {m : Mp} {E : Env} {a : Act} {o : Oper} {vf : Nat → Value} {x : Blk} (hc : clOf o = .al) (hop : ∀ x ∈ o.op.operands, VRel m (ev E x) (a.eval x)) (h : MK P E o vf x) (w : World) :
    ∃ (ob : Obj) (v' : Value), (execOp a.eval o).run P w = .ok (.value v') (World.new w ob) ∧ BRel m x ob ∧ ∀ (m2 : Mp) (id : Nat), m2 id = some (plOf P w.heap.size ob) → VRel m2 (vf id) v' := by
  have alloc_inj : ∀ {x y : Blk}, (∀ A : AH, A.alloc x = A.alloc y) → x = y := fun {x y} e => by
    have := congrArg (fun A : AH => A.get 0) (e ⟨0, .lf⟩)
    simpa [AH.get_alloc] using this
  have vf_eq : ∀ {vg : Nat → Value} {y : Blk}, (∀ A, aOp P E o A = some (vg A.next, A.alloc y)) → vf = vg ∧ x = y := by
    intro vg y e
    have e3 : ∀ A : AH, (vf A.next, A.alloc x) = (vg A.next, A.alloc y) := fun A => Option.some.inj ((h A).symm.trans (e A))
    exact ⟨funext fun n => (Prod.mk.inj (e3 ⟨n, .lf⟩)).1, alloc_inj fun A => (Prod.mk.inj (e3 A)).2⟩
  unfold clOf at hc
  have h0 := h ⟨0, .lf⟩
  cases hop' : o.op with
  | alloc T =>
    have e : ∀ A, aOp P E o A = aAlloc P T A := fun A => by unfold aOp; simp only [hop']
    rw [e] at h0
    simp only [aAlloc, Option.map_eq_some_iff] at h0
    obtain ⟨z, hz, _⟩ := h0
    obtain ⟨rfl, rfl⟩ := vf_eq (vg := fun id => .pointer (some ⟨id, 0, none⟩)) (y := .row z.cells.toList T false) fun A => by rw [e]; simp [aAlloc, hz, aBox]
    refine ⟨.cells z.cells T, .pointer (some ⟨w.heap.size, 0, none⟩), ?_, ⟨rfl, rfl, plain_cells m z (zero_plain hz)⟩, fun m2 id hm => VRel.ptr id 0 _ hm⟩
    unfold execOp
    simp only [hop']
    unfold Instr.alloc
    simp only [bind_assoc]
    rw [run_bind _ _ _ (run_zero hz w)]
    simp only [newVar, bind_assoc]
    rw [run_bind _ _ _ (run_newRow _ _ _)]; rfl
  | box T y =>
    simp only [hop'] at hop
    have e : ∀ A, aOp P E o A = some (aBox T (ev E y) A) := fun A => by unfold aOp; simp only [hop']
    obtain ⟨rfl, rfl⟩ := vf_eq (vg := fun id => .pointer (some ⟨id, 0, none⟩)) (y := .row (ev E y).cells.toList T false) fun A => by rw [e]; rfl
    refine ⟨.cells (a.eval y).cells T, .pointer (some ⟨w.heap.size, 0, none⟩), ?_, ⟨rfl, rfl, (hop y (by simp [Op.operands])).cells⟩, fun m2 id hm => VRel.ptr id 0 _ hm⟩
    unfold execOp
    simp only [hop']
    unfold Instr.box
    simp only [newVar, bind_assoc]
    rw [run_bind _ _ _ (run_newRow _ _ _)]; rfl
  | makeMap T r =>
    cases r with
    | some r => unfold aOp at h0; simp only [hop'] at h0; cases h0
    | none =>
      have e : ∀ A, aOp P E o A = some (aMakeMap A) := fun A => by unfold aOp; simp only [hop']
      obtain ⟨rfl, rfl⟩ := vf_eq (vg := fun id => .map (some id)) (y := .mp []) fun A => by rw [e]; rfl
      refine ⟨.map #[] 0, .map (some w.heap.size), ?_, rfl, fun m2 id hm => VRel.map id _ hm⟩
      unfold execOp
      simp only [hop', Option.map_none]
      unfold Instr.makeMap
      simp only [bind_assoc]
      rw [run_bind _ _ _ (run_new _ w)]; rfl
  | makeSlice T l c =>
    simp only [hop'] at hop
    have e : ∀ A, aOp P E o A = aMakeSlice P T (ev E l) (ev E c) A := fun A => by unfold aOp; simp only [hop']
    rw [e] at h0
    have e2 := e
    unfold aMakeSlice at h0 e2
    split at h0
    · rename_i kl l' kc c' hl hc'
      split at h0
      · rename_i el he
        have hu := sliceElem_spec he
        split at h0
        · rename_i s y z hs hy hz
          split at h0
          · rename_i hb
            obtain ⟨rfl, rfl⟩ := vf_eq (vg := fun id => .slice (some ⟨id, 0, none⟩) l'.toNat c'.toNat) (y := .row (zrep c'.toNat z.cells.toList) el false) fun A => by rw [e2]; simp only [hl, hc', he, hs, hy, hz]; rw [if_pos hb]
            obtain ⟨h1, h2, h3, h4, h5⟩ := hb
            have hl' := hop l (by simp [Op.operands])
            have hcc' := hop c (by simp [Op.operands])
            rw [hl] at hl'; rw [hc'] at hcc'
            generalize hle : a.eval l = le at hl'
            generalize hce : a.eval c = ce at hcc'
            cases hl'; cases hcc'
            obtain ⟨i, hi, rfl⟩ := byOf_spec hy
            have wl : IntKind.i64.wrap l' = l' := IntWalk.i64_in _ (by omega)
            have wc : IntKind.i64.wrap c' = c' := IntWalk.i64_in _ (by omega)
            have hcs : LRel m (zrep c'.toNat z.cells.toList) ((Array.range (c'.toNat * s)).map fun i => z.cells[i % z.cells.size]!).toList := by
              rw [← h5, zeros_eq]; exact (plain_cells m z (zero_plain hz)).zrep _
            refine ⟨.cells ((Array.range (c'.toNat * s)).map fun i => z.cells[i % z.cells.size]!) el, .slice (some ⟨w.heap.size, 0, none⟩) l'.toNat c'.toNat, ?_, ⟨rfl, rfl, hcs⟩, fun m2 id hm => VRel.slice id 0 _ _ _ hm (by unfold UNK; omega)⟩
            unfold execOp
            simp only [hop', hle, hce]
            unfold Instr.makeSlice
            simp only [bind_assoc]
            rw [run_bind _ _ _ (run_un hu w)]
            simp only [asInt, asIntOf, pure_bind, bind_assoc]
            rw [run_bind _ _ _ (run_ti hi w)]
            simp only [wl, wc]
            have hf : ∀ n : Int, 0 ≤ n → n ≤ c' → (decide (n < 0) || decide ((i.bytes : Int) * n > 2 ^ 48)) = false := by
              intro n hn hnc
              have : (i.bytes : Int) * n ≤ i.bytes * c' := Int.mul_le_mul_of_nonneg_left hnc (by omega)
              simp; omega
            have e1 : ¬ l' < 0 := by omega
            have e2 : ¬ l' > c' := by omega
            rw [if_neg (by rw [hf c' (by omega) (Int.le_refl _)]; simp [e1, e2])]
            have ask : (askRoom (c'.toNat * i.bytes)).run P w = .ok () w := by unfold askRoom; split <;> rfl
            simp only [bind_assoc]
            rw [run_bind _ _ _ ask, run_bind _ _ _ (run_sz hs w)]
            by_cases h0 : c'.toNat * s = 0
            · rw [if_pos h0]
              simp only [h0, map_range0, pure_bind, bind_assoc]
              rw [run_bind _ _ _ (run_newRow _ _ _)]
              rfl
            · rw [if_neg h0]
              simp only [bind_assoc, pure_bind]
              rw [run_bind _ _ _ (run_zero hz w), run_bind _ _ _ (run_newRow _ _ _)]
              rfl
          · cases h0
        · cases h0
      · cases h0
    · cases h0
  | buildSlice T len ps =>
    simp only [hop'] at hop
    have e : ∀ A, aOp P E o A = if len < 1099511627776 then aBuildSlice P T len (ps.toList.map fun p => (p.1, ev E p.2)) A else none := fun A => by unfold aOp; simp only [hop']
    rw [e] at h0
    have e2 := e
    unfold aBuildSlice at h0 e2
    split at h0
    · rename_i hlt
      split at h0
      · rename_i el he
        have hu := sliceElem_spec he
        split at h0
        · rename_i s z hs hz
          split at h0
          · rename_i hb
            simp only [Option.map_eq_some_iff, Prod.mk.injEq] at h0
            obtain ⟨cs, hcs, _⟩ := h0
            obtain ⟨rfl, rfl⟩ := vf_eq (vg := fun id => .slice (some ⟨id, 0, none⟩) len len) (y := .row cs el false) fun A => by rw [e2, if_pos hlt]; simp only [he, hs, hz]; rw [if_pos hb, hcs]; rfl
            have hp := op_parts (m := m) (E := E) (a := a) (ps := ps.toList) (fun p hp => hop p.2 (by simp [Op.operands]; exact ⟨p.1, Array.mem_def.2 hp⟩))
            have hz0 : LRel m (zrep len z.cells.toList) ((Array.range (len * s)).map fun i => z.cells[i % z.cells.size]!).toList := by
              rw [← hb.2, zeros_eq]; exact (plain_cells m z (zero_plain hz)).zrep _
            obtain ⟨r', hr, hl⟩ := fill_sound (m := m) _ _ _ _ _ cs hz0 hp hcs
            refine ⟨.cells r' el, .slice (some ⟨w.heap.size, 0, none⟩) len len, ?_, ⟨rfl, rfl, hl⟩, fun m2 id hm => VRel.slice id 0 _ _ _ hm (by unfold UNK; omega)⟩
            unfold execOp
            simp only [hop']
            unfold Instr.buildSlice
            simp only [bind_assoc]
            rw [run_bind _ _ _ (run_un hu w)]
            simp only [bind_assoc]
            rw [run_bind _ _ _ (run_sz hs w), if_neg (by omega)]
            have hr' : Instr.fill (fun i => some (i * s, s)) ((Array.range (len * s)).map fun i => z.cells[i % z.cells.size]!) (ps.map fun p => (p.1, a.eval p.2)).toList = some r' := by
              rw [Array.toList_map]; exact hr
            by_cases h0 : len * s = 0
            · rw [if_pos h0]
              simp only [h0, map_range0, pure_bind] at hr' ⊢
              rw [hr']
              simp only [bind_assoc]
              rw [run_bind _ _ _ (run_newRow _ _ _)]; rfl
            · rw [if_neg h0]
              simp only [pure_bind, bind_assoc]
              rw [run_bind _ _ _ (run_zero hz w), hr']
              simp only [bind_assoc]
              rw [run_bind _ _ _ (run_newRow _ _ _)]; rfl
          · cases h0
        · cases h0
      · cases h0
    · cases h0
  | call c =>
    simp only [hop'] at hc
    split at hc <;> cases hc
  | _ => simp only [hop'] at hc; cases hc
/-- A new block that has no name. -/
theorem Rel.push {m : Mp} {A : AH} {w : World} (h : Rel P m A w) (ob : Obj) : Rel P m A (World.new w ob) :=
  ⟨fun b x hb => (h.held b x hb).heap fun p hp => by rw [World.new_get, if_neg (by have := h.low b p hp; omega)], h.apart, h.fresh, fun b p hb => by rw [World.new_size]; have := h.low b p hb; omega⟩
theorem Step.push (m : Mp) (A : AH) (w : World) (ob : Obj) : Step m A w m A (World.new w ob) :=
  ⟨m.le_refl, Nat.le_refl _, by rw [World.new_size]; omega, fun k hk _ => by rw [World.new_get, if_neg (by omega)], fun _ _ h => h, rfl, rfl, rfl, fun _ _ => rfl, fun _ _ h _ => h⟩
/-- A block that stands there gets a name. -/
theorem Rel.add {m : Mp} {A A' : AH} {w : World} (h : Rel P m A w) {id k : Nat} {x : Blk} {ob : Obj} (hm : m id = none) (hb : BRel m x ob) (hk : w.heap[k]? = some ob) (hne : ∀ c y q, A.get c = some y → m c = some q → q.b ≠ k)
    (hg : ∀ b, A'.get b = if b = id then some x else A.get b) (hn : A.next ≤ A'.next) (hid : id < A'.next) : Rel P (m.upd id (plOf P k ob)) A' w := by
  have hle := Mp.upd_le (m := m) (n := id) (plOf P k ob) hm
  have hlt : k < w.heap.size := (Array.getElem?_eq_some_iff.1 hk).1
  have hm' : ∀ c r, c ≠ id → (m.upd id (plOf P k ob)) c = some r → m c = some r := fun c r hc e => by simp only [Mp.upd] at e; rw [if_neg hc] at e; exact e
  refine ⟨fun b y hy => ?_, fun b c p q y z hy hz hr hp hq e => ?_, fun b hb' => ?_, fun b p hp => ?_⟩
  · rw [hg] at hy
    by_cases e : b = id
    · subst e; rw [if_pos rfl] at hy; injection hy with hy; subst hy
      exact (hb.mono hle).held (Mp.upd_same _ _ _) hk
    · rw [if_neg e] at hy; exact (h.held b y hy).mono hle
  · rw [hg] at hy hz
    by_cases e1 : b = id
    · by_cases e2 : c = id
      · rw [e1, e2]
      · rw [if_neg e2] at hz
        subst e1
        rw [Mp.upd_same] at hp; injection hp with hp; subst hp
        rw [plOf_b] at e
        exact absurd e.symm (hne c z q hz (hm' c q e2 hq))
    · by_cases e2 : c = id
      · rw [if_neg e1] at hy
        subst e2
        rw [Mp.upd_same] at hq; injection hq with hq; subst hq
        rw [plOf_b] at e
        exact absurd e (hne b y p hy (hm' b p e1 hp))
      · rw [if_neg e1] at hy; rw [if_neg e2] at hz
        exact h.apart b c p q y z hy hz hr (hm' b p e1 hp) (hm' c q e2 hq) e
  · have : b ≠ id := by omega
    rw [hg, if_neg this]
    have hf := h.fresh b (by omega)
    refine ⟨hf.1, ?_⟩
    simp only [Mp.upd]; rw [if_neg this]; exact hf.2
  · by_cases e : b = id
    · subst e; rw [Mp.upd_same] at hp; injection hp with hp; subst hp; rw [plOf_b]; exact hlt
    · exact h.low b p (hm' b p e hp)
end Go.AI
