/-
  A way to reckon with memory, sound for calls of the model: named blocks, operations over them, rules for code.
-/
import Derived.Test.YtnlopamlmojbgaaGreatP2
set_option linter.unusedSimpArgs false
set_option linter.unusedVariables false
/- AIA: more of what many walks use: rows written in part, lists made and pushed to, maps, arrays read. -/
namespace Go.AI
open Go Go.RowKit
set_option linter.unusedVariables false
set_option linter.unusedSimpArgs false
variable {P : Program}
theorem spl_in (X r Y : List Value) (j : Nat) (vs : List Value) (h : j + vs.length ≤ r.length) : spl (X ++ (r ++ Y)) (X.length + j) vs = X ++ (spl r j vs ++ Y) := by
  unfold spl
  have e1 : (X ++ (r ++ Y)).take (X.length + j) = X ++ r.take j := by
    rw [List.take_append, List.take_of_length_le (by omega), show X.length + j - X.length = j from by omega, List.take_append_of_le_length (by omega)]
  have e2 : (X ++ (r ++ Y)).drop (X.length + j + vs.length) = r.drop (j + vs.length) ++ Y := by
    rw [List.drop_append, List.drop_eq_nil_of_le (by omega), List.nil_append, show X.length + j + vs.length - X.length = j + vs.length from by omega, List.drop_append_of_le_length (by omega)]
  rw [e1, e2]; simp
/-- A part of a row is written over. -/
theorem spl_flat {z i j : Nat} {L : List (List Value)} {vs : List Value} (h : ∀ r ∈ L, r.length = z) (hi : i < L.length) (hj : j + vs.length ≤ z) : spl L.flatten (i * z + j) vs = (L.set i (spl L[i] j vs)).flatten := by
  have hr := h L[i] (List.getElem_mem hi)
  have hX : (L.take i).flatten.length = i * z := by
    rw [flat_len fun r hr => h r (List.mem_of_mem_take hr), List.length_take, Nat.min_eq_left (by omega)]
  have e : L.flatten = (L.take i).flatten ++ (L[i] ++ (L.drop (i + 1)).flatten) := by
    rw [← List.flatten_cons, ← List.flatten_append, ← List.drop_eq_getElem_cons hi, List.take_append_drop]
  rw [List.set_eq_take_append_cons_drop, if_pos hi]
  conv => lhs; rw [e, ← hX, spl_in _ _ _ _ _ (by omega)]
  simp
theorem range_set {α : Type} (n : Nat) (R : Nat → α) {v : Nat} (r : α) : ((List.range n).map R).set v r = (List.range n).map fun u => if u = v then r else R u := by
  apply List.ext_getElem?
  intro i
  rw [List.getElem?_set]
  simp only [List.length_map, List.length_range, List.getElem?_map]
  by_cases e : v = i
  · subst e
    by_cases hv : v < n
    · simp [hv]
    · simp [hv]
  · have e' : ¬ i = v := fun h => e h.symm
    by_cases hi : i < n <;> simp [e, e', hi]
def lcap (l c : Nat) : Prop := c = UNK ∨ (l ≤ c ∧ c < UNK)
/-- A slice cut to its length. -/
theorem slW_full {z b n c : Nat} {k k' : IntKind} {A : AH} (hc : lcap n c) (hn : n < UNK) : slW P z (some ⟨b, 0, none⟩) n c none (some (.int k n)) (some (.int k' n)) A = some (.slice (some ⟨b, 0, none⟩) n n) := by
  have ht : n ≤ topOf n c := by
    unfold topOf
    split
    · exact Nat.le_refl _
    · rcases hc with h | h <;> omega
  unfold slW
  rw [if_pos ht]
  simp only [aBounds, aBndO_none, aBnd_int]
  rw [if_pos ⟨by omega, by omega⟩]
  simp only [Option.bind_some, Int.toNat_natCast]
  rw [if_pos ⟨by omega, by omega⟩]
  simp only [Option.map_some, Option.bind_some, Nat.sub_zero]
  rw [if_neg (by omega)]
  simp [cutA_zero]
theorem own_push {n0 : Nat} {A : AH} {e : TypeId} {z y : Nat} {v : Value} {L : List (List Value)} {r : List Value} (h : Own n0 A e z v L) (hw : A.wf) (hn0 : n0 ≤ A.next) (hr : r.length = z ∧ r.all oneB = true) (hz : 0 < z) (hy : y ≤ 1048576) (hl : L.length ≤ 1000000) :
    ∃ v' A', appW e z y v (.slice (some ⟨A.next, 0, none⟩) 1 1) (A.alloc (.row r e false)) = some (v', A') ∧ Own n0 A' e z v' (L ++ [r]) ∧ A.next + 1 ≤ A'.next ∧ ∀ b, b < n0 → A'.get b = A.get b := by
  have xa := Ext.alloc A (.row r e false)
  have hsl : Sl (A.alloc (.row r e false)) e z (some ⟨A.next, 0, none⟩) [r] := Sl.row (Rw.one hr) (AH.get_new _ _) (by simp)
  have hm : (L.length + [r].length) * y ≤ 17592186044416 := by
    have : (L.length + [r].length) * y ≤ 1000001 * 1048576 := Nat.mul_le_mul (by simp; omega) hy
    omega
  obtain ⟨v', A', p1, p2, p3, p4⟩ := (h.ext hw xa).app (y := y) (by simp; omega) hsl hz hy (by simp; omega) hm (c := 1)
  exact ⟨v', A', p1, p2, p3, fun b hb => (p4 ⟨n0, A.tab⟩ rfl (fun b hb => xa b (by simp at hb; omega))) b hb⟩
theorem own_kept {n0 : Nat} {A A' : AH} {e : TypeId} {z : Nat} {v : Value} {L : List (List Value)} (h : Own n0 A e z v L) (hk : ∀ b x, n0 ≤ b → A.get b = some x → A'.get b = A.get b) : Own n0 A' e z v L :=
  ⟨h.1, h.2.imp id fun ⟨b, q1, q2, q3⟩ => ⟨b, q1, q2, (hk b _ q2 q3).trans q3⟩⟩
theorem own_slm {n0 : Nat} {A : AH} {e : TypeId} {z : Nat} {v : Value} {α : Type} {f : α → List Value} {L : List α} (h : Own n0 A e z v (L.map f)) : ∃ a c, v = .slice a L.length c ∧ Sl A e z a (L.map f) ∧ (∀ b o, a = some ⟨b, o, none⟩ → n0 ≤ b) ∧ CapOk A e a L.length c := by
  rcases h.2 with ⟨rfl, hn⟩ | ⟨b, rfl, hb, hg⟩
  · have hL : L = [] := List.map_eq_nil_iff.1 hn
    subst hL
    exact ⟨none, 0, rfl, Sl.nil Pla.no _ _ _, by simp, Or.inl ⟨by simp, by unfold UNK; omega⟩⟩
  · refine ⟨_, _, by rw [List.length_map], Sl.row h.1 hg rfl, fun b' o e => ?_, Or.inr ⟨rfl, fun b' o e => ?_⟩⟩
    · injection e with e; injection e with e; omega
    · injection e with e; injection e with e; subst e; exact ⟨_, _, hg⟩
/-! Maps. -/
structure KeyOk {α : Type} [DecidableEq α] (P : Program) (kt : TypeId) (f : α → Value) : Prop where
  eq : ∀ A a b, aEq P A 20 kt (f a) (f b) = some (decide (a = b))
  ok : ∀ a, aKey P 20 kt (f a) = true
  un : (P.underlying kt).isSome = true
  fl : ∀ a, eqFlat (f a) (f a) = true
section
variable {α : Type} [DecidableEq α] {f : α → Value} {kt et T : TypeId}
def mpE (f : α → Value) (L : List (α × Value)) : List (Value × Value) := L.map fun p => (f p.1, p.2)
def mget : List (α × Value) → α → Option Value
  | [], _ => none
  | p :: l, k => if k = p.1 then some p.2 else mget l k
def mset : List (α × Value) → α → Value → List (α × Value)
  | [], k, v => [(k, v)]
  | p :: l, k, v => if k = p.1 then (k, v) :: l else p :: mset l k v
theorem mget_mset (k k' : α) (v : Value) : ∀ L : List (α × Value), mget (mset L k v) k' = if k' = k then some v else mget L k'
  | [] => by simp [mset, mget]
  | p :: l => by
    have ih := mget_mset k k' v l
    by_cases h : k = p.1
    · by_cases h' : k' = k
      · simp [mset, mget, h, h']
      · have : ¬ k' = p.1 := fun e => h' (by rw [e, h])
        simp [mset, mget, ← h, h']
    · by_cases h' : k' = p.1
      · have : ¬ k' = k := fun e => h (by rw [← e, h'])
        simp only [mset, if_neg h, mget, if_pos h', if_neg this]
      · simp only [mset, if_neg h, mget, if_neg h', ih]
theorem aFind_mp (hk : KeyOk P kt f) (A : AH) (k : α) : ∀ (L : List (α × Value)) (i : Nat),
    (mget L k = none → aFind P A kt (f k) (mpE f L) i = some none ∧ ∀ v, mpE f L ++ [(f k, v)] = mpE f (mset L k v)) ∧
    (∀ v, mget L k = some v → ∃ j, aFind P A kt (f k) (mpE f L) i = some (some (i + j, v)) ∧ (mpE f L)[j]? = some (f k, v) ∧ ∀ v', (mpE f L).set j (f k, v') = mpE f (mset L k v'))
  | [], i => ⟨fun _ => ⟨rfl, fun v => rfl⟩, fun v h => by cases h⟩
  | p :: l, i => by
    have ih := aFind_mp hk A k l (i + 1)
    by_cases h : k = p.1
    · refine ⟨fun hn => by simp [mget, h] at hn, fun v hv => ⟨0, ?_, ?_, fun v' => ?_⟩⟩
      · simp only [mget, if_pos h, Option.some.injEq] at hv
        show aFind P A kt (f k) ((f p.1, p.2) :: mpE f l) i = _
        simp [aFind, hk.eq, h, hv]
      · simp only [mget, if_pos h, Option.some.injEq] at hv
        simp [mpE, h, hv]
      · simp only [mset, if_pos h]; rfl
    · have hf : aFind P A kt (f k) (mpE f (p :: l)) i = aFind P A kt (f k) (mpE f l) (i + 1) := by
        show aFind P A kt (f k) ((f p.1, p.2) :: mpE f l) i = _
        simp [aFind, hk.eq, h]
      refine ⟨fun hn => ?_, fun v hv => ?_⟩
      · simp only [mget, if_neg h] at hn
        obtain ⟨h1, h2⟩ := ih.1 hn
        refine ⟨hf.trans h1, fun v => ?_⟩
        simp only [mset, if_neg h]
        show (f p.1, p.2) :: (mpE f l ++ [(f k, v)]) = _
        rw [h2]; rfl
      · simp only [mget, if_neg h] at hv
        obtain ⟨j, h1, h2, h3⟩ := ih.2 v hv
        refine ⟨j + 1, by rw [hf, h1]; congr 3; omega, h2, fun v' => ?_⟩
        simp only [mset, if_neg h]
        show (f p.1, p.2) :: (mpE f l).set j (f k, v') = _
        rw [h3]; rfl
theorem lookup_mp (hk : KeyOk P kt f) {z : Value} (hT : mapOf P T = some (kt, et)) (hz : zeroOf P et = some z) {A : AH} {b : Nat} {L : List (α × Value)} (hb : A.get b = some (.mp (mpE f L))) (k : α) :
    aLookup P T (.map (some b)) (f k) true A = some (.tuple #[(mget L k).getD z, .bool (mget L k).isSome]) ∧ aLookup P T (.map (some b)) (f k) false A = some ((mget L k).getD z) := by
  have h := aFind_mp hk A k L 0
  constructor
  · unfold aLookup
    simp only [hT, hb, hz]
    rw [if_pos ⟨hk.ok k, hk.un⟩]
    cases hg : mget L k with
    | none => rw [(h.1 hg).1]; rfl
    | some v => obtain ⟨j, h1, -⟩ := h.2 v hg; rw [h1]; rfl
  · unfold aLookup
    simp only [hT, hb, hz]
    rw [if_pos ⟨hk.ok k, hk.un⟩]
    cases hg : mget L k with
    | none => rw [(h.1 hg).1]; rfl
    | some v => obtain ⟨j, h1, -⟩ := h.2 v hg; rw [h1]; rfl
theorem set_mp (hk : KeyOk P kt f) (hT : mapOf P T = some (kt, et)) {A : AH} {b : Nat} {L : List (α × Value)} (hb : A.get b = some (.mp (mpE f L))) (k : α) (v : Value) :
    aMapSet P T (.map (some b)) (f k) v A = some (A.set b (.mp (mpE f (mset L k v)))) := by
  have h := aFind_mp hk A k L 0
  unfold aMapSet
  simp only [hT, hb]
  rw [if_pos ⟨hk.ok k, hk.un⟩]
  cases hg : mget L k with
  | none => rw [(h.1 hg).1]; simp only []; rw [(h.1 hg).2]
  | some w =>
    obtain ⟨j, h1, h2, h3⟩ := h.2 w hg
    rw [h1]
    simp only [Nat.zero_add]
    rw [h2]
    simp only []
    rw [if_pos (hk.fl k), h3]
end
/-! Arrays built. -/
theorem aBuild_arr {T e : TypeId} {n s : Nat} {z : Value} (hT : P.underlying T = some (.array n e)) (hs : szOf P e = some s) (hz : zeroOf P T = some z) (ps : List (Nat × Value)) : aBuild P T ps = (fillL (fun i => some (i * s, s)) z.cells.toList ps).map fun cs => .agg cs.toArray := by
  unfold aBuild
  rw [hz, hT]
  simp only []
  rw [hs]
  rfl
/-! Arrays compared. -/
theorem aEq_arr {T e : TypeId} {n s : Nat} (hT : P.underlying T = some (.array n e)) (hs : szOf P e = some s) (A : AH) (k : Nat) (xs ys : List Value) : aEq P A (k + 1) T (.agg ⟨xs⟩) (.agg ⟨ys⟩) = eqL P A k xs ys ((List.range n).map fun i => (e, i * s)) := by
  unfold aEq
  rw [hT]
  simp only [hs]
  generalize List.range n = l
  induction l with
  | nil => rfl
  | cons i l ih =>
    simp only [aEqItems, List.map_cons, eqL, ih]
    cases aPart P e xs (i * s) with
    | none => rfl
    | some a => cases aPart P e ys (i * s) with
      | none => rfl
      | some b => rfl
@[simp] theorem aBuiltin_max (Ts : List TypeId) (k : IntKind) (a b : Int) (A : AH) : aBuiltin P .max ⟨Ts⟩ [.int k a, .int k b] A = some (.int k (if a < b then b else a), A) := (rfl)
@[simp] theorem aBuiltin_min (Ts : List TypeId) (k : IntKind) (a b : Int) (A : AH) : aBuiltin P .min ⟨Ts⟩ [.int k a, .int k b] A = some (.int k (if b < a then b else a), A) := (rfl)
/-! Arrays read. -/
theorem Rd_arr {A : AH} {n N : Nat} {t e : TypeId} {cs : List Value} {k : IntKind} (ht : P.underlying t = some (.array N e)) (he : P.underlying e = some (.int k)) (hc : P.cellsOf t = N) (hce : P.cellsOf e = 1) (h : Rd P A n t cs) : ∃ L : List Int, L.length = N ∧ cs = L.map (.int k) ∧ ∀ i ∈ L, (Lit.int k i).wf = true := by
  cases n with
  | zero => exact h.elim
  | succ n =>
    unfold Rd at h
    rw [ht] at h
    obtain ⟨h1, h2⟩ := h
    rw [hc] at h1
    rw [hce] at h2
    obtain ⟨L, l1, l2⟩ := pick_list (Q := fun i (x : Int) => cs[i]? = some (.int k x) ∧ (Lit.int k x).wf = true) (len := N) fun i hi => by
      obtain ⟨x, e1, w1⟩ := Rd_int he (h2 i hi)
      refine ⟨x, ?_, w1⟩
      have : ((cs.drop (i * 1)).take 1)[0]? = some (.int k x) := by rw [e1]; rfl
      rw [List.getElem?_take, if_pos (by omega), List.getElem?_drop] at this
      simpa using this
    refine ⟨L, l1, ?_, fun x hx => ?_⟩
    · apply List.ext_getElem?
      intro i
      rw [List.getElem?_map]
      by_cases hi : i < L.length
      · rw [(l2 i hi).1, List.getElem?_eq_getElem hi]; rfl
      · rw [List.getElem?_eq_none (by omega), List.getElem?_eq_none (by omega)]; rfl
    · obtain ⟨i, hi, rfl⟩ := List.getElem_of_mem hx
      exact (l2 i hi).2
end Go.AI
/- AIB: the way out of a loop, joined. -/
namespace Go.AI
set_option linter.unusedVariables false
open Go Go.RowKit
variable {P : Program}
theorem oK_mono {α : Type} {o : Option α} {k k' : α → Prop} (h : oK o k) (hk : ∀ x, k x → k' x) : oK o k' := by
  cases o with
  | none => exact h
  | some x => exact hk _ h
theorem bK_mono {v : Value} {p q p' q' : Prop} (h : bK v p q) (hp : p → p') (hq : q → q') : bK v p' q' := by
  unfold bK at h ⊢
  split at h
  · exact hp h
  · exact hq h
  · exact h
theorem gK_mono {v : Value} {b : Bool} {p q p' q' : Prop} (h : gK v b p q) (hp : p → p') (hq : q → q') : gK v b p' q' := by
  unfold gK at h ⊢
  split at h
  · split at h
    · rename_i h1; rw [if_pos h1]; exact hp h
    · rename_i h1; rw [if_neg h1]; exact hq h
  · exact hq h
theorem iS_mono {o : Op} {E : Env} {A : AH} {k k' : Value → AH → Prop} (h : iS P o E A k) (hk : ∀ v A', k v A' → k' v A') : iS P o E A k' := by
  unfold iS at h ⊢
  split at h
  · split at h
    · exact oK_mono h fun q => hk _ _
    · exact oK_mono h fun q hq => ACall.mono hq fun v A' _ _ h3 => hk v A' h3
  · exact oK_mono h fun q => hk _ _
theorem SO_mono {K K' : Env → AH → Prop} (hk : ∀ E A, K E A → K' E A) : ∀ (l : List RI) (E : Env) (A : AH), SO P l E A K → SO P l E A K'
  | [], E, A, h => hk _ _ h
  | .p d o :: l, E, A, h => iS_mono h fun v A' => SO_mono hk l _ _
  | .n o :: l, E, A, h => iS_mono h fun v A' => SO_mono hk l _ _
  | .g t b d o :: l, E, A, h => gK_mono h (fun h => iS_mono h fun v A' => SO_mono hk l _ _) (SO_mono hk l _ _)
  | .gn t b o :: l, E, A, h => gK_mono h (fun h => iS_mono h fun v A' => SO_mono hk l _ _) (SO_mono hk l _ _)
  | .bad :: _, _, _, h => h
theorem SD_mono {K K' : Env → AH → Prop} (hk : ∀ E A, K E A → K' E A) : ∀ (l : List DI) (H : List (Nat × Op × Env × Value)) (E : Env) (A : AH), SD P l H E A K → SD P l H E A K'
  | [], _, E, A, h => hk _ _ h
  | p :: ps, H, E, A, h => by
    unfold SD at h ⊢
    refine ⟨h.1, ?_⟩
    have h2 := h.2
    clear h
    split at h2
    · exact iS_mono h2 fun v A' h => ⟨h.1, SD_mono hk ps _ _ _ h.2⟩
    · exact iS_mono h2 fun v A' h => ⟨h.1, SD_mono hk ps _ _ _ h.2⟩
    · exact gK_mono h2 (fun h => iS_mono h fun v A' h => ⟨h.1, SD_mono hk ps _ _ _ h.2⟩) (SD_mono hk ps _ _ _)
    · exact gK_mono h2 (fun h => iS_mono h fun v A' h => ⟨h.1, SD_mono hk ps _ _ _ h.2⟩) (SD_mono hk ps _ _ _)
    · exact h2
theorem onN_mono {K K' : Env → AH → Prop} {Q Q' : Exit → Env → AH → Prop} (hk : ∀ E A, K E A → K' E A) (hq : ∀ ex E A, Q ex E A → Q' ex E A) : ∀ ex E A, onN K Q ex E A → onN K' Q' ex E A := by
  intro ex E A h
  cases ex with
  | normal => exact hk _ _ h
  | _ => exact hq _ _ _ h
theorem outOf_mono {id : Nat} {Q Q' : Exit → Env → AH → Prop} (hq : ∀ ex E A, Q ex E A → Q' ex E A) : ∀ ex E A, outOf id Q ex E A → outOf id Q' ex E A := by
  intro ex E A h
  unfold outOf at h ⊢
  split at h <;> first | (split at h <;> simp_all) | exact hq _ _ _ h
theorem SW_mono : ∀ (c : SC) {E : Env} {A : AH} {Q Q' : Exit → Env → AH → Prop}, SW P c E A Q → (∀ ex E A, Q ex E A → Q' ex E A) → SW P c E A Q' := by
  intro c
  induction c with
  | skip => intro E A Q Q' h hq; exact hq _ _ _ h
  | exit id => intro E A Q Q' h hq; exact hq _ _ _ h
  | ret => intro E A Q Q' h hq; exact hq _ _ _ h
  | seq x y ihx ihy => intro E A Q Q' h hq; exact ihx h (onN_mono (fun E A h => ihy h hq) hq)
  | cond c x y ihx ihy => intro E A Q Q' h hq; exact bK_mono h (fun h => ihx h hq) (fun h => ihy h hq)
  | block id c ih => intro E A Q Q' h hq; exact ih h (outOf_mono hq)
  | loop c ih =>
    intro E A Q Q' h hq
    obtain ⟨I, k0, h0, hr⟩ := h
    exact ⟨I, k0, h0, fun k E' A' h1 h2 h3 => ih (hr k E' A' h1 h2 h3) (onN_mono (fun E A h => h) hq)⟩
  | reg l => intro E A Q Q' h hq; exact SO_mono (hq .normal) _ _ _ h
  | draw l => intro E A Q Q' h hq; exact SD_mono (hq .normal) _ _ _ _ h
  | bad => intro E A Q Q' h hq; exact h
/-- What must hold where a loop is left. -/
def atX (n : Nat) (J : Env → AH → Prop) (Q : Exit → Env → AH → Prop) : Exit → Env → AH → Prop
  | .exit m, E, A => if m = n then @NX E A ⟨J⟩ else Q (.exit m) E A
  | ex, E, A => Q ex E A
@[simp ↓] theorem atX_exit (n m : Nat) (J : Env → AH → Prop) (Q : Exit → Env → AH → Prop) (E : Env) (A : AH) : atX n J Q (.exit m) E A = if m = n then @NX E A ⟨J⟩ else Q (.exit m) E A := (rfl)
@[simp ↓] theorem atX_normal (n : Nat) (J : Env → AH → Prop) (Q : Exit → Env → AH → Prop) (E : Env) (A : AH) : atX n J Q .normal E A = Q .normal E A := (rfl)
@[simp ↓] theorem atX_ret (n : Nat) (J : Env → AH → Prop) (Q : Exit → Env → AH → Prop) (E : Env) (A : AH) : atX n J Q .ret E A = Q .ret E A := (rfl)
/-- What comes behind the loop. -/
@[irreducible] def GJ (n : Nat) (E : Env) (A : AH) [Q : Kn (Exit → Env → AH → Prop)] : Prop := Q.go (.exit n) E A
@[simp ↓] theorem GJ_eq (n : Nat) (Q : Exit → Env → AH → Prop) (E : Env) (A : AH) : @GJ n E A ⟨Q⟩ = Q (.exit n) E A := by unfold GJ; rfl
theorem LN.join {E : Env} {A : AH} {c : SC} {Q : Exit → Env → AH → Prop} (n : Nat) (I : Nat → Env → AH → Prop) (k0 : Nat) (J : Env → AH → Prop) (h0 : I k0 E A)
    (hr : ∀ k E' A', A'.wf → A.next ≤ A'.next → I k E' A' → @GL P E' A' ⟨c⟩ ⟨onN (fun E2 A2 => @NX E2 A2 ⟨fun E2 A2 => ∃ k', k' < k ∧ I k' E2 A2⟩) (atX n J Q)⟩)
    (hj : ∀ E' A', J E' A' → @GJ n E' A' ⟨Q⟩) : @LN P E A ⟨c⟩ ⟨Q⟩ := by
  have h : @LN P E A ⟨c⟩ ⟨atX n J Q⟩ := LN.use I k0 h0 hr
  refine SW_mono (.loop c) h fun ex E A hx => ?_
  cases ex with
  | exit m =>
    have hx' : (if m = n then @NX E A ⟨J⟩ else Q (.exit m) E A) := hx
    split at hx'
    · rename_i e
      subst e
      have := hj E A hx'
      unfold GJ at this
      exact this
    · exact hx'
  | _ => exact hx
end Go.AI
