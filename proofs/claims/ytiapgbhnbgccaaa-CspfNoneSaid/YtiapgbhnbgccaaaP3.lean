/-
  A way to reckon with memory, sound for calls of the model: named blocks, operations over them, rules for code.
-/
import Derived.Test.YtiapgbhnbgccaaaP2
set_option linter.unusedSimpArgs false
set_option linter.unusedVariables false
/- AI8: closed calls, reckoned: a call that comes to one answer, whatever the memory before it. -/
namespace Go.AI
open Go Go.RowKit
set_option linter.unusedVariables false
variable {P : Program}
/-! The same cell? -/
def adEq : Option Addr → Option Addr → Bool
  | none, none => true
  | some ⟨b, o, none⟩, some ⟨b', o', none⟩ => b == b' && o == o'
  | _, _ => false
theorem adEq_sound {a b : Option Addr} (h : adEq a b = true) : a = b := by
  unfold adEq at h
  split at h
  · rfl
  · simp only [Bool.and_eq_true, beq_iff_eq] at h; rw [h.1, h.2]
  · cases h
def cEq : Value → Value → Bool
  | .bool a, .bool b => a == b
  | .int k a, .int k' b => decide (k = k') && decide (a = b)
  | .pointer a, .pointer b => adEq a b
  | .slice a n c, .slice b n' c' => adEq a b && (n == n' && c == c')
  | .map none, .map none => true
  | .map (some a), .map (some b) => a == b
  | .nilFunc, .nilFunc => true
  | .nilIface, .nilIface => true
  | _, _ => false
theorem cEq_sound {a b : Value} (h : cEq a b = true) : a = b := by
  unfold cEq at h
  split at h
  · rw [beq_iff_eq] at h; rw [h]
  · simp only [Bool.and_eq_true, decide_eq_true_eq] at h; rw [h.1, h.2]
  · rw [adEq_sound h]
  · simp only [Bool.and_eq_true, beq_iff_eq] at h; rw [adEq_sound h.1, h.2.1, h.2.2]
  · rfl
  · rw [beq_iff_eq] at h; rw [h]
  · rfl
  · rfl
  · cases h
def lEq : List Value → List Value → Bool
  | [], [] => true
  | a :: as, b :: bs => cEq a b && lEq as bs
  | _, _ => false
theorem lEq_sound : ∀ {a b : List Value}, lEq a b = true → a = b
  | [], [], _ => rfl
  | a :: as, b :: bs, h => by
    simp only [lEq, Bool.and_eq_true] at h
    rw [cEq_sound h.1, lEq_sound h.2]
  | [], _ :: _, h => by simp [lEq] at h
  | _ :: _, [], h => by simp [lEq] at h
def vEq : Value → Value → Bool
  | .agg a, .agg b => lEq a.toList b.toList
  | a, b => cEq a b
theorem vEq_sound {a b : Value} (h : vEq a b = true) : a = b := by
  unfold vEq at h
  split at h
  · rw [Array.toList_inj.1 (lEq_sound h)]
  · exact cEq_sound h
abbrev CF := FuncId → List Value → AH → Option (Value × AH)
/-- What is reckoned of calls is so. -/
def CFok (P : Program) (cf : CF) : Prop := ∀ f as A v A', cf f as A = some (v, A') → ACall P f as A fun x B => x = v ∧ B = A'
def eI (P : Program) (cf : CF) (o : Op) (E : Env) (A : AH) : Option (Value × AH) :=
  match o with
  | .call c => match c.callee with
    | .builtin _ => iOp P E o A
    | _ => (iCallee P E o).bind fun q => cf q.1 q.2 A
  | _ => iOp P E o A
theorem eI_sound {cf : CF} (hc : CFok P cf) {o : Op} {E : Env} {A A' : AH} {v : Value} {k : Value → AH → Prop} (h : eI P cf o E A = some (v, A')) (hk : k v A') : iS P o E A k := by
  have hcall : ∀ c, o = .call c → (iCallee P E o).bind (fun q => cf q.1 q.2 A) = some (v, A') → oK (iCallee P E o) fun q => ACall P q.1 q.2 A k := by
    intro c ho h
    obtain ⟨q, hq, h⟩ := Option.bind_eq_some_iff.1 h
    rw [hq]
    exact (hc _ _ _ _ _ h).mono fun x B _ _ ⟨e1, e2⟩ => by rw [e1, e2]; exact hk
  have hop : iOp P E o A = some (v, A') → oK (iOp P E o A) fun q => k q.1 q.2 := fun h => by rw [h]; exact hk
  cases o with
  | call c =>
    obtain ⟨callee, xs, Ts⟩ := c
    cases callee with
    | builtin b => exact hop h
    | _ => exact hcall _ rfl h
  | _ => exact hop h
def eO (P : Program) (cf : CF) : List RI → Env → AH → Option (Env × AH)
  | [], E, A => some (E, A)
  | .p d o :: l, E, A => match eI P cf o E A with | some (v, A') => eO P cf l (E.set d v) A' | none => none
  | .n o :: l, E, A => match eI P cf o E A with | some (_, A') => eO P cf l E A' | none => none
  | .g t b d o :: l, E, A => match E.get t with
    | .bool c => if c = b then (match eI P cf o E A with | some (v, A') => eO P cf l (E.set d v) A' | none => none) else eO P cf l (E.set d undef) A
    | _ => eO P cf l (E.set d undef) A
  | .gn t b o :: l, E, A => match E.get t with
    | .bool c => if c = b then (match eI P cf o E A with | some (_, A') => eO P cf l E A' | none => none) else eO P cf l E A
    | _ => eO P cf l E A
  | .bad :: _, _, _ => none
theorem eO_sound {cf : CF} (hc : CFok P cf) {K : Env → AH → Prop} : ∀ (l : List RI) {E E' : Env} {A A' : AH}, eO P cf l E A = some (E', A') → K E' A' → SO P l E A K
  | [], E, E', A, A', h, hk => by
    simp only [eO, Option.some.injEq, Prod.mk.injEq] at h
    rw [← h.1, ← h.2] at hk; exact hk
  | .p d o :: l, E, E', A, A', h, hk => by
    simp only [eO] at h
    split at h
    · rename_i v A1 he; exact eI_sound hc he (eO_sound hc l h hk)
    · cases h
  | .n o :: l, E, E', A, A', h, hk => by
    simp only [eO] at h
    split at h
    · rename_i v A1 he; exact eI_sound (k := fun _ A' => SO P l E A' K) hc he (eO_sound hc l h hk)
    · cases h
  | .g t b d o :: l, E, E', A, A', h, hk => by
    simp only [eO] at h
    simp only [SO, gK]
    split at h
    · rename_i c hg
      simp only [hg]
      split at h
      · rename_i hcb
        rw [if_pos hcb]
        split at h
        · rename_i v A1 he; exact eI_sound hc he (eO_sound hc l h hk)
        · cases h
      · rename_i hcb
        rw [if_neg hcb]; exact eO_sound hc l h hk
    · rename_i hg
      split
      · rename_i c hg2; exact absurd hg2 (hg c)
      · exact eO_sound hc l h hk
  | .gn t b o :: l, E, E', A, A', h, hk => by
    simp only [eO] at h
    simp only [SO, gK]
    split at h
    · rename_i c hg
      simp only [hg]
      split at h
      · rename_i hcb
        rw [if_pos hcb]
        split at h
        · rename_i v A1 he; exact eI_sound (k := fun _ A' => SO P l E A' K) hc he (eO_sound hc l h hk)
        · cases h
      · rename_i hcb
        rw [if_neg hcb]; exact eO_sound hc l h hk
    · rename_i hg
      split
      · rename_i c hg2; exact absurd hg2 (hg c)
      · exact eO_sound hc l h hk
  | .bad :: l, E, E', A, A', h, hk => by simp [eO] at h
/-! Drawn regions where something must be held. -/
def ableB (P : Program) (E : Env) (A : AH) : RI → Bool
  | .p _ o => (iOp P E o A).isSome
  | .n o => (iOp P E o A).isSome
  | .g t b _ o => match E.get t with | .bool c => if c = b then (iOp P E o A).isSome else true | _ => true
  | .gn t b o => match E.get t with | .bool c => if c = b then (iOp P E o A).isSome else true | _ => true
  | .bad => false
theorem ableB_sound {E : Env} {A : AH} {r : RI} (h : ableB P E A r = true) : ableI P E A r := by
  cases r with
  | p d o => exact h
  | n o => exact h
  | g t b d o =>
    simp only [ableB] at h
    simp only [ableI, gK]
    split at h
    · rename_i c hg
      simp only [hg]
      split at h
      · rename_i hcb; rw [if_pos hcb]; exact h
      · rename_i hcb; rw [if_neg hcb]; trivial
    · rename_i hg
      split
      · rename_i c hg2; exact absurd hg2 (hg c)
      · trivial
  | gn t b o =>
    simp only [ableB] at h
    simp only [ableI, gK]
    split at h
    · rename_i c hg
      simp only [hg]
      split at h
      · rename_i hcb; rw [if_pos hcb]; exact h
      · rename_i hcb; rw [if_neg hcb]; trivial
    · rename_i hg
      split
      · rename_i c hg2; exact absurd hg2 (hg c)
      · trivial
  | bad => cases h
def floB (P : Program) (E : Env) (A : AH) : List RI → Bool
  | [] => true
  | f :: fs => ableB P E A f && floB P E A fs
theorem floB_sound {E : Env} {A : AH} : ∀ {l : List RI}, floB P E A l = true → floI P E A l
  | [], _ => trivial
  | f :: fs, h => by
    simp only [floB, Bool.and_eq_true] at h
    exact ⟨ableB_sound h.1, floB_sound h.2⟩
def stillB (P : Program) (o : Op) (E : Env) (A : AH) (v : Value) : Bool :=
  match clOf ⟨none, o, 0, default, #[], none⟩ with
  | .rd => match iOp P E o A with | some (v', _) => vEq v' v | none => false
  | _ => false
theorem stillB_sound {o : Op} {E : Env} {A : AH} {v : Value} (h : stillB P o E A v = true) : iOp P E o A = some (v, A) := by
  unfold stillB at h
  split at h
  · rename_i hc
    split at h
    · rename_i v' A' hl
      rw [vEq_sound h] at hl
      have : A' = A := rd_same hc hl
      rw [hl, this]
    · cases h
  · cases h
def heldB (P : Program) (A : AH) (held : List Nat) : List (Nat × Op × Env × Value) → Bool
  | [] => true
  | r :: rs => (if held.contains r.1 then stillB P r.2.1 r.2.2.1 A r.2.2.2 else true) && heldB P A held rs
theorem heldB_sound {A : AH} {held : List Nat} : ∀ {H : List (Nat × Op × Env × Value)}, heldB P A held H = true → heldI P A held H
  | [], _ => trivial
  | r :: rs, h => by
    simp only [heldB, Bool.and_eq_true] at h
    refine ⟨?_, heldB_sound h.2⟩
    by_cases hc : held.contains r.1 = true
    · rw [if_pos hc]; have := h.1; rw [if_pos hc] at this; exact stillB_sound this
    · rw [if_neg hc]; trivial
def eD (P : Program) (cf : CF) : List DI → List (Nat × Op × Env × Value) → Env → AH → Option (Env × AH)
  | [], _, E, A => some (E, A)
  | p :: ps, H, E, A =>
    if floB P E A p.flo then
      match p.r with
      | .p d o => match eI P cf o E A with | some (v, A') => if heldB P A' p.held H then eD P cf ps (if p.keep then (p.i, o, E, v) :: H else H) (E.set d v) A' else none | none => none
      | .n o => match eI P cf o E A with | some (v, A') => if heldB P A' p.held H then eD P cf ps (if p.keep then (p.i, o, E, v) :: H else H) E A' else none | none => none
      | .g t b d o => match E.get t with
        | .bool c => if c = b then (match eI P cf o E A with | some (v, A') => if heldB P A' p.held H then eD P cf ps (if p.keep then (p.i, o, E, v) :: H else H) (E.set d v) A' else none | none => none) else eD P cf ps H (E.set d undef) A
        | _ => eD P cf ps H (E.set d undef) A
      | .gn t b o => match E.get t with
        | .bool c => if c = b then (match eI P cf o E A with | some (v, A') => if heldB P A' p.held H then eD P cf ps (if p.keep then (p.i, o, E, v) :: H else H) E A' else none | none => none) else eD P cf ps H E A
        | _ => eD P cf ps H E A
      | .bad => none
    else none
theorem eD_sound {cf : CF} (hc : CFok P cf) {K : Env → AH → Prop} : ∀ (l : List DI) {H : List (Nat × Op × Env × Value)} {E E' : Env} {A A' : AH}, eD P cf l H E A = some (E', A') → K E' A' → SD P l H E A K := by
  intro l
  induction l with
  | nil =>
    intro H E E' A A' h hk
    simp only [eD, Option.some.injEq, Prod.mk.injEq] at h
    rw [← h.1, ← h.2] at hk; exact hk
  | cons p ps ih =>
    intro H E E' A A' h hk
    simp only [eD] at h
    split at h
    · rename_i hf
      simp only [SD]
      refine ⟨floB_sound hf, ?_⟩
      split at h
      · rename_i d o hr
        simp only [hr]
        split at h
        · rename_i v A1 he
          split at h
          · rename_i hh; exact eI_sound hc he ⟨heldB_sound hh, ih h hk⟩
          · cases h
        · cases h
      · rename_i o hr
        simp only [hr]
        split at h
        · rename_i v A1 he
          split at h
          · rename_i hh; exact eI_sound hc he ⟨heldB_sound hh, ih h hk⟩
          · cases h
        · cases h
      · rename_i t b d o hr
        simp only [hr, gK]
        split at h
        · rename_i c hg
          simp only [hg]
          split at h
          · rename_i hcb
            rw [if_pos hcb]
            split at h
            · rename_i v A1 he
              split at h
              · rename_i hh; exact eI_sound hc he ⟨heldB_sound hh, ih h hk⟩
              · cases h
            · cases h
          · rename_i hcb
            rw [if_neg hcb]; exact ih h hk
        · rename_i hg
          split
          · rename_i c hg2; exact absurd hg2 (hg c)
          · exact ih h hk
      · rename_i t b o hr
        simp only [hr, gK]
        split at h
        · rename_i c hg
          simp only [hg]
          split at h
          · rename_i hcb
            rw [if_pos hcb]
            split at h
            · rename_i v A1 he
              split at h
              · rename_i hh; exact eI_sound hc he ⟨heldB_sound hh, ih h hk⟩
              · cases h
            · cases h
          · rename_i hcb
            rw [if_neg hcb]; exact ih h hk
        · rename_i hg
          split
          · rename_i c hg2; exact absurd hg2 (hg c)
          · exact ih h hk
      · cases h
    · cases h
/-! Code. -/
def eL (body : Env → AH → Option (Exit × Env × AH)) : Nat → Env → AH → Option (Exit × Env × AH)
  | 0, _, _ => none
  | n + 1, E, A => match body E A with | some (.normal, E', A') => eL body n E' A' | r => r
def eW (P : Program) (cf : CF) (fuel : Nat) : SC → Env → AH → Option (Exit × Env × AH)
  | .skip, E, A => some (.normal, E, A)
  | .exit id, E, A => some (.exit id, E, A)
  | .ret, E, A => some (.ret, E, A)
  | .seq x y, E, A => match eW P cf fuel x E A with | some (.normal, E', A') => eW P cf fuel y E' A' | r => r
  | .cond c x y, E, A => match ev E c with | .bool true => eW P cf fuel x E A | .bool false => eW P cf fuel y E A | _ => none
  | .block id c, E, A => match eW P cf fuel c E A with | some (.exit id', E', A') => if id' = id then some (.normal, E', A') else some (.exit id', E', A') | r => r
  | .loop c, E, A => eL (eW P cf fuel c) fuel E A
  | .reg l, E, A => (eO P cf l E A).map fun q => (.normal, q.1, q.2)
  | .draw l, E, A => (eD P cf l [] E A).map fun q => (.normal, q.1, q.2)
  | .bad, _, _ => none
theorem eL_sound {body : Env → AH → Option (Exit × Env × AH)} {sb : Env → AH → (Exit → Env → AH → Prop) → Prop} (hb : ∀ {E A ex E' A'} {Q : Exit → Env → AH → Prop}, body E A = some (ex, E', A') → Q ex E' A' → sb E A Q) {n : Nat} {E E' : Env} {A A' : AH} {ex : Exit} {Q : Exit → Env → AH → Prop} (h : eL body n E A = some (ex, E', A')) (hq : Q ex E' A') : SL sb E A Q := by
  refine ⟨fun k E1 A1 => eL body k E1 A1 = some (ex, E', A'), n, h, fun k E1 A1 _ _ h1 => ?_⟩
  cases k with
  | zero => simp [eL] at h1
  | succ k =>
    simp only [eL] at h1
    split at h1
    · rename_i E2 A2 he
      exact hb he ⟨k, Nat.lt_succ_self k, h1⟩
    · rename_i hne
      have hx : ex ≠ .normal := fun e => by rw [e] at h1; exact hne _ _ h1
      refine hb h1 ?_
      cases ex <;> first | exact hq | exact absurd rfl hx
theorem eW_sound {cf : CF} (hc : CFok P cf) {fuel : Nat} : ∀ (c : SC) {E E' : Env} {A A' : AH} {ex : Exit} {Q : Exit → Env → AH → Prop}, eW P cf fuel c E A = some (ex, E', A') → Q ex E' A' → SW P c E A Q := by
  intro c
  induction c with
  | skip => intro E E' A A' ex Q h hq; simp only [eW, Option.some.injEq, Prod.mk.injEq] at h; obtain ⟨rfl, rfl, rfl⟩ := h; exact hq
  | exit id => intro E E' A A' ex Q h hq; simp only [eW, Option.some.injEq, Prod.mk.injEq] at h; obtain ⟨rfl, rfl, rfl⟩ := h; exact hq
  | ret => intro E E' A A' ex Q h hq; simp only [eW, Option.some.injEq, Prod.mk.injEq] at h; obtain ⟨rfl, rfl, rfl⟩ := h; exact hq
  | bad => intro E E' A A' ex Q h hq; simp [eW] at h
  | seq x y ihx ihy =>
    intro E E' A A' ex Q h hq
    simp only [eW] at h
    simp only [SW]
    split at h
    · rename_i E1 A1 he
      exact ihx he (ihy h hq)
    · rename_i hne
      have hx : ex ≠ .normal := fun e => by rw [e] at h; exact hne _ _ h
      refine ihx h ?_
      cases ex <;> first | exact hq | exact absurd rfl hx
  | cond c x y ihx ihy =>
    intro E E' A A' ex Q h hq
    simp only [eW] at h
    simp only [SW, bK]
    split at h
    · rename_i hv; simp only [hv]; exact ihx h hq
    · rename_i hv; simp only [hv]; exact ihy h hq
    · cases h
  | block id c ih =>
    intro E E' A A' ex Q h hq
    simp only [eW] at h
    simp only [SW]
    split at h
    · rename_i id' E1 A1 he
      refine ih he ?_
      split at h
      · rename_i e
        simp only [Option.some.injEq, Prod.mk.injEq] at h; obtain ⟨rfl, rfl, rfl⟩ := h
        simp only [outOf, e, if_true]; exact hq
      · rename_i e
        simp only [Option.some.injEq, Prod.mk.injEq] at h; obtain ⟨rfl, rfl, rfl⟩ := h
        simp only [outOf, e, if_false]; exact hq
    · rename_i hne
      refine ih h ?_
      cases ex with
      | exit id' => exact absurd h (hne id' _ _)
      | _ => exact hq
  | loop c ih =>
    intro E E' A A' ex Q h hq
    simp only [eW] at h
    exact eL_sound (sb := SW P c) (fun he hq => ih he hq) h hq
  | reg l =>
    intro E E' A A' ex Q h hq
    simp only [eW, Option.map_eq_some_iff] at h
    obtain ⟨q, h1, h2⟩ := h
    simp only [Prod.mk.injEq] at h2; obtain ⟨rfl, rfl, rfl⟩ := h2
    exact eO_sound hc l h1 hq
  | draw l =>
    intro E E' A A' ex Q h hq
    simp only [eW, Option.map_eq_some_iff] at h
    obtain ⟨q, h1, h2⟩ := h
    simp only [Prod.mk.injEq] at h2; obtain ⟨rfl, rfl, rfl⟩ := h2
    exact eD_sound hc l h1 hq
/-- A function's code: its slots, the code, its results. -/
structure FC where
  n : Nat
  c : SC
  rs : List ResultVar
/-- Calls, so deep; ov: what is told of some calls beside. -/
def eF (P : Program) (tab : FuncId → Option FC) (ov : CF) (fuel : Nat) : Nat → CF
  | 0, _, _, _ => none
  | d + 1, f, as, A =>
    match ov f as A with
    | some r => some r
    | none => match tab f with
      | some t => if as.length ≤ t.n then (match eW P (eF P tab ov fuel d) fuel t.c (Env.of as 0) A with
        | some (.normal, E', A') => (aRes P E' A' t.rs).map fun l => (oneOf l, A')
        | some (.ret, E', A') => (aRes P E' A' t.rs).map fun l => (oneOf l, A')
        | _ => none) else none
      | none => none
def TabOk (P : Program) (tab : FuncId → Option FC) : Prop := ∀ f t, tab f = some t → CodeIs P f t.n t.c t.rs
theorem eF_sound {tab : FuncId → Option FC} {ov : CF} (ht : TabOk P tab) (ho : CFok P ov) (fuel : Nat) : ∀ d, CFok P (eF P tab ov fuel d) := by
  intro d
  induction d with
  | zero => intro f as A v A' h; simp [eF] at h
  | succ d ih =>
    intro f as A v A' h
    simp only [eF] at h
    split at h
    · rename_i r hr
      simp only [Option.some.injEq] at h; subst h
      exact ho _ _ _ _ _ hr
    · split at h
      · rename_i t hft
        split at h
        · rename_i hlen
          refine (ht f t hft).call hlen fun _ => ?_
          split at h
          · rename_i E1 A1 he
            refine eW_sound ih t.c he ?_
            obtain ⟨l, hl, h2⟩ := Option.map_eq_some_iff.1 h
            simp only [Prod.mk.injEq] at h2; obtain ⟨rfl, rfl⟩ := h2
            show oK (aRes P E1 A1 t.rs) _
            rw [hl]; exact ⟨rfl, rfl⟩
          · rename_i E1 A1 he
            refine eW_sound ih t.c he ?_
            obtain ⟨l, hl, h2⟩ := Option.map_eq_some_iff.1 h
            simp only [Prod.mk.injEq] at h2; obtain ⟨rfl, rfl⟩ := h2
            show oK (aRes P E1 A1 t.rs) _
            rw [hl]; exact ⟨rfl, rfl⟩
          · cases h
        · cases h
      · cases h
def emptyH : AH := ⟨0, .lf⟩
theorem emptyH_get (b : Nat) : emptyH.get b = none := rfl
theorem emptyH_rel (W : World) : Rel P (fun _ => none) emptyH W :=
  ⟨fun b x h => (by rw [emptyH_get] at h; cases h), fun b c p q x y h => (by rw [emptyH_get] at h; cases h), fun b _ => ⟨rfl, rfl⟩, fun b p h => (by cases h)⟩
/-- A value that is the same everywhere. -/
def plainB : Value → Bool
  | .bool _ => true
  | .int _ _ => true
  | .pointer none => true
  | .slice none _ c => decide (c ≠ UNK)
  | .nilFunc => true
  | _ => false
theorem plainB_rel {m m' : Mp} {v v' : Value} (h : plainB v = true) (hr : VRel m v v') : VRel m' v v' := by
  cases hr with
  | bool b => exact .bool _
  | int k n => exact .int _ _
  | pnil => exact .pnil
  | snil n c hc => exact .snil _ _ hc
  | nilFunc => exact .nilFunc
  | _ => cases h
/-- What a call answers with no memory before it, it answers everywhere; and it leaves what was there. -/
theorem ACall.frame {f : FuncId} {as : List Value} {v : Value} (h : ∃ A', ACall P f as emptyH fun x B => x = v ∧ B = A') (ha : as.all plainB = true) (hv : plainB v = true) (A : AH) : ACall P f as A fun x B => x = v ∧ B = A := by
  obtain ⟨A1, h⟩ := h
  intro m w args' hR hl
  have hl0 : LRel (fun _ => none) as args'.toList := ⟨hl.1, fun i u u' h1 h2 => plainB_rel (List.all_eq_true.1 ha u (List.mem_of_getElem? h1)) (hl.2 i u u' h1 h2)⟩
  have key : ∀ (w' : World) (x x' : Value) (B : AH) (m' : Mp), (x = v ∧ B = A1) → Rel P m' B w' → VRel m' x x' → Step (fun _ => none) emptyH w m' B w' → Rel P m A w' ∧ VRel m v x' ∧ Step m A w m A w' := by
    intro w' x x' B m' ⟨e1, e2⟩ hB hx hs
    subst e1
    have hkeep : ∀ k, k < w.heap.size → w'.heap[k]? = w.heap[k]? := fun k hk => hs.keep k hk fun ⟨b, p, y, hb, _⟩ => by rw [emptyH_get] at hb; cases hb
    refine ⟨⟨fun b y hb => ?_, hR.apart, hR.fresh, fun b p hp => Nat.lt_of_lt_of_le (hR.low b p hp) hs.size⟩, plainB_rel hv hx, ⟨m.le_refl, Nat.le_refl _, hs.size, fun k hk _ => hkeep k hk, fun _ _ h => h, hs.os, hs.tape, hs.output, fun _ _ => rfl, fun _ _ h _ => h⟩⟩
    have hh := hR.held b y hb
    cases y with
    | row cs E ro =>
      obtain ⟨p, cur, fr, h1, h2, h3⟩ := hh
      exact ⟨p, cur, fr, h1, by rw [hkeep _ (hR.low b p h1)]; exact h2, h3⟩
    | mp es =>
      obtain ⟨p, ents, clk, h1, h2, h3⟩ := hh
      exact ⟨p, ents, clk, h1, by rw [hkeep _ (hR.low b p h1)]; exact h2, h3⟩
  rcases h (fun _ => none) w args' (emptyH_rel w) hl0 with ⟨h1, h2⟩ | ⟨v', w', h1, x, B, m', h2, h3, h4, h5⟩
  · refine Or.inl ⟨h1, h2.mono fun e w' ⟨x, x', B, m', he, h3, h4, h5, h6⟩ => ?_⟩
    obtain ⟨k1, k2, k3⟩ := key w' x x' B m' h3 h4 h5 h6
    exact ⟨v, x', A, m, he, ⟨rfl, rfl⟩, k1, k2, k3⟩
  · obtain ⟨k1, k2, k3⟩ := key w' x v' B m' h2 h3 h4 h5
    exact Or.inr ⟨v', w', h1, v, A, m, ⟨rfl, rfl⟩, k1, k2, k3⟩
/-- A closed call, reckoned. -/
theorem ACall.reckon {tab : FuncId → Option FC} {ov : CF} (ht : TabOk P tab) (ho : CFok P ov) (fuel d : Nat) {f : FuncId} {as : List Value} {v : Value} (h : ((eF P tab ov fuel d f as emptyH).map fun q => cEq q.1 v) = some true) (ha : as.all plainB = true) (hv : plainB v = true) (A : AH) : ACall P f as A fun x B => x = v ∧ B = A := by
  obtain ⟨⟨x, B⟩, h1, h2⟩ := Option.map_eq_some_iff.1 h
  have := cEq_sound h2
  simp only at this
  subst this
  exact ACall.frame ⟨B, eF_sound ht ho fuel d _ _ _ _ _ h1⟩ ha hv A
end Go.AI
/- AI9: lists that are kept and shortened. -/
namespace Go.AI
open Go Go.RowKit
set_option linter.unusedVariables false
variable {P : Program}
/-- A list that is kept, whose rows behind its end may still lie there. -/
def Lq (A : AH) (e : TypeId) (z : Nat) (ob : Option Nat) (v : Value) (L : List (List Value)) : Prop :=
  Rw z L ∧ ((ob = none ∧ v = .slice none 0 0 ∧ L = []) ∨ ∃ b c rest, ob = some b ∧ v = .slice (some ⟨b, 0, none⟩) L.length c ∧ A.get b = some (.row (L.flatten ++ rest) e false) ∧ ((c = UNK ∧ ∃ k, rest.length = k * z) ∨ (c < UNK ∧ L.length ≤ c ∧ c * z = L.flatten.length + rest.length)))
section
variable {A : AH} {e : TypeId} {z y : Nat} {ob : Option Nat} {v : Value} {L : List (List Value)} {r : List Value}
theorem Lq.nil (A : AH) (e : TypeId) (z : Nat) : Lq A e z none (.slice none 0 0) [] := ⟨Rw.nil z, Or.inl ⟨rfl, rfl, rfl⟩⟩
theorem Lq.kept {A' : AH} (h : Lq A e z ob v L) (hk : ∀ b, ob = some b → A'.get b = A.get b) : Lq A' e z ob v L :=
  ⟨h.1, h.2.imp id fun ⟨b, c, rest, h1, h2, h3, h4⟩ => ⟨b, c, rest, h1, h2, (hk b h1).trans h3, h4⟩⟩
theorem Lq.lt (h : Lq A e z ob v L) (hw : A.wf) {b : Nat} (hb : ob = some b) : b < A.next := by
  rcases h.2 with ⟨h1, _⟩ | ⟨b', c, rest, h1, _, h3, _⟩
  · rw [h1] at hb; cases hb
  · rw [h1] at hb; injection hb with hb; subst hb; exact hw _ _ h3
theorem Lq.sl (h : Lq A e z ob v L) : ∃ a c, v = .slice a L.length c ∧ Sl A e z a L ∧ (∀ b o, a = some ⟨b, o, none⟩ → ob = some b ∧ o = 0) := by
  rcases h.2 with ⟨_, rfl, rfl⟩ | ⟨b, c, rest, rfl, rfl, hb, _⟩
  · exact ⟨none, 0, rfl, Sl.nil Pla.no A e z, fun b o h => by cases h⟩
  · refine ⟨_, _, rfl, ⟨h.1, Pla.yes _ _, fun _ => ⟨b, 0, _, (e, false), rfl, hb, ?_, ?_⟩⟩, fun b' o h => by injection h with h; injection h with h1 h2; exact ⟨by rw [h1], h2.symm⟩⟩
    · rw [List.length_append, flat_len h.1.len]; omega
    · rw [List.drop_zero, ← flat_len h.1.len, List.take_left]
/-- A row is read. -/
theorem Lq.at (h : Lq A e z ob v L) {i : Nat} (hi : i < L.length) : ∃ b c cs, ob = some b ∧ v = .slice (some ⟨b, 0, none⟩) L.length c ∧ A.get b = some (.row cs e false) ∧ i * z + z ≤ cs.length ∧ (cs.drop (i * z)).take z = L[i] := by
  rcases h.2 with ⟨_, _, rfl⟩ | ⟨b, c, rest, h1, h2, h3, h4⟩
  · simp at hi
  · have hm : (i + 1) * z ≤ L.length * z := Nat.mul_le_mul_right _ hi
    rw [Nat.succ_mul] at hm
    have hl := flat_len h.1.len
    refine ⟨b, c, _, h1, h2, h3, by rw [List.length_append]; omega, ?_⟩
    rw [← flat_at h.1.len hi, List.drop_append_of_le_length (by omega), List.take_append_of_le_length (by rw [List.length_drop]; omega)]
/-- A row is written over. -/
theorem Lq.upd {i : Nat} (h : Lq A e z ob v L) (hi : i < L.length) (hr : r.length = z ∧ r.all oneB = true) :
    ∃ b c cs, ob = some b ∧ v = .slice (some ⟨b, 0, none⟩) L.length c ∧ A.get b = some (.row cs e false) ∧ i * z + z ≤ cs.length ∧ Lq (A.set b (.row (spl cs (i * z) r) e false)) e z ob v (L.set i r) := by
  rcases h.2 with ⟨_, _, rfl⟩ | ⟨b, c, rest, h1, h2, h3, h4⟩
  · simp at hi
  · have hm : (i + 1) * z ≤ L.length * z := Nat.mul_le_mul_right _ hi
    rw [Nat.succ_mul] at hm
    have hl := flat_len h.1.len
    have hR : Rw z (L.take i ++ r :: L.drop (i + 1)) := (h.1.sub fun r hr => List.mem_of_mem_take hr).app (Rw.cons hr (h.1.sub fun r hr => List.mem_of_mem_drop hr))
    have hset : L.set i r = L.take i ++ r :: L.drop (i + 1) := List.set_eq_take_append_cons_drop.trans (if_pos hi)
    have hlen : (L.take i ++ r :: L.drop (i + 1)).length = L.length := by simp; omega
    rw [hset]
    refine ⟨b, c, _, h1, h2, h3, by rw [List.length_append]; omega, hR, Or.inr ⟨b, c, rest, h1, by rw [hlen]; exact h2, by rw [AH.get_set, if_pos rfl, spl_row h.1 hi hr.1], ?_⟩⟩
    rw [hlen, flat_len hR.len, hlen, ← hl]; exact h4
/-- One row, just made, is appended. -/
theorem Lq.push (h : Lq A e z ob v L) (hw : A.wf) (hr : r.length = z ∧ r.all oneB = true) (hz : 0 < z) (hy : y ≤ 1048576) (hl : L.length + 1 ≤ 1099511627776) (hl2 : (L.length + 1) * y ≤ 17592186044416) :
    ∃ v' A' ob', appW e z y v (.slice (some ⟨A.next, 0, none⟩) 1 1) (A.alloc (.row r e false)) = some (v', A') ∧ Lq A' e z ob' v' (L ++ [r]) ∧ (∀ k, k < A.next → ob ≠ some k → A'.get k = A.get k) ∧ (ob' = ob ∨ ob' = some (A.next + 1)) ∧ A.next + 1 ≤ A'.next := by
  have strong : ∀ (hL : Lst A e z ob v L), ∃ v' A' ob', appW e z y v (.slice (some ⟨A.next, 0, none⟩) 1 1) (A.alloc (.row r e false)) = some (v', A') ∧ Lq A' e z ob' v' (L ++ [r]) ∧ (∀ k, k < A.next → ob ≠ some k → A'.get k = A.get k) ∧ (ob' = ob ∨ ob' = some (A.next + 1)) ∧ A.next + 1 ≤ A'.next := by
    intro hL
    obtain ⟨v', A', ob', p1, p2, p3, p4, p5⟩ := hL.push hw hr hz hy hl hl2
    exact ⟨v', A', ob', p1, ⟨p2.1, p2.2.imp id fun ⟨b, c, rest, q1, q2, q3, q4⟩ => ⟨b, c, rest, q1, q2, q3, q4.imp (fun h => ⟨h.1, 0, by rw [h.2]; simp⟩) id⟩⟩, p3, p4, p5⟩
  rcases h.2 with hn | ⟨b, c, rest, h1, h2, h3, ⟨rfl, k, hk⟩ | h4⟩
  · exact strong ⟨h.1, Or.inl hn⟩
  · cases k with
    | zero =>
      refine strong ⟨h.1, Or.inr ⟨b, UNK, rest, h1, h2, h3, Or.inl ⟨rfl, ?_⟩⟩⟩
      exact List.eq_nil_of_length_eq_zero (by simpa using hk)
    | succ k =>
      have hbl : b < A.next := hw _ _ h3
      have hR := h.1.app (Rw.one hr)
      have hfl := flat_len h.1.len
      rw [Nat.succ_mul] at hk
      subst h2
      have hf : firstOf (A.alloc (.row r e false)) z 1 (.slice (some ⟨A.next, 0, none⟩) 1 1) = some r := by
        have := (Sl.row (A := A.alloc (.row r e false)) (b := A.next) (Rw.one hr) (AH.get_new A _) (by simp)).first (c := 1)
        simpa using this
      refine ⟨.slice (some ⟨b, 0, none⟩) (L.length + 1) UNK, (A.alloc (.row r e false)).set b (.row (spl (L.flatten ++ rest) (0 + L.length * z) r) e false), ob, ?_, ⟨hR, Or.inr ⟨b, UNK, rest.drop z, h1, by simp, ?_, Or.inl ⟨rfl, k, by rw [List.length_drop]; omega⟩⟩⟩, ?_, Or.inl rfl, by simp⟩
      · unfold appW
        simp only [hf, Option.bind_some]
        rw [if_neg (by omega), if_neg (by rw [Classical.not_not]; exact ⟨hl, hl2, hy⟩)]
        simp only [if_true]
        rw [AH.get_alloc, if_neg (by omega), h3]
        simp only []
        rw [if_pos ⟨trivial, hr.2, hz⟩, if_pos (by rw [List.length_append, hfl, Nat.zero_add, Nat.succ_mul]; omega)]
      · rw [AH.get_set, if_pos rfl, Nat.zero_add, spl_at' _ _ _ hfl.symm, hr.1]; simp
      · intro k' hk' hne
        rw [AH.get_set, if_neg (fun e => hne (by rw [h1, e])), AH.get_alloc, if_neg (by omega)]
  · exact strong ⟨h.1, Or.inr ⟨b, c, rest, h1, h2, h3, Or.inr h4⟩⟩
/-- The last row goes. -/
theorem Lq.pop (h : Lq A e z ob v (L ++ [r])) (hz : szOf P e = some z) {k : IntKind} :
    ∃ a c, v = .slice a (L.length + 1) c ∧ slW P z a (L.length + 1) c none (some (.int k (L.length : Nat))) none A = some (.slice a L.length c) ∧ Lq A e z ob (.slice a L.length c) L := by
  rcases h.2 with ⟨_, _, hn⟩ | ⟨b, c, rest, h1, h2, h3, h4⟩
  · simp at hn
  · have hrz := (h.1 r (by simp)).1
    refine ⟨some ⟨b, 0, none⟩, c, by simpa using h2, ?_, h.1.sub fun r hr => by simp [hr], Or.inr ⟨b, c, r ++ rest, h1, rfl, by rw [h3]; simp, ?_⟩⟩
    · rcases h4 with ⟨rfl, _⟩ | ⟨h4, h5, _⟩
      · exact slU_hi h3 hz (by omega)
      · rw [slW_hi (by simp at h5; omega) (by simpa using h5) h4]
        congr 2
        exact cutA_zero b 0 c z
    · rcases h4 with ⟨rfl, q, hq⟩ | ⟨h4, h5, h6⟩
      · exact Or.inl ⟨rfl, q + 1, by rw [List.length_append, hrz, hq, Nat.succ_mul]; omega⟩
      · refine Or.inr ⟨h4, by simp at h5; omega, ?_⟩
        rw [h6]; simp; omega
/-- All that a walk needs of two rows: to read them, to write one, to change them over. -/
theorem Lq.open2 (h : Lq A e z ob v L) {i j : Nat} (hi : i < L.length) (hj : j < L.length) : ∃ b c cs, ob = some b ∧ v = .slice (some ⟨b, 0, none⟩) L.length c ∧ A.get b = some (.row cs e false) ∧ i * z + z ≤ cs.length ∧ j * z + z ≤ cs.length ∧
    (cs.drop (i * z)).take z = L[i] ∧ (cs.drop (j * z)).take z = L[j] ∧ L[i].length = z ∧ L[j].length = z ∧ L[i].all oneB = true ∧ L[j].all oneB = true ∧
    Lq (A.set b (.row (spl (spl cs (i * z) L[j]) (j * z) L[i]) e false)) e z ob v ((L.set i L[j]).set j L[i]) := by
  obtain ⟨b, c, cs, h1, h2, h3, h4, h5⟩ := h.at hi
  obtain ⟨b', c', cs', g1, g2, g3, g4, g5⟩ := h.at hj
  rw [h1] at g1; injection g1 with g1; subst g1
  rw [h3] at g3; injection g3 with g3; injection g3 with g3 _ _; subst g3
  have hri := h.1 L[i] (List.getElem_mem hi)
  have hrj := h.1 L[j] (List.getElem_mem hj)
  obtain ⟨b', c', cs', g1, g2, g3, g4, g6⟩ := h.upd hi hrj
  rw [h1] at g1; injection g1 with g1; subst g1
  rw [h3] at g3; injection g3 with g3; injection g3 with g3 _ _; subst g3
  obtain ⟨b', c', cs', k1, k2, k3, k4, k6⟩ := g6.upd (i := j) (by simpa using hj) hri
  rw [h1] at k1; injection k1 with k1; subst k1
  rw [AH.get_set, if_pos rfl] at k3; injection k3 with k3; injection k3 with k3 _ _; subst k3
  refine ⟨b, c, cs, h1, h2, h3, h4, by assumption, h5, g5, hri.1, hrj.1, hri.2, hrj.2, k6.kept fun b' hb' => ?_⟩
  rw [h1] at hb'; injection hb' with hb'; subst hb'
  simp [AH.get_set]
end
end Go.AI
/- AIA: more of what many walks use: rows written in part, lists made and pushed to, maps, arrays read. -/
namespace Go.AI
open Go Go.RowKit
set_option linter.unusedVariables false
set_option linter.unusedSimpArgs false
variable {P : Program}
theorem spl_in (X r Y : List Value) (j : Nat) (vs : List Value) (h : j + vs.length ≤ r.length) : spl (X ++ (r ++ Y)) (X.length + j) vs = X ++ (spl r j vs ++ Y) := by
  unfold spl
  have e1 : (X ++ (r ++ Y)).take (X.length + j) = X ++ r.take j := by
    rw [List.take_append, List.take_of_length_le (by omega), show X.length + j - X.length = j from by omega, List.take_append_of_le_length (by omega)]
  have e2 : (X ++ (r ++ Y)).drop (X.length + j + vs.length) = r.drop (j + vs.length) ++ Y := by
    rw [List.drop_append, List.drop_eq_nil_of_le (by omega), List.nil_append, show X.length + j + vs.length - X.length = j + vs.length from by omega, List.drop_append_of_le_length (by omega)]
  rw [e1, e2]; simp
/-- A part of a row is written over. -/
theorem spl_flat {z i j : Nat} {L : List (List Value)} {vs : List Value} (h : ∀ r ∈ L, r.length = z) (hi : i < L.length) (hj : j + vs.length ≤ z) : spl L.flatten (i * z + j) vs = (L.set i (spl L[i] j vs)).flatten := by
  have hr := h L[i] (List.getElem_mem hi)
  have hX : (L.take i).flatten.length = i * z := by
    rw [flat_len fun r hr => h r (List.mem_of_mem_take hr), List.length_take, Nat.min_eq_left (by omega)]
  have e : L.flatten = (L.take i).flatten ++ (L[i] ++ (L.drop (i + 1)).flatten) := by
    rw [← List.flatten_cons, ← List.flatten_append, ← List.drop_eq_getElem_cons hi, List.take_append_drop]
  rw [List.set_eq_take_append_cons_drop, if_pos hi]
  conv => lhs; rw [e, ← hX, spl_in _ _ _ _ _ (by omega)]
  simp
theorem range_set {α : Type} (n : Nat) (R : Nat → α) {v : Nat} (r : α) : ((List.range n).map R).set v r = (List.range n).map fun u => if u = v then r else R u := by
  apply List.ext_getElem?
  intro i
  rw [List.getElem?_set]
  simp only [List.length_map, List.length_range, List.getElem?_map]
  by_cases e : v = i
  · subst e
    by_cases hv : v < n
    · simp [hv]
    · simp [hv]
  · have e' : ¬ i = v := fun h => e h.symm
    by_cases hi : i < n <;> simp [e, e', hi]
def lcap (l c : Nat) : Prop := c = UNK ∨ (l ≤ c ∧ c < UNK)
/-- A slice cut to its length. -/
theorem slW_full {z b n c : Nat} {k k' : IntKind} {A : AH} (hc : lcap n c) (hn : n < UNK) : slW P z (some ⟨b, 0, none⟩) n c none (some (.int k n)) (some (.int k' n)) A = some (.slice (some ⟨b, 0, none⟩) n n) := by
  have ht : n ≤ topOf n c := by
    unfold topOf
    split
    · exact Nat.le_refl _
    · rcases hc with h | h <;> omega
  unfold slW
  rw [if_pos ht]
  simp only [aBounds, aBndO_none, aBnd_int]
  rw [if_pos ⟨by omega, by omega⟩]
  simp only [Option.bind_some, Int.toNat_natCast]
  rw [if_pos ⟨by omega, by omega⟩]
  simp only [Option.map_some, Option.bind_some, Nat.sub_zero]
  rw [if_neg (by omega)]
  simp [cutA_zero]
theorem mkW_rows {e z y n : Nat} {zc : List Value} {k k' : IntKind} {A : AH} (hc : n ≤ 1099511627776) (hy : y * n ≤ 281474976710656) :
    mkW e z y zc (.int k n) (.int k' n) A = some (.slice (some ⟨A.next, 0, none⟩) n n, A.alloc (.row ((List.range n).map fun _ => zc).flatten e false)) := by
  unfold mkW
  simp only [Int.toNat_natCast]
  rw [if_pos ⟨by omega, by omega, by omega, by rw [← Int.natCast_mul]; generalize y * n = q at hy ⊢; omega⟩]
  simp [zrep, List.map_const']
theorem flat_one {n : Nat} {S : Nat → Value} {v : Nat} {x : Value} (hv : v < n) : spl ((List.range n).map fun u => [S u]).flatten v [x] = ((List.range n).map fun u => [if u = v then x else S u]).flatten := by
  have h := spl_flat (z := 1) (i := v) (j := 0) (L := (List.range n).map fun u => [S u]) (vs := [x]) (by
    intro r hr
    obtain ⟨u, -, rfl⟩ := List.mem_map.1 hr
    rfl) (by simpa using hv) (by simp)
  rw [Nat.mul_one, Nat.add_zero] at h
  rw [h]
  simp only [List.getElem_map, List.getElem_range, spl_cons_zero, spl_nil', range_set]
  congr 1
  apply List.map_congr_left
  intro u _
  by_cases e : u = v <;> simp [e]
theorem flat_one_len {n : Nat} {S : Nat → Value} : ((List.range n).map fun u => [S u]).flatten.length = n := by
  have := flat_len (z := 1) (L := (List.range n).map fun u => [S u]) (by
    intro r hr
    obtain ⟨u, -, rfl⟩ := List.mem_map.1 hr
    rfl)
  simpa using this
theorem flat_one_at {n : Nat} {S : Nat → Value} {v : Nat} (hv : v < n) : ((List.range n).map fun u => [S u]).flatten[v]? = some (S v) := by
  have := flat_at (z := 1) (L := (List.range n).map fun u => [S u]) (i := v) (by
    intro r hr
    obtain ⟨u, -, rfl⟩ := List.mem_map.1 hr
    rfl) (by simpa using hv)
  rw [Nat.mul_one] at this
  have := at_cell (i := 0) this (by omega)
  simpa using this
theorem slW_pre {z h n c : Nat} {b o : Nat} {k : IntKind} {A : AH} {cs : List Value} {E : TypeId} {ro : Bool} (hb : A.get b = some (.row cs E ro)) (hh : h ≤ n) (hc : (n ≤ c ∧ c < UNK) ∨ c = UNK ∧ szOf P E = some z) : slW P z (some ⟨b, o, none⟩) n c none (some (.int k h)) none A = some (.slice (some ⟨b, o, none⟩) h c) := by
  rcases hc with hc | ⟨rfl, hz⟩
  · rw [slW_hi (by omega) hc.1 hc.2, cutA_zero]
  · exact slU_hi hb hz hh
theorem CapOk.pre {A : AH} {e : TypeId} {z b o n c : Nat} {cs : List Value} {E : TypeId} {ro : Bool} (hc : CapOk A e (some ⟨b, o, none⟩) n c) (h1 : A.get b = some (.row cs E ro)) (hz : szOf P e = some z) : (n ≤ c ∧ c < UNK) ∨ c = UNK ∧ szOf P E = some z := by
  rcases hc with hc | ⟨q1, q2⟩
  · exact Or.inl hc
  · obtain ⟨cs', ro', q3⟩ := q2 b o rfl
    rw [h1] at q3
    injection q3 with q3
    injection q3 with _ q3 _
    exact Or.inr ⟨q1, by rw [q3]; exact hz⟩
theorem own_push {n0 : Nat} {A : AH} {e : TypeId} {z y : Nat} {v : Value} {L : List (List Value)} {r : List Value} (h : Own n0 A e z v L) (hw : A.wf) (hn0 : n0 ≤ A.next) (hr : r.length = z ∧ r.all oneB = true) (hz : 0 < z) (hy : y ≤ 1048576) (hl : L.length ≤ 1000000) :
    ∃ v' A', appW e z y v (.slice (some ⟨A.next, 0, none⟩) 1 1) (A.alloc (.row r e false)) = some (v', A') ∧ Own n0 A' e z v' (L ++ [r]) ∧ A.next + 1 ≤ A'.next ∧ ∀ b, b < n0 → A'.get b = A.get b := by
  have xa := Ext.alloc A (.row r e false)
  have hsl : Sl (A.alloc (.row r e false)) e z (some ⟨A.next, 0, none⟩) [r] := Sl.row (Rw.one hr) (AH.get_new _ _) (by simp)
  have hm : (L.length + [r].length) * y ≤ 17592186044416 := by
    have : (L.length + [r].length) * y ≤ 1000001 * 1048576 := Nat.mul_le_mul (by simp; omega) hy
    omega
  obtain ⟨v', A', p1, p2, p3, p4⟩ := (h.ext hw xa).app (y := y) (by simp; omega) hsl hz hy (by simp; omega) hm (c := 1)
  exact ⟨v', A', p1, p2, p3, fun b hb => (p4 ⟨n0, A.tab⟩ rfl (fun b hb => xa b (by simp at hb; omega))) b hb⟩
theorem own_kept {n0 : Nat} {A A' : AH} {e : TypeId} {z : Nat} {v : Value} {L : List (List Value)} (h : Own n0 A e z v L) (hk : ∀ b x, n0 ≤ b → A.get b = some x → A'.get b = A.get b) : Own n0 A' e z v L :=
  ⟨h.1, h.2.imp id fun ⟨b, q1, q2, q3⟩ => ⟨b, q1, q2, (hk b _ q2 q3).trans q3⟩⟩
theorem own_slm {n0 : Nat} {A : AH} {e : TypeId} {z : Nat} {v : Value} {α : Type} {f : α → List Value} {L : List α} (h : Own n0 A e z v (L.map f)) : ∃ a c, v = .slice a L.length c ∧ Sl A e z a (L.map f) ∧ (∀ b o, a = some ⟨b, o, none⟩ → n0 ≤ b) ∧ CapOk A e a L.length c := by
  rcases h.2 with ⟨rfl, hn⟩ | ⟨b, rfl, hb, hg⟩
  · have hL : L = [] := List.map_eq_nil_iff.1 hn
    subst hL
    exact ⟨none, 0, rfl, Sl.nil Pla.no _ _ _, by simp, Or.inl ⟨by simp, by unfold UNK; omega⟩⟩
  · refine ⟨_, _, by rw [List.length_map], Sl.row h.1 hg rfl, fun b' o e => ?_, Or.inr ⟨rfl, fun b' o e => ?_⟩⟩
    · injection e with e; injection e with e; omega
    · injection e with e; injection e with e; subst e; exact ⟨_, _, hg⟩
/-! Maps. -/
structure KeyOk {α : Type} [DecidableEq α] (P : Program) (kt : TypeId) (f : α → Value) : Prop where
  eq : ∀ A a b, aEq P A 20 kt (f a) (f b) = some (decide (a = b))
  ok : ∀ a, aKey P 20 kt (f a) = true
  un : (P.underlying kt).isSome = true
  fl : ∀ a, eqFlat (f a) (f a) = true
section
variable {α : Type} [DecidableEq α] {f : α → Value} {kt et T : TypeId}
def mpE (f : α → Value) (L : List (α × Value)) : List (Value × Value) := L.map fun p => (f p.1, p.2)
def mget : List (α × Value) → α → Option Value
  | [], _ => none
  | p :: l, k => if k = p.1 then some p.2 else mget l k
def mset : List (α × Value) → α → Value → List (α × Value)
  | [], k, v => [(k, v)]
  | p :: l, k, v => if k = p.1 then (k, v) :: l else p :: mset l k v
theorem mget_mset (k k' : α) (v : Value) : ∀ L : List (α × Value), mget (mset L k v) k' = if k' = k then some v else mget L k'
  | [] => by simp [mset, mget]
  | p :: l => by
    have ih := mget_mset k k' v l
    by_cases h : k = p.1
    · by_cases h' : k' = k
      · simp [mset, mget, h, h']
      · have : ¬ k' = p.1 := fun e => h' (by rw [e, h])
        simp [mset, mget, ← h, h']
    · by_cases h' : k' = p.1
      · have : ¬ k' = k := fun e => h (by rw [← e, h'])
        simp only [mset, if_neg h, mget, if_pos h', if_neg this]
      · simp only [mset, if_neg h, mget, if_neg h', ih]
theorem aFind_mp (hk : KeyOk P kt f) (A : AH) (k : α) : ∀ (L : List (α × Value)) (i : Nat),
    (mget L k = none → aFind P A kt (f k) (mpE f L) i = some none ∧ ∀ v, mpE f L ++ [(f k, v)] = mpE f (mset L k v)) ∧
    (∀ v, mget L k = some v → ∃ j, aFind P A kt (f k) (mpE f L) i = some (some (i + j, v)) ∧ (mpE f L)[j]? = some (f k, v) ∧ ∀ v', (mpE f L).set j (f k, v') = mpE f (mset L k v'))
  | [], i => ⟨fun _ => ⟨rfl, fun v => rfl⟩, fun v h => by cases h⟩
  | p :: l, i => by
    have ih := aFind_mp hk A k l (i + 1)
    by_cases h : k = p.1
    · refine ⟨fun hn => by simp [mget, h] at hn, fun v hv => ⟨0, ?_, ?_, fun v' => ?_⟩⟩
      · simp only [mget, if_pos h, Option.some.injEq] at hv
        show aFind P A kt (f k) ((f p.1, p.2) :: mpE f l) i = _
        simp [aFind, hk.eq, h, hv]
      · simp only [mget, if_pos h, Option.some.injEq] at hv
        simp [mpE, h, hv]
      · simp only [mset, if_pos h]; rfl
    · have hf : aFind P A kt (f k) (mpE f (p :: l)) i = aFind P A kt (f k) (mpE f l) (i + 1) := by
        show aFind P A kt (f k) ((f p.1, p.2) :: mpE f l) i = _
        simp [aFind, hk.eq, h]
      refine ⟨fun hn => ?_, fun v hv => ?_⟩
      · simp only [mget, if_neg h] at hn
        obtain ⟨h1, h2⟩ := ih.1 hn
        refine ⟨hf.trans h1, fun v => ?_⟩
        simp only [mset, if_neg h]
        show (f p.1, p.2) :: (mpE f l ++ [(f k, v)]) = _
        rw [h2]; rfl
      · simp only [mget, if_neg h] at hv
        obtain ⟨j, h1, h2, h3⟩ := ih.2 v hv
        refine ⟨j + 1, by rw [hf, h1]; congr 3; omega, h2, fun v' => ?_⟩
        simp only [mset, if_neg h]
        show (f p.1, p.2) :: (mpE f l).set j (f k, v') = _
        rw [h3]; rfl
theorem lookup_mp (hk : KeyOk P kt f) {z : Value} (hT : mapOf P T = some (kt, et)) (hz : zeroOf P et = some z) {A : AH} {b : Nat} {L : List (α × Value)} (hb : A.get b = some (.mp (mpE f L))) (k : α) :
    aLookup P T (.map (some b)) (f k) true A = some (.tuple #[(mget L k).getD z, .bool (mget L k).isSome]) ∧ aLookup P T (.map (some b)) (f k) false A = some ((mget L k).getD z) := by
  have h := aFind_mp hk A k L 0
  constructor
  · unfold aLookup
    simp only [hT, hb, hz]
    rw [if_pos ⟨hk.ok k, hk.un⟩]
    cases hg : mget L k with
    | none => rw [(h.1 hg).1]; rfl
    | some v => obtain ⟨j, h1, -⟩ := h.2 v hg; rw [h1]; rfl
  · unfold aLookup
    simp only [hT, hb, hz]
    rw [if_pos ⟨hk.ok k, hk.un⟩]
    cases hg : mget L k with
    | none => rw [(h.1 hg).1]; rfl
    | some v => obtain ⟨j, h1, -⟩ := h.2 v hg; rw [h1]; rfl
theorem set_mp (hk : KeyOk P kt f) (hT : mapOf P T = some (kt, et)) {A : AH} {b : Nat} {L : List (α × Value)} (hb : A.get b = some (.mp (mpE f L))) (k : α) (v : Value) :
    aMapSet P T (.map (some b)) (f k) v A = some (A.set b (.mp (mpE f (mset L k v)))) := by
  have h := aFind_mp hk A k L 0
  unfold aMapSet
  simp only [hT, hb]
  rw [if_pos ⟨hk.ok k, hk.un⟩]
  cases hg : mget L k with
  | none => rw [(h.1 hg).1]; simp only []; rw [(h.1 hg).2]
  | some w =>
    obtain ⟨j, h1, h2, h3⟩ := h.2 w hg
    rw [h1]
    simp only [Nat.zero_add]
    rw [h2]
    simp only []
    rw [if_pos (hk.fl k), h3]
end
/-! Arrays built. -/
theorem aBuild_arr {T e : TypeId} {n s : Nat} {z : Value} (hT : P.underlying T = some (.array n e)) (hs : szOf P e = some s) (hz : zeroOf P T = some z) (ps : List (Nat × Value)) : aBuild P T ps = (fillL (fun i => some (i * s, s)) z.cells.toList ps).map fun cs => .agg cs.toArray := by
  unfold aBuild
  rw [hz, hT]
  simp only []
  rw [hs]
  rfl
/-! Arrays compared. -/
theorem aEq_arr {T e : TypeId} {n s : Nat} (hT : P.underlying T = some (.array n e)) (hs : szOf P e = some s) (A : AH) (k : Nat) (xs ys : List Value) : aEq P A (k + 1) T (.agg ⟨xs⟩) (.agg ⟨ys⟩) = eqL P A k xs ys ((List.range n).map fun i => (e, i * s)) := by
  unfold aEq
  rw [hT]
  simp only [hs]
  generalize List.range n = l
  induction l with
  | nil => rfl
  | cons i l ih =>
    simp only [aEqItems, List.map_cons, eqL, ih]
    cases aPart P e xs (i * s) with
    | none => rfl
    | some a => cases aPart P e ys (i * s) with
      | none => rfl
      | some b => rfl
@[simp] theorem aBuiltin_max (Ts : List TypeId) (k : IntKind) (a b : Int) (A : AH) : aBuiltin P .max ⟨Ts⟩ [.int k a, .int k b] A = some (.int k (if a < b then b else a), A) := (rfl)
@[simp] theorem aBuiltin_min (Ts : List TypeId) (k : IntKind) (a b : Int) (A : AH) : aBuiltin P .min ⟨Ts⟩ [.int k a, .int k b] A = some (.int k (if b < a then b else a), A) := (rfl)
/-! Arrays read. -/
theorem Rd_arr {A : AH} {n N : Nat} {t e : TypeId} {cs : List Value} {k : IntKind} (ht : P.underlying t = some (.array N e)) (he : P.underlying e = some (.int k)) (hc : P.cellsOf t = N) (hce : P.cellsOf e = 1) (h : Rd P A n t cs) : ∃ L : List Int, L.length = N ∧ cs = L.map (.int k) ∧ ∀ i ∈ L, (Lit.int k i).wf = true := by
  cases n with
  | zero => exact h.elim
  | succ n =>
    unfold Rd at h
    rw [ht] at h
    obtain ⟨h1, h2⟩ := h
    rw [hc] at h1
    rw [hce] at h2
    obtain ⟨L, l1, l2⟩ := pick_list (Q := fun i (x : Int) => cs[i]? = some (.int k x) ∧ (Lit.int k x).wf = true) (len := N) fun i hi => by
      obtain ⟨x, e1, w1⟩ := Rd_int he (h2 i hi)
      refine ⟨x, ?_, w1⟩
      have : ((cs.drop (i * 1)).take 1)[0]? = some (.int k x) := by rw [e1]; rfl
      rw [List.getElem?_take, if_pos (by omega), List.getElem?_drop] at this
      simpa using this
    refine ⟨L, l1, ?_, fun x hx => ?_⟩
    · apply List.ext_getElem?
      intro i
      rw [List.getElem?_map]
      by_cases hi : i < L.length
      · rw [(l2 i hi).1, List.getElem?_eq_getElem hi]; rfl
      · rw [List.getElem?_eq_none (by omega), List.getElem?_eq_none (by omega)]; rfl
    · obtain ⟨i, hi, rfl⟩ := List.getElem_of_mem hx
      exact (l2 i hi).2
end Go.AI
