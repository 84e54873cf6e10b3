/-
  A way to reckon with memory, sound for calls of the model: named blocks, operations over them, rules for code.
-/
import Derived.Test.YtolifpkbkjofaaaP2
set_option linter.unusedSimpArgs false
set_option linter.unusedVariables false
/- AI8: closed calls, reckoned: a call that comes to one answer, whatever the memory before it. -/
namespace Go.AI
open Go Go.RowKit
set_option linter.unusedVariables false
variable {P : Program}
/-! The same cell? -/
def adEq : Option Addr → Option Addr → Bool
  | none, none => true
  | some ⟨b, o, none⟩, some ⟨b', o', none⟩ => b == b' && o == o'
  | _, _ => false
theorem adEq_sound {a b : Option Addr} (h : adEq a b = true) : a = b := by
  unfold adEq at h
  split at h
  · rfl
  · simp only [Bool.and_eq_true, beq_iff_eq] at h; rw [h.1, h.2]
  · cases h
def cEq : Value → Value → Bool
  | .bool a, .bool b => a == b
  | .int k a, .int k' b => decide (k = k') && decide (a = b)
  | .pointer a, .pointer b => adEq a b
  | .slice a n c, .slice b n' c' => adEq a b && (n == n' && c == c')
  | .map none, .map none => true
  | .map (some a), .map (some b) => a == b
  | .nilFunc, .nilFunc => true
  | .nilIface, .nilIface => true
  | _, _ => false
theorem cEq_sound {a b : Value} (h : cEq a b = true) : a = b := by
  unfold cEq at h
  split at h
  · rw [beq_iff_eq] at h; rw [h]
  · simp only [Bool.and_eq_true, decide_eq_true_eq] at h; rw [h.1, h.2]
  · rw [adEq_sound h]
  · simp only [Bool.and_eq_true, beq_iff_eq] at h; rw [adEq_sound h.1, h.2.1, h.2.2]
  · rfl
  · rw [beq_iff_eq] at h; rw [h]
  · rfl
  · rfl
  · cases h
def lEq : List Value → List Value → Bool
  | [], [] => true
  | a :: as, b :: bs => cEq a b && lEq as bs
  | _, _ => false
theorem lEq_sound : ∀ {a b : List Value}, lEq a b = true → a = b
  | [], [], _ => rfl
  | a :: as, b :: bs, h => by
    simp only [lEq, Bool.and_eq_true] at h
    rw [cEq_sound h.1, lEq_sound h.2]
  | [], _ :: _, h => by simp [lEq] at h
  | _ :: _, [], h => by simp [lEq] at h
def vEq : Value → Value → Bool
  | .agg a, .agg b => lEq a.toList b.toList
  | a, b => cEq a b
theorem vEq_sound {a b : Value} (h : vEq a b = true) : a = b := by
  unfold vEq at h
  split at h
  · rw [Array.toList_inj.1 (lEq_sound h)]
  · exact cEq_sound h
abbrev CF := FuncId → List Value → AH → Option (Value × AH)
/-- What is reckoned of calls is so. -/
def CFok (P : Program) (cf : CF) : Prop := ∀ f as A v A', cf f as A = some (v, A') → ACall P f as A fun x B => x = v ∧ B = A'
def eI (P : Program) (cf : CF) (o : Op) (E : Env) (A : AH) : Option (Value × AH) :=
  match o with
  | .call c => match c.callee with
    | .builtin _ => iOp P E o A
    | _ => (iCallee P E o).bind fun q => cf q.1 q.2 A
  | _ => iOp P E o A
theorem eI_sound {cf : CF} (hc : CFok P cf) {o : Op} {E : Env} {A A' : AH} {v : Value} {k : Value → AH → Prop} (h : eI P cf o E A = some (v, A')) (hk : k v A') : iS P o E A k := by
  have hcall : ∀ c, o = .call c → (iCallee P E o).bind (fun q => cf q.1 q.2 A) = some (v, A') → oK (iCallee P E o) fun q => ACall P q.1 q.2 A k := by
    intro c ho h
    obtain ⟨q, hq, h⟩ := Option.bind_eq_some_iff.1 h
    rw [hq]
    exact (hc _ _ _ _ _ h).mono fun x B _ _ ⟨e1, e2⟩ => by rw [e1, e2]; exact hk
  have hop : iOp P E o A = some (v, A') → oK (iOp P E o A) fun q => k q.1 q.2 := fun h => by rw [h]; exact hk
  cases o with
  | call c =>
    obtain ⟨callee, xs, Ts⟩ := c
    cases callee with
    | builtin b => exact hop h
    | _ => exact hcall _ rfl h
  | _ => exact hop h
def eO (P : Program) (cf : CF) : List RI → Env → AH → Option (Env × AH)
  | [], E, A => some (E, A)
  | .p d o :: l, E, A => match eI P cf o E A with | some (v, A') => eO P cf l (E.set d v) A' | none => none
  | .n o :: l, E, A => match eI P cf o E A with | some (_, A') => eO P cf l E A' | none => none
  | .g t b d o :: l, E, A => match E.get t with
    | .bool c => if c = b then (match eI P cf o E A with | some (v, A') => eO P cf l (E.set d v) A' | none => none) else eO P cf l (E.set d undef) A
    | _ => eO P cf l (E.set d undef) A
  | .gn t b o :: l, E, A => match E.get t with
    | .bool c => if c = b then (match eI P cf o E A with | some (_, A') => eO P cf l E A' | none => none) else eO P cf l E A
    | _ => eO P cf l E A
  | .bad :: _, _, _ => none
theorem eO_sound {cf : CF} (hc : CFok P cf) {K : Env → AH → Prop} : ∀ (l : List RI) {E E' : Env} {A A' : AH}, eO P cf l E A = some (E', A') → K E' A' → SO P l E A K
  | [], E, E', A, A', h, hk => by
    simp only [eO, Option.some.injEq, Prod.mk.injEq] at h
    rw [← h.1, ← h.2] at hk; exact hk
  | .p d o :: l, E, E', A, A', h, hk => by
    simp only [eO] at h
    split at h
    · rename_i v A1 he; exact eI_sound hc he (eO_sound hc l h hk)
    · cases h
  | .n o :: l, E, E', A, A', h, hk => by
    simp only [eO] at h
    split at h
    · rename_i v A1 he; exact eI_sound (k := fun _ A' => SO P l E A' K) hc he (eO_sound hc l h hk)
    · cases h
  | .g t b d o :: l, E, E', A, A', h, hk => by
    simp only [eO] at h
    simp only [SO, gK]
    split at h
    · rename_i c hg
      simp only [hg]
      split at h
      · rename_i hcb
        rw [if_pos hcb]
        split at h
        · rename_i v A1 he; exact eI_sound hc he (eO_sound hc l h hk)
        · cases h
      · rename_i hcb
        rw [if_neg hcb]; exact eO_sound hc l h hk
    · rename_i hg
      split
      · rename_i c hg2; exact absurd hg2 (hg c)
      · exact eO_sound hc l h hk
  | .gn t b o :: l, E, E', A, A', h, hk => by
    simp only [eO] at h
    simp only [SO, gK]
    split at h
    · rename_i c hg
      simp only [hg]
      split at h
      · rename_i hcb
        rw [if_pos hcb]
        split at h
        · rename_i v A1 he; exact eI_sound (k := fun _ A' => SO P l E A' K) hc he (eO_sound hc l h hk)
        · cases h
      · rename_i hcb
        rw [if_neg hcb]; exact eO_sound hc l h hk
    · rename_i hg
      split
      · rename_i c hg2; exact absurd hg2 (hg c)
      · exact eO_sound hc l h hk
  | .bad :: l, E, E', A, A', h, hk => by simp [eO] at h
/-! Drawn regions where something must be held. -/
def ableB (P : Program) (E : Env) (A : AH) : RI → Bool
  | .p _ o => (iOp P E o A).isSome
  | .n o => (iOp P E o A).isSome
  | .g t b _ o => match E.get t with | .bool c => if c = b then (iOp P E o A).isSome else true | _ => true
  | .gn t b o => match E.get t with | .bool c => if c = b then (iOp P E o A).isSome else true | _ => true
  | .bad => false
theorem ableB_sound {E : Env} {A : AH} {r : RI} (h : ableB P E A r = true) : ableI P E A r := by
  cases r with
  | p d o => exact h
  | n o => exact h
  | g t b d o =>
    simp only [ableB] at h
    simp only [ableI, gK]
    split at h
    · rename_i c hg
      simp only [hg]
      split at h
      · rename_i hcb; rw [if_pos hcb]; exact h
      · rename_i hcb; rw [if_neg hcb]; trivial
    · rename_i hg
      split
      · rename_i c hg2; exact absurd hg2 (hg c)
      · trivial
  | gn t b o =>
    simp only [ableB] at h
    simp only [ableI, gK]
    split at h
    · rename_i c hg
      simp only [hg]
      split at h
      · rename_i hcb; rw [if_pos hcb]; exact h
      · rename_i hcb; rw [if_neg hcb]; trivial
    · rename_i hg
      split
      · rename_i c hg2; exact absurd hg2 (hg c)
      · trivial
  | bad => cases h
def floB (P : Program) (E : Env) (A : AH) : List RI → Bool
  | [] => true
  | f :: fs => ableB P E A f && floB P E A fs
theorem floB_sound {E : Env} {A : AH} : ∀ {l : List RI}, floB P E A l = true → floI P E A l
  | [], _ => trivial
  | f :: fs, h => by
    simp only [floB, Bool.and_eq_true] at h
    exact ⟨ableB_sound h.1, floB_sound h.2⟩
def stillB (P : Program) (o : Op) (E : Env) (A : AH) (v : Value) : Bool :=
  match clOf ⟨none, o, 0, default, #[], none⟩ with
  | .rd => match iOp P E o A with | some (v', _) => vEq v' v | none => false
  | _ => false
theorem stillB_sound {o : Op} {E : Env} {A : AH} {v : Value} (h : stillB P o E A v = true) : iOp P E o A = some (v, A) := by
  unfold stillB at h
  split at h
  · rename_i hc
    split at h
    · rename_i v' A' hl
      rw [vEq_sound h] at hl
      have : A' = A := rd_same hc hl
      rw [hl, this]
    · cases h
  · cases h
def heldB (P : Program) (A : AH) (held : List Nat) : List (Nat × Op × Env × Value) → Bool
  | [] => true
  | r :: rs => (if held.contains r.1 then stillB P r.2.1 r.2.2.1 A r.2.2.2 else true) && heldB P A held rs
theorem heldB_sound {A : AH} {held : List Nat} : ∀ {H : List (Nat × Op × Env × Value)}, heldB P A held H = true → heldI P A held H
  | [], _ => trivial
  | r :: rs, h => by
    simp only [heldB, Bool.and_eq_true] at h
    refine ⟨?_, heldB_sound h.2⟩
    by_cases hc : held.contains r.1 = true
    · rw [if_pos hc]; have := h.1; rw [if_pos hc] at this; exact stillB_sound this
    · rw [if_neg hc]; trivial
def eD (P : Program) (cf : CF) : List DI → List (Nat × Op × Env × Value) → Env → AH → Option (Env × AH)
  | [], _, E, A => some (E, A)
  | p :: ps, H, E, A =>
    if floB P E A p.flo then
      match p.r with
      | .p d o => match eI P cf o E A with | some (v, A') => if heldB P A' p.held H then eD P cf ps (if p.keep then (p.i, o, E, v) :: H else H) (E.set d v) A' else none | none => none
      | .n o => match eI P cf o E A with | some (v, A') => if heldB P A' p.held H then eD P cf ps (if p.keep then (p.i, o, E, v) :: H else H) E A' else none | none => none
      | .g t b d o => match E.get t with
        | .bool c => if c = b then (match eI P cf o E A with | some (v, A') => if heldB P A' p.held H then eD P cf ps (if p.keep then (p.i, o, E, v) :: H else H) (E.set d v) A' else none | none => none) else eD P cf ps H (E.set d undef) A
        | _ => eD P cf ps H (E.set d undef) A
      | .gn t b o => match E.get t with
        | .bool c => if c = b then (match eI P cf o E A with | some (v, A') => if heldB P A' p.held H then eD P cf ps (if p.keep then (p.i, o, E, v) :: H else H) E A' else none | none => none) else eD P cf ps H E A
        | _ => eD P cf ps H E A
      | .bad => none
    else none
theorem eD_sound {cf : CF} (hc : CFok P cf) {K : Env → AH → Prop} : ∀ (l : List DI) {H : List (Nat × Op × Env × Value)} {E E' : Env} {A A' : AH}, eD P cf l H E A = some (E', A') → K E' A' → SD P l H E A K := by
  intro l
  induction l with
  | nil =>
    intro H E E' A A' h hk
    simp only [eD, Option.some.injEq, Prod.mk.injEq] at h
    rw [← h.1, ← h.2] at hk; exact hk
  | cons p ps ih =>
    intro H E E' A A' h hk
    simp only [eD] at h
    split at h
    · rename_i hf
      simp only [SD]
      refine ⟨floB_sound hf, ?_⟩
      split at h
      · rename_i d o hr
        simp only [hr]
        split at h
        · rename_i v A1 he
          split at h
          · rename_i hh; exact eI_sound hc he ⟨heldB_sound hh, ih h hk⟩
          · cases h
        · cases h
      · rename_i o hr
        simp only [hr]
        split at h
        · rename_i v A1 he
          split at h
          · rename_i hh; exact eI_sound hc he ⟨heldB_sound hh, ih h hk⟩
          · cases h
        · cases h
      · rename_i t b d o hr
        simp only [hr, gK]
        split at h
        · rename_i c hg
          simp only [hg]
          split at h
          · rename_i hcb
            rw [if_pos hcb]
            split at h
            · rename_i v A1 he
              split at h
              · rename_i hh; exact eI_sound hc he ⟨heldB_sound hh, ih h hk⟩
              · cases h
            · cases h
          · rename_i hcb
            rw [if_neg hcb]; exact ih h hk
        · rename_i hg
          split
          · rename_i c hg2; exact absurd hg2 (hg c)
          · exact ih h hk
      · rename_i t b o hr
        simp only [hr, gK]
        split at h
        · rename_i c hg
          simp only [hg]
          split at h
          · rename_i hcb
            rw [if_pos hcb]
            split at h
            · rename_i v A1 he
              split at h
              · rename_i hh; exact eI_sound hc he ⟨heldB_sound hh, ih h hk⟩
              · cases h
            · cases h
          · rename_i hcb
            rw [if_neg hcb]; exact ih h hk
        · rename_i hg
          split
          · rename_i c hg2; exact absurd hg2 (hg c)
          · exact ih h hk
      · cases h
    · cases h
/-! Code. -/
def eL (body : Env → AH → Option (Exit × Env × AH)) : Nat → Env → AH → Option (Exit × Env × AH)
  | 0, _, _ => none
  | n + 1, E, A => match body E A with | some (.normal, E', A') => eL body n E' A' | r => r
def eW (P : Program) (cf : CF) (fuel : Nat) : SC → Env → AH → Option (Exit × Env × AH)
  | .skip, E, A => some (.normal, E, A)
  | .exit id, E, A => some (.exit id, E, A)
  | .ret, E, A => some (.ret, E, A)
  | .seq x y, E, A => match eW P cf fuel x E A with | some (.normal, E', A') => eW P cf fuel y E' A' | r => r
  | .cond c x y, E, A => match ev E c with | .bool true => eW P cf fuel x E A | .bool false => eW P cf fuel y E A | _ => none
  | .block id c, E, A => match eW P cf fuel c E A with | some (.exit id', E', A') => if id' = id then some (.normal, E', A') else some (.exit id', E', A') | r => r
  | .loop c, E, A => eL (eW P cf fuel c) fuel E A
  | .reg l, E, A => (eO P cf l E A).map fun q => (.normal, q.1, q.2)
  | .draw l, E, A => (eD P cf l [] E A).map fun q => (.normal, q.1, q.2)
  | .bad, _, _ => none
theorem eL_sound {body : Env → AH → Option (Exit × Env × AH)} {sb : Env → AH → (Exit → Env → AH → Prop) → Prop} (hb : ∀ {E A ex E' A'} {Q : Exit → Env → AH → Prop}, body E A = some (ex, E', A') → Q ex E' A' → sb E A Q) {n : Nat} {E E' : Env} {A A' : AH} {ex : Exit} {Q : Exit → Env → AH → Prop} (h : eL body n E A = some (ex, E', A')) (hq : Q ex E' A') : SL sb E A Q := by
  refine ⟨fun k E1 A1 => eL body k E1 A1 = some (ex, E', A'), n, h, fun k E1 A1 _ _ h1 => ?_⟩
  cases k with
  | zero => simp [eL] at h1
  | succ k =>
    simp only [eL] at h1
    split at h1
    · rename_i E2 A2 he
      exact hb he ⟨k, Nat.lt_succ_self k, h1⟩
    · rename_i hne
      have hx : ex ≠ .normal := fun e => by rw [e] at h1; exact hne _ _ h1
      refine hb h1 ?_
      cases ex <;> first | exact hq | exact absurd rfl hx
theorem eW_sound {cf : CF} (hc : CFok P cf) {fuel : Nat} : ∀ (c : SC) {E E' : Env} {A A' : AH} {ex : Exit} {Q : Exit → Env → AH → Prop}, eW P cf fuel c E A = some (ex, E', A') → Q ex E' A' → SW P c E A Q := by
  intro c
  induction c with
  | skip => intro E E' A A' ex Q h hq; simp only [eW, Option.some.injEq, Prod.mk.injEq] at h; obtain ⟨rfl, rfl, rfl⟩ := h; exact hq
  | exit id => intro E E' A A' ex Q h hq; simp only [eW, Option.some.injEq, Prod.mk.injEq] at h; obtain ⟨rfl, rfl, rfl⟩ := h; exact hq
  | ret => intro E E' A A' ex Q h hq; simp only [eW, Option.some.injEq, Prod.mk.injEq] at h; obtain ⟨rfl, rfl, rfl⟩ := h; exact hq
  | bad => intro E E' A A' ex Q h hq; simp [eW] at h
  | seq x y ihx ihy =>
    intro E E' A A' ex Q h hq
    simp only [eW] at h
    simp only [SW]
    split at h
    · rename_i E1 A1 he
      exact ihx he (ihy h hq)
    · rename_i hne
      have hx : ex ≠ .normal := fun e => by rw [e] at h; exact hne _ _ h
      refine ihx h ?_
      cases ex <;> first | exact hq | exact absurd rfl hx
  | cond c x y ihx ihy =>
    intro E E' A A' ex Q h hq
    simp only [eW] at h
    simp only [SW, bK]
    split at h
    · rename_i hv; simp only [hv]; exact ihx h hq
    · rename_i hv; simp only [hv]; exact ihy h hq
    · cases h
  | block id c ih =>
    intro E E' A A' ex Q h hq
    simp only [eW] at h
    simp only [SW]
    split at h
    · rename_i id' E1 A1 he
      refine ih he ?_
      split at h
      · rename_i e
        simp only [Option.some.injEq, Prod.mk.injEq] at h; obtain ⟨rfl, rfl, rfl⟩ := h
        simp only [outOf, e, if_true]; exact hq
      · rename_i e
        simp only [Option.some.injEq, Prod.mk.injEq] at h; obtain ⟨rfl, rfl, rfl⟩ := h
        simp only [outOf, e, if_false]; exact hq
    · rename_i hne
      refine ih h ?_
      cases ex with
      | exit id' => exact absurd h (hne id' _ _)
      | _ => exact hq
  | loop c ih =>
    intro E E' A A' ex Q h hq
    simp only [eW] at h
    exact eL_sound (sb := SW P c) (fun he hq => ih he hq) h hq
  | reg l =>
    intro E E' A A' ex Q h hq
    simp only [eW, Option.map_eq_some_iff] at h
    obtain ⟨q, h1, h2⟩ := h
    simp only [Prod.mk.injEq] at h2; obtain ⟨rfl, rfl, rfl⟩ := h2
    exact eO_sound hc l h1 hq
  | draw l =>
    intro E E' A A' ex Q h hq
    simp only [eW, Option.map_eq_some_iff] at h
    obtain ⟨q, h1, h2⟩ := h
    simp only [Prod.mk.injEq] at h2; obtain ⟨rfl, rfl, rfl⟩ := h2
    exact eD_sound hc l h1 hq
/-- A function's code: its slots, the code, its results. -/
structure FC where
  n : Nat
  c : SC
  rs : List ResultVar
/-- Calls, so deep; ov: what is told of some calls beside. -/
def eF (P : Program) (tab : FuncId → Option FC) (ov : CF) (fuel : Nat) : Nat → CF
  | 0, _, _, _ => none
  | d + 1, f, as, A =>
    match ov f as A with
    | some r => some r
    | none => match tab f with
      | some t => if as.length ≤ t.n then (match eW P (eF P tab ov fuel d) fuel t.c (Env.of as 0) A with
        | some (.normal, E', A') => (aRes P E' A' t.rs).map fun l => (oneOf l, A')
        | some (.ret, E', A') => (aRes P E' A' t.rs).map fun l => (oneOf l, A')
        | _ => none) else none
      | none => none
def TabOk (P : Program) (tab : FuncId → Option FC) : Prop := ∀ f t, tab f = some t → CodeIs P f t.n t.c t.rs
theorem eF_sound {tab : FuncId → Option FC} {ov : CF} (ht : TabOk P tab) (ho : CFok P ov) (fuel : Nat) : ∀ d, CFok P (eF P tab ov fuel d) := by
  intro d
  induction d with
  | zero => intro f as A v A' h; simp [eF] at h
  | succ d ih =>
    intro f as A v A' h
    simp only [eF] at h
    split at h
    · rename_i r hr
      simp only [Option.some.injEq] at h; subst h
      exact ho _ _ _ _ _ hr
    · split at h
      · rename_i t hft
        split at h
        · rename_i hlen
          refine (ht f t hft).call hlen fun _ => ?_
          split at h
          · rename_i E1 A1 he
            refine eW_sound ih t.c he ?_
            obtain ⟨l, hl, h2⟩ := Option.map_eq_some_iff.1 h
            simp only [Prod.mk.injEq] at h2; obtain ⟨rfl, rfl⟩ := h2
            show oK (aRes P E1 A1 t.rs) _
            rw [hl]; exact ⟨rfl, rfl⟩
          · rename_i E1 A1 he
            refine eW_sound ih t.c he ?_
            obtain ⟨l, hl, h2⟩ := Option.map_eq_some_iff.1 h
            simp only [Prod.mk.injEq] at h2; obtain ⟨rfl, rfl⟩ := h2
            show oK (aRes P E1 A1 t.rs) _
            rw [hl]; exact ⟨rfl, rfl⟩
          · cases h
        · cases h
      · cases h
def emptyH : AH := ⟨0, .lf⟩
theorem emptyH_get (b : Nat) : emptyH.get b = none := rfl
theorem emptyH_rel (W : World) : Rel P (fun _ => none) emptyH W :=
  ⟨fun b x h => (by rw [emptyH_get] at h; cases h), fun b c p q x y h => (by rw [emptyH_get] at h; cases h), fun b _ => ⟨rfl, rfl⟩, fun b p h => (by cases h)⟩
/-- A value that is the same everywhere. -/
def plainB : Value → Bool
  | .bool _ => true
  | .int _ _ => true
  | .pointer none => true
  | .slice none _ c => decide (c ≠ UNK)
  | .nilFunc => true
  | _ => false
theorem plainB_rel {m m' : Mp} {v v' : Value} (h : plainB v = true) (hr : VRel m v v') : VRel m' v v' := by
  cases hr with
  | bool b => exact .bool _
  | int k n => exact .int _ _
  | pnil => exact .pnil
  | snil n c hc => exact .snil _ _ hc
  | nilFunc => exact .nilFunc
  | _ => cases h
/-- What a call answers with no memory before it, it answers everywhere; and it leaves what was there. -/
theorem ACall.frame {f : FuncId} {as : List Value} {v : Value} (h : ∃ A', ACall P f as emptyH fun x B => x = v ∧ B = A') (ha : as.all plainB = true) (hv : plainB v = true) (A : AH) : ACall P f as A fun x B => x = v ∧ B = A := by
  obtain ⟨A1, h⟩ := h
  intro m w args' hR hl
  have hl0 : LRel (fun _ => none) as args'.toList := ⟨hl.1, fun i u u' h1 h2 => plainB_rel (List.all_eq_true.1 ha u (List.mem_of_getElem? h1)) (hl.2 i u u' h1 h2)⟩
  have key : ∀ (w' : World) (x x' : Value) (B : AH) (m' : Mp), (x = v ∧ B = A1) → Rel P m' B w' → VRel m' x x' → Step (fun _ => none) emptyH w m' B w' → Rel P m A w' ∧ VRel m v x' ∧ Step m A w m A w' := by
    intro w' x x' B m' ⟨e1, e2⟩ hB hx hs
    subst e1
    have hkeep : ∀ k, k < w.heap.size → w'.heap[k]? = w.heap[k]? := fun k hk => hs.keep k hk fun ⟨b, p, y, hb, _⟩ => by rw [emptyH_get] at hb; cases hb
    refine ⟨⟨fun b y hb => ?_, hR.apart, hR.fresh, fun b p hp => Nat.lt_of_lt_of_le (hR.low b p hp) hs.size⟩, plainB_rel hv hx, ⟨m.le_refl, Nat.le_refl _, hs.size, fun k hk _ => hkeep k hk, fun _ _ h => h, hs.os, hs.tape, hs.output, fun _ _ => rfl, fun _ _ h _ => h⟩⟩
    have hh := hR.held b y hb
    cases y with
    | row cs E ro =>
      obtain ⟨p, cur, fr, h1, h2, h3⟩ := hh
      exact ⟨p, cur, fr, h1, by rw [hkeep _ (hR.low b p h1)]; exact h2, h3⟩
    | mp es =>
      obtain ⟨p, ents, clk, h1, h2, h3⟩ := hh
      exact ⟨p, ents, clk, h1, by rw [hkeep _ (hR.low b p h1)]; exact h2, h3⟩
  rcases h (fun _ => none) w args' (emptyH_rel w) hl0 with ⟨h1, h2⟩ | ⟨v', w', h1, x, B, m', h2, h3, h4, h5⟩
  · refine Or.inl ⟨h1, h2.mono fun e w' ⟨x, x', B, m', he, h3, h4, h5, h6⟩ => ?_⟩
    obtain ⟨k1, k2, k3⟩ := key w' x x' B m' h3 h4 h5 h6
    exact ⟨v, x', A, m, he, ⟨rfl, rfl⟩, k1, k2, k3⟩
  · obtain ⟨k1, k2, k3⟩ := key w' x v' B m' h2 h3 h4 h5
    exact Or.inr ⟨v', w', h1, v, A, m, ⟨rfl, rfl⟩, k1, k2, k3⟩
/-- A closed call, reckoned. -/
theorem ACall.reckon {tab : FuncId → Option FC} {ov : CF} (ht : TabOk P tab) (ho : CFok P ov) (fuel d : Nat) {f : FuncId} {as : List Value} {v : Value} (h : ((eF P tab ov fuel d f as emptyH).map fun q => cEq q.1 v) = some true) (ha : as.all plainB = true) (hv : plainB v = true) (A : AH) : ACall P f as A fun x B => x = v ∧ B = A := by
  obtain ⟨⟨x, B⟩, h1, h2⟩ := Option.map_eq_some_iff.1 h
  have := cEq_sound h2
  simp only at this
  subst this
  exact ACall.frame ⟨B, eF_sound ht ho fuel d _ _ _ _ _ h1⟩ ha hv A
end Go.AI
/- AI9: lists that are kept and shortened. -/
namespace Go.AI
open Go Go.RowKit
set_option linter.unusedVariables false
variable {P : Program}
/-- A list that is kept, whose rows behind its end may still lie there. -/
def Lq (A : AH) (e : TypeId) (z : Nat) (ob : Option Nat) (v : Value) (L : List (List Value)) : Prop :=
  Rw z L ∧ ((ob = none ∧ v = .slice none 0 0 ∧ L = []) ∨ ∃ b c rest, ob = some b ∧ v = .slice (some ⟨b, 0, none⟩) L.length c ∧ A.get b = some (.row (L.flatten ++ rest) e false) ∧ ((c = UNK ∧ ∃ k, rest.length = k * z) ∨ (c < UNK ∧ L.length ≤ c ∧ c * z = L.flatten.length + rest.length)))
section
variable {A : AH} {e : TypeId} {z y : Nat} {ob : Option Nat} {v : Value} {L : List (List Value)} {r : List Value}
theorem Lq.nil (A : AH) (e : TypeId) (z : Nat) : Lq A e z none (.slice none 0 0) [] := ⟨Rw.nil z, Or.inl ⟨rfl, rfl, rfl⟩⟩
theorem Lq.kept {A' : AH} (h : Lq A e z ob v L) (hk : ∀ b, ob = some b → A'.get b = A.get b) : Lq A' e z ob v L :=
  ⟨h.1, h.2.imp id fun ⟨b, c, rest, h1, h2, h3, h4⟩ => ⟨b, c, rest, h1, h2, (hk b h1).trans h3, h4⟩⟩
theorem Lq.lt (h : Lq A e z ob v L) (hw : A.wf) {b : Nat} (hb : ob = some b) : b < A.next := by
  rcases h.2 with ⟨h1, _⟩ | ⟨b', c, rest, h1, _, h3, _⟩
  · rw [h1] at hb; cases hb
  · rw [h1] at hb; injection hb with hb; subst hb; exact hw _ _ h3
theorem Lq.sl (h : Lq A e z ob v L) : ∃ a c, v = .slice a L.length c ∧ Sl A e z a L ∧ (∀ b o, a = some ⟨b, o, none⟩ → ob = some b ∧ o = 0) := by
  rcases h.2 with ⟨_, rfl, rfl⟩ | ⟨b, c, rest, rfl, rfl, hb, _⟩
  · exact ⟨none, 0, rfl, Sl.nil Pla.no A e z, fun b o h => by cases h⟩
  · refine ⟨_, _, rfl, ⟨h.1, Pla.yes _ _, fun _ => ⟨b, 0, _, (e, false), rfl, hb, ?_, ?_⟩⟩, fun b' o h => by injection h with h; injection h with h1 h2; exact ⟨by rw [h1], h2.symm⟩⟩
    · rw [List.length_append, flat_len h.1.len]; omega
    · rw [List.drop_zero, ← flat_len h.1.len, List.take_left]
/-- A row is read. -/
theorem Lq.at (h : Lq A e z ob v L) {i : Nat} (hi : i < L.length) : ∃ b c cs, ob = some b ∧ v = .slice (some ⟨b, 0, none⟩) L.length c ∧ A.get b = some (.row cs e false) ∧ i * z + z ≤ cs.length ∧ (cs.drop (i * z)).take z = L[i] := by
  rcases h.2 with ⟨_, _, rfl⟩ | ⟨b, c, rest, h1, h2, h3, h4⟩
  · simp at hi
  · have hm : (i + 1) * z ≤ L.length * z := Nat.mul_le_mul_right _ hi
    rw [Nat.succ_mul] at hm
    have hl := flat_len h.1.len
    refine ⟨b, c, _, h1, h2, h3, by rw [List.length_append]; omega, ?_⟩
    rw [← flat_at h.1.len hi, List.drop_append_of_le_length (by omega), List.take_append_of_le_length (by rw [List.length_drop]; omega)]
/-- A row is written over. -/
theorem Lq.upd {i : Nat} (h : Lq A e z ob v L) (hi : i < L.length) (hr : r.length = z ∧ r.all oneB = true) :
    ∃ b c cs, ob = some b ∧ v = .slice (some ⟨b, 0, none⟩) L.length c ∧ A.get b = some (.row cs e false) ∧ i * z + z ≤ cs.length ∧ Lq (A.set b (.row (spl cs (i * z) r) e false)) e z ob v (L.set i r) := by
  rcases h.2 with ⟨_, _, rfl⟩ | ⟨b, c, rest, h1, h2, h3, h4⟩
  · simp at hi
  · have hm : (i + 1) * z ≤ L.length * z := Nat.mul_le_mul_right _ hi
    rw [Nat.succ_mul] at hm
    have hl := flat_len h.1.len
    have hR : Rw z (L.take i ++ r :: L.drop (i + 1)) := (h.1.sub fun r hr => List.mem_of_mem_take hr).app (Rw.cons hr (h.1.sub fun r hr => List.mem_of_mem_drop hr))
    have hset : L.set i r = L.take i ++ r :: L.drop (i + 1) := List.set_eq_take_append_cons_drop.trans (if_pos hi)
    have hlen : (L.take i ++ r :: L.drop (i + 1)).length = L.length := by simp; omega
    rw [hset]
    refine ⟨b, c, _, h1, h2, h3, by rw [List.length_append]; omega, hR, Or.inr ⟨b, c, rest, h1, by rw [hlen]; exact h2, by rw [AH.get_set, if_pos rfl, spl_row h.1 hi hr.1], ?_⟩⟩
    rw [hlen, flat_len hR.len, hlen, ← hl]; exact h4
/-- One row, just made, is appended. -/
theorem Lq.push (h : Lq A e z ob v L) (hw : A.wf) (hr : r.length = z ∧ r.all oneB = true) (hz : 0 < z) (hy : y ≤ 1048576) (hl : L.length + 1 ≤ 1099511627776) (hl2 : (L.length + 1) * y ≤ 17592186044416) :
    ∃ v' A' ob', appW e z y v (.slice (some ⟨A.next, 0, none⟩) 1 1) (A.alloc (.row r e false)) = some (v', A') ∧ Lq A' e z ob' v' (L ++ [r]) ∧ (∀ k, k < A.next → ob ≠ some k → A'.get k = A.get k) ∧ (ob' = ob ∨ ob' = some (A.next + 1)) ∧ A.next + 1 ≤ A'.next := by
  have strong : ∀ (hL : Lst A e z ob v L), ∃ v' A' ob', appW e z y v (.slice (some ⟨A.next, 0, none⟩) 1 1) (A.alloc (.row r e false)) = some (v', A') ∧ Lq A' e z ob' v' (L ++ [r]) ∧ (∀ k, k < A.next → ob ≠ some k → A'.get k = A.get k) ∧ (ob' = ob ∨ ob' = some (A.next + 1)) ∧ A.next + 1 ≤ A'.next := by
    intro hL
    obtain ⟨v', A', ob', p1, p2, p3, p4, p5⟩ := hL.push hw hr hz hy hl hl2
    exact ⟨v', A', ob', p1, ⟨p2.1, p2.2.imp id fun ⟨b, c, rest, q1, q2, q3, q4⟩ => ⟨b, c, rest, q1, q2, q3, q4.imp (fun h => ⟨h.1, 0, by rw [h.2]; simp⟩) id⟩⟩, p3, p4, p5⟩
  rcases h.2 with hn | ⟨b, c, rest, h1, h2, h3, ⟨rfl, k, hk⟩ | h4⟩
  · exact strong ⟨h.1, Or.inl hn⟩
  · cases k with
    | zero =>
      refine strong ⟨h.1, Or.inr ⟨b, UNK, rest, h1, h2, h3, Or.inl ⟨rfl, ?_⟩⟩⟩
      exact List.eq_nil_of_length_eq_zero (by simpa using hk)
    | succ k =>
      have hbl : b < A.next := hw _ _ h3
      have hR := h.1.app (Rw.one hr)
      have hfl := flat_len h.1.len
      rw [Nat.succ_mul] at hk
      subst h2
      have hf : firstOf (A.alloc (.row r e false)) z 1 (.slice (some ⟨A.next, 0, none⟩) 1 1) = some r := by
        have := (Sl.row (A := A.alloc (.row r e false)) (b := A.next) (Rw.one hr) (AH.get_new A _) (by simp)).first (c := 1)
        simpa using this
      refine ⟨.slice (some ⟨b, 0, none⟩) (L.length + 1) UNK, (A.alloc (.row r e false)).set b (.row (spl (L.flatten ++ rest) (0 + L.length * z) r) e false), ob, ?_, ⟨hR, Or.inr ⟨b, UNK, rest.drop z, h1, by simp, ?_, Or.inl ⟨rfl, k, by rw [List.length_drop]; omega⟩⟩⟩, ?_, Or.inl rfl, by simp⟩
      · unfold appW
        simp only [hf, Option.bind_some]
        rw [if_neg (by omega), if_neg (by rw [Classical.not_not]; exact ⟨hl, hl2, hy⟩)]
        simp only [if_true]
        rw [AH.get_alloc, if_neg (by omega), h3]
        simp only []
        rw [if_pos ⟨trivial, hr.2, hz⟩, if_pos (by rw [List.length_append, hfl, Nat.zero_add, Nat.succ_mul]; omega)]
      · rw [AH.get_set, if_pos rfl, Nat.zero_add, spl_at' _ _ _ hfl.symm, hr.1]; simp
      · intro k' hk' hne
        rw [AH.get_set, if_neg (fun e => hne (by rw [h1, e])), AH.get_alloc, if_neg (by omega)]
  · exact strong ⟨h.1, Or.inr ⟨b, c, rest, h1, h2, h3, Or.inr h4⟩⟩
/-- The last row goes. -/
theorem Lq.pop (h : Lq A e z ob v (L ++ [r])) (hz : szOf P e = some z) {k : IntKind} :
    ∃ a c, v = .slice a (L.length + 1) c ∧ slW P z a (L.length + 1) c none (some (.int k (L.length : Nat))) none A = some (.slice a L.length c) ∧ Lq A e z ob (.slice a L.length c) L := by
  rcases h.2 with ⟨_, _, hn⟩ | ⟨b, c, rest, h1, h2, h3, h4⟩
  · simp at hn
  · have hrz := (h.1 r (by simp)).1
    refine ⟨some ⟨b, 0, none⟩, c, by simpa using h2, ?_, h.1.sub fun r hr => by simp [hr], Or.inr ⟨b, c, r ++ rest, h1, rfl, by rw [h3]; simp, ?_⟩⟩
    · rcases h4 with ⟨rfl, _⟩ | ⟨h4, h5, _⟩
      · exact slU_hi h3 hz (by omega)
      · rw [slW_hi (by simp at h5; omega) (by simpa using h5) h4]
        congr 2
        exact cutA_zero b 0 c z
    · rcases h4 with ⟨rfl, q, hq⟩ | ⟨h4, h5, h6⟩
      · exact Or.inl ⟨rfl, q + 1, by rw [List.length_append, hrz, hq, Nat.succ_mul]; omega⟩
      · refine Or.inr ⟨h4, by simp at h5; omega, ?_⟩
        rw [h6]; simp; omega
/-- All that a walk needs of two rows: to read them, to write one, to change them over. -/
theorem Lq.open2 (h : Lq A e z ob v L) {i j : Nat} (hi : i < L.length) (hj : j < L.length) : ∃ b c cs, ob = some b ∧ v = .slice (some ⟨b, 0, none⟩) L.length c ∧ A.get b = some (.row cs e false) ∧ i * z + z ≤ cs.length ∧ j * z + z ≤ cs.length ∧
    (cs.drop (i * z)).take z = L[i] ∧ (cs.drop (j * z)).take z = L[j] ∧ L[i].length = z ∧ L[j].length = z ∧ L[i].all oneB = true ∧ L[j].all oneB = true ∧
    Lq (A.set b (.row (spl (spl cs (i * z) L[j]) (j * z) L[i]) e false)) e z ob v ((L.set i L[j]).set j L[i]) := by
  obtain ⟨b, c, cs, h1, h2, h3, h4, h5⟩ := h.at hi
  obtain ⟨b', c', cs', g1, g2, g3, g4, g5⟩ := h.at hj
  rw [h1] at g1; injection g1 with g1; subst g1
  rw [h3] at g3; injection g3 with g3; injection g3 with g3 _ _; subst g3
  have hri := h.1 L[i] (List.getElem_mem hi)
  have hrj := h.1 L[j] (List.getElem_mem hj)
  obtain ⟨b', c', cs', g1, g2, g3, g4, g6⟩ := h.upd hi hrj
  rw [h1] at g1; injection g1 with g1; subst g1
  rw [h3] at g3; injection g3 with g3; injection g3 with g3 _ _; subst g3
  obtain ⟨b', c', cs', k1, k2, k3, k4, k6⟩ := g6.upd (i := j) (by simpa using hj) hri
  rw [h1] at k1; injection k1 with k1; subst k1
  rw [AH.get_set, if_pos rfl] at k3; injection k3 with k3; injection k3 with k3 _ _; subst k3
  refine ⟨b, c, cs, h1, h2, h3, h4, by assumption, h5, g5, hri.1, hrj.1, hri.2, hrj.2, k6.kept fun b' hb' => ?_⟩
  rw [h1] at hb'; injection hb' with hb'; subst hb'
  simp [AH.get_set]
end
end Go.AI
