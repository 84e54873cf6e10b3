/-
  A way to reckon with memory, sound for calls of the model: named blocks, operations over them, rules for code.
-/
import Derived.Test.YtolifpkbkjofaaaP2
/- AI8: closed calls, reckoned: a call that comes to one answer, whatever the memory before it. -/
namespace Go.AI
open Go Go.RowKit
set_option linter.unusedVariables false
variable {P : Program}
/-! The same cell? -/
def adEq : Option Addr → Option Addr → Bool
  | none, none => true
  | some ⟨b, o, none⟩, some ⟨b', o', none⟩ => b == b' && o == o'
  | _, _ => false
theorem adEq_sound {a b : Option Addr} (h : adEq a b = true) : a = b := by
  unfold adEq at h
  split at h
  · rfl
  · simp only [Bool.and_eq_true, beq_iff_eq] at h; rw [h.1, h.2]
  · cases h
def cEq : Value → Value → Bool
  | .bool a, .bool b => a == b
  | .int k a, .int k' b => decide (k = k') && decide (a = b)
  | .pointer a, .pointer b => adEq a b
  | .slice a n c, .slice b n' c' => adEq a b && (n == n' && c == c')
  | .map none, .map none => true
  | .map (some a), .map (some b) => a == b
  | .nilFunc, .nilFunc => true
  | .nilIface, .nilIface => true
  | _, _ => false
theorem cEq_sound {a b : Value} (h : cEq a b = true) : a = b := by
  unfold cEq at h
  split at h
  · rw [beq_iff_eq] at h; rw [h]
  · simp only [Bool.and_eq_true, decide_eq_true_eq] at h; rw [h.1, h.2]
  · rw [adEq_sound h]
  · simp only [Bool.and_eq_true, beq_iff_eq] at h; rw [adEq_sound h.1, h.2.1, h.2.2]
  · rfl
  · rw [beq_iff_eq] at h; rw [h]
  · rfl
  · rfl
  · cases h
def lEq : List Value → List Value → Bool
  | [], [] => true
  | a :: as, b :: bs => cEq a b && lEq as bs
  | _, _ => false
theorem lEq_sound : ∀ {a b : List Value}, lEq a b = true → a = b
  | [], [], _ => rfl
  | a :: as, b :: bs, h => by
    simp only [lEq, Bool.and_eq_true] at h
    rw [cEq_sound h.1, lEq_sound h.2]
  | [], _ :: _, h => by simp [lEq] at h
  | _ :: _, [], h => by simp [lEq] at h
def vEq : Value → Value → Bool
  | .agg a, .agg b => lEq a.toList b.toList
  | a, b => cEq a b
theorem vEq_sound {a b : Value} (h : vEq a b = true) : a = b := by
  unfold vEq at h
  split at h
  · rw [Array.toList_inj.1 (lEq_sound h)]
  · exact cEq_sound h
abbrev CF := FuncId → List Value → AH → Option (Value × AH)
/-- What is reckoned of calls is so. -/
def CFok (P : Program) (cf : CF) : Prop := ∀ f as A v A', cf f as A = some (v, A') → ACall P f as A fun x B => x = v ∧ B = A'
def eI (P : Program) (cf : CF) (o : Op) (E : Env) (A : AH) : Option (Value × AH) :=
  match o with
  | .call c => match c.callee with
    | .builtin _ => iOp P E o A
    | _ => (iCallee P E o).bind fun q => cf q.1 q.2 A
  | _ => iOp P E o A
theorem eI_sound {cf : CF} (hc : CFok P cf) {o : Op} {E : Env} {A A' : AH} {v : Value} {k : Value → AH → Prop} (h : eI P cf o E A = some (v, A')) (hk : k v A') : iS P o E A k := by
  have hcall : ∀ c, o = .call c → (iCallee P E o).bind (fun q => cf q.1 q.2 A) = some (v, A') → oK (iCallee P E o) fun q => ACall P q.1 q.2 A k := by
    intro c ho h
    obtain ⟨q, hq, h⟩ := Option.bind_eq_some_iff.1 h
    rw [hq]
    exact (hc _ _ _ _ _ h).mono fun x B _ _ ⟨e1, e2⟩ => by rw [e1, e2]; exact hk
  have hop : iOp P E o A = some (v, A') → oK (iOp P E o A) fun q => k q.1 q.2 := fun h => by rw [h]; exact hk
  cases o with
  | call c =>
    obtain ⟨callee, xs, Ts⟩ := c
    cases callee with
    | builtin b => exact hop h
    | _ => exact hcall _ rfl h
  | _ => exact hop h
def eO (P : Program) (cf : CF) : List RI → Env → AH → Option (Env × AH)
  | [], E, A => some (E, A)
  | .p d o :: l, E, A => match eI P cf o E A with | some (v, A') => eO P cf l (E.set d v) A' | none => none
  | .n o :: l, E, A => match eI P cf o E A with | some (_, A') => eO P cf l E A' | none => none
  | .g t b d o :: l, E, A => match E.get t with
    | .bool c => if c = b then (match eI P cf o E A with | some (v, A') => eO P cf l (E.set d v) A' | none => none) else eO P cf l (E.set d undef) A
    | _ => eO P cf l (E.set d undef) A
  | .gn t b o :: l, E, A => match E.get t with
    | .bool c => if c = b then (match eI P cf o E A with | some (_, A') => eO P cf l E A' | none => none) else eO P cf l E A
    | _ => eO P cf l E A
  | .bad :: _, _, _ => none
theorem eO_sound {cf : CF} (hc : CFok P cf) {K : Env → AH → Prop} : ∀ (l : List RI) {E E' : Env} {A A' : AH}, eO P cf l E A = some (E', A') → K E' A' → SO P l E A K
  | [], E, E', A, A', h, hk => by
    simp only [eO, Option.some.injEq, Prod.mk.injEq] at h
    rw [← h.1, ← h.2] at hk; exact hk
  | .p d o :: l, E, E', A, A', h, hk => by
    simp only [eO] at h
    split at h
    · rename_i v A1 he; exact eI_sound hc he (eO_sound hc l h hk)
    · cases h
  | .n o :: l, E, E', A, A', h, hk => by
    simp only [eO] at h
    split at h
    · rename_i v A1 he; exact eI_sound (k := fun _ A' => SO P l E A' K) hc he (eO_sound hc l h hk)
    · cases h
  | .g t b d o :: l, E, E', A, A', h, hk => by
    simp only [eO] at h
    simp only [SO, gK]
    split at h
    · rename_i c hg
      simp only [hg]
      split at h
      · rename_i hcb
        rw [if_pos hcb]
        split at h
        · rename_i v A1 he; exact eI_sound hc he (eO_sound hc l h hk)
        · cases h
      · rename_i hcb
        rw [if_neg hcb]; exact eO_sound hc l h hk
    · rename_i hg
      split
      · rename_i c hg2; exact absurd hg2 (hg c)
      · exact eO_sound hc l h hk
  | .gn t b o :: l, E, E', A, A', h, hk => by
    simp only [eO] at h
    simp only [SO, gK]
    split at h
    · rename_i c hg
      simp only [hg]
      split at h
      · rename_i hcb
        rw [if_pos hcb]
        split at h
        · rename_i v A1 he; exact eI_sound (k := fun _ A' => SO P l E A' K) hc he (eO_sound hc l h hk)
        · cases h
      · rename_i hcb
        rw [if_neg hcb]; exact eO_sound hc l h hk
    · rename_i hg
      split
      · rename_i c hg2; exact absurd hg2 (hg c)
      · exact eO_sound hc l h hk
  | .bad :: l, E, E', A, A', h, hk => by simp [eO] at h
/-! Drawn regions where something must be held. -/
def ableB (P : Program) (E : Env) (A : AH) : RI → Bool
  | .p _ o => (iOp P E o A).isSome
  | .n o => (iOp P E o A).isSome
  | .g t b _ o => match E.get t with | .bool c => if c = b then (iOp P E o A).isSome else true | _ => true
  | .gn t b o => match E.get t with | .bool c => if c = b then (iOp P E o A).isSome else true | _ => true
  | .bad => false
theorem ableB_sound {E : Env} {A : AH} {r : RI} (h : ableB P E A r = true) : ableI P E A r := by
  cases r with
  | p d o => exact h
  | n o => exact h
  | g t b d o =>
    simp only [ableB] at h
    simp only [ableI, gK]
    split at h
    · rename_i c hg
      simp only [hg]
      split at h
      · rename_i hcb; rw [if_pos hcb]; exact h
      · rename_i hcb; rw [if_neg hcb]; trivial
    · rename_i hg
      split
      · rename_i c hg2; exact absurd hg2 (hg c)
      · trivial
  | gn t b o =>
    simp only [ableB] at h
    simp only [ableI, gK]
    split at h
    · rename_i c hg
      simp only [hg]
      split at h
      · rename_i hcb; rw [if_pos hcb]; exact h
      · rename_i hcb; rw [if_neg hcb]; trivial
    · rename_i hg
      split
      · rename_i c hg2; exact absurd hg2 (hg c)
      · trivial
  | bad => cases h
def floB (P : Program) (E : Env) (A : AH) : List RI → Bool
  | [] => true
  | f :: fs => ableB P E A f && floB P E A fs
theorem floB_sound {E : Env} {A : AH} : ∀ {l : List RI}, floB P E A l = true → floI P E A l
  | [], _ => trivial
  | f :: fs, h => by
    simp only [floB, Bool.and_eq_true] at h
    exact ⟨ableB_sound h.1, floB_sound h.2⟩
def stillB (P : Program) (o : Op) (E : Env) (A : AH) (v : Value) : Bool :=
  match clOf ⟨none, o, 0, default, #[], none⟩ with
  | .rd => match iOp P E o A with | some (v', _) => vEq v' v | none => false
  | _ => false
theorem stillB_sound {o : Op} {E : Env} {A : AH} {v : Value} (h : stillB P o E A v = true) : iOp P E o A = some (v, A) := by
  unfold stillB at h
  split at h
  · rename_i hc
    split at h
    · rename_i v' A' hl
      rw [vEq_sound h] at hl
      have : A' = A := rd_same hc hl
      rw [hl, this]
    · cases h
  · cases h
def heldB (P : Program) (A : AH) (held : List Nat) : List (Nat × Op × Env × Value) → Bool
  | [] => true
  | r :: rs => (if held.contains r.1 then stillB P r.2.1 r.2.2.1 A r.2.2.2 else true) && heldB P A held rs
theorem heldB_sound {A : AH} {held : List Nat} : ∀ {H : List (Nat × Op × Env × Value)}, heldB P A held H = true → heldI P A held H
  | [], _ => trivial
  | r :: rs, h => by
    simp only [heldB, Bool.and_eq_true] at h
    refine ⟨?_, heldB_sound h.2⟩
    by_cases hc : held.contains r.1 = true
    · rw [if_pos hc]; have := h.1; rw [if_pos hc] at this; exact stillB_sound this
    · rw [if_neg hc]; trivial
def eD (P : Program) (cf : CF) : List DI → List (Nat × Op × Env × Value) → Env → AH → Option (Env × AH)
  | [], _, E, A => some (E, A)
  | p :: ps, H, E, A =>
    if floB P E A p.flo then
      match p.r with
      | .p d o => match eI P cf o E A with | some (v, A') => if heldB P A' p.held H then eD P cf ps (if p.keep then (p.i, o, E, v) :: H else H) (E.set d v) A' else none | none => none
      | .n o => match eI P cf o E A with | some (v, A') => if heldB P A' p.held H then eD P cf ps (if p.keep then (p.i, o, E, v) :: H else H) E A' else none | none => none
      | .g t b d o => match E.get t with
        | .bool c => if c = b then (match eI P cf o E A with | some (v, A') => if heldB P A' p.held H then eD P cf ps (if p.keep then (p.i, o, E, v) :: H else H) (E.set d v) A' else none | none => none) else eD P cf ps H (E.set d undef) A
        | _ => eD P cf ps H (E.set d undef) A
      | .gn t b o => match E.get t with
        | .bool c => if c = b then (match eI P cf o E A with | some (v, A') => if heldB P A' p.held H then eD P cf ps (if p.keep then (p.i, o, E, v) :: H else H) E A' else none | none => none) else eD P cf ps H E A
        | _ => eD P cf ps H E A
      | .bad => none
    else none
theorem eD_sound {cf : CF} (hc : CFok P cf) {K : Env → AH → Prop} : ∀ (l : List DI) {H : List (Nat × Op × Env × Value)} {E E' : Env} {A A' : AH}, eD P cf l H E A = some (E', A') → K E' A' → SD P l H E A K := by
  intro l
  induction l with
  | nil =>
    intro H E E' A A' h hk
    simp only [eD, Option.some.injEq, Prod.mk.injEq] at h
    rw [← h.1, ← h.2] at hk; exact hk
  | cons p ps ih =>
    intro H E E' A A' h hk
    simp only [eD] at h
    split at h
    · rename_i hf
      simp only [SD]
      refine ⟨floB_sound hf, ?_⟩
      split at h
      · rename_i d o hr
        simp only [hr]
        split at h
        · rename_i v A1 he
          split at h
          · rename_i hh; exact eI_sound hc he ⟨heldB_sound hh, ih h hk⟩
          · cases h
        · cases h
      · rename_i o hr
        simp only [hr]
        split at h
        · rename_i v A1 he
          split at h
          · rename_i hh; exact eI_sound hc he ⟨heldB_sound hh, ih h hk⟩
          · cases h
        · cases h
      · rename_i t b d o hr
        simp only [hr, gK]
        split at h
        · rename_i c hg
          simp only [hg]
          split at h
          · rename_i hcb
            rw [if_pos hcb]
            split at h
            · rename_i v A1 he
              split at h
              · rename_i hh; exact eI_sound hc he ⟨heldB_sound hh, ih h hk⟩
              · cases h
            · cases h
          · rename_i hcb
            rw [if_neg hcb]; exact ih h hk
        · rename_i hg
          split
          · rename_i c hg2; exact absurd hg2 (hg c)
          · exact ih h hk
      · rename_i t b o hr
        simp only [hr, gK]
        split at h
        · rename_i c hg
          simp only [hg]
          split at h
          · rename_i hcb
            rw [if_pos hcb]
            split at h
            · rename_i v A1 he
              split at h
              · rename_i hh; exact eI_sound hc he ⟨heldB_sound hh, ih h hk⟩
              · cases h
            · cases h
          · rename_i hcb
            rw [if_neg hcb]; exact ih h hk
        · rename_i hg
          split
          · rename_i c hg2; exact absurd hg2 (hg c)
          · exact ih h hk
      · cases h
    · cases h
/-! Code. -/
def eL (body : Env → AH → Option (Exit × Env × AH)) : Nat → Env → AH → Option (Exit × Env × AH)
  | 0, _, _ => none
  | n + 1, E, A => match body E A with | some (.normal, E', A') => eL body n E' A' | r => r
def eW (P : Program) (cf : CF) (fuel : Nat) : SC → Env → AH → Option (Exit × Env × AH)
  | .skip, E, A => some (.normal, E, A)
  | .exit id, E, A => some (.exit id, E, A)
  | .ret, E, A => some (.ret, E, A)
  | .seq x y, E, A => match eW P cf fuel x E A with | some (.normal, E', A') => eW P cf fuel y E' A' | r => r
  | .cond c x y, E, A => match ev E c with | .bool true => eW P cf fuel x E A | .bool false => eW P cf fuel y E A | _ => none
  | .block id c, E, A => match eW P cf fuel c E A with | some (.exit id', E', A') => if id' = id then some (.normal, E', A') else some (.exit id', E', A') | r => r
  | .loop c, E, A => eL (eW P cf fuel c) fuel E A
  | .reg l, E, A => (eO P cf l E A).map fun q => (.normal, q.1, q.2)
  | .draw l, E, A => (eD P cf l [] E A).map fun q => (.normal, q.1, q.2)
  | .bad, _, _ => none
theorem eL_sound {body : Env → AH → Option (Exit × Env × AH)} {sb : Env → AH → (Exit → Env → AH → Prop) → Prop} (hb : ∀ {E A ex E' A'} {Q : Exit → Env → AH → Prop}, body E A = some (ex, E', A') → Q ex E' A' → sb E A Q) {n : Nat} {E E' : Env} {A A' : AH} {ex : Exit} {Q : Exit → Env → AH → Prop} (h : eL body n E A = some (ex, E', A')) (hq : Q ex E' A') : SL sb E A Q := by
  refine ⟨fun k E1 A1 => eL body k E1 A1 = some (ex, E', A'), n, h, fun k E1 A1 _ _ h1 => ?_⟩
  cases k with
  | zero => simp [eL] at h1
  | succ k =>
    simp only [eL] at h1
    split at h1
    · rename_i E2 A2 he
      exact hb he ⟨k, Nat.lt_succ_self k, h1⟩
    · rename_i hne
      have hx : ex ≠ .normal := fun e => by rw [e] at h1; exact hne _ _ h1
      refine hb h1 ?_
      cases ex <;> first | exact hq | exact absurd rfl hx
theorem eW_sound {cf : CF} (hc : CFok P cf) {fuel : Nat} : ∀ (c : SC) {E E' : Env} {A A' : AH} {ex : Exit} {Q : Exit → Env → AH → Prop}, eW P cf fuel c E A = some (ex, E', A') → Q ex E' A' → SW P c E A Q := by
  intro c
  induction c with
  | skip => intro E E' A A' ex Q h hq; simp only [eW, Option.some.injEq, Prod.mk.injEq] at h; obtain ⟨rfl, rfl, rfl⟩ := h; exact hq
  | exit id => intro E E' A A' ex Q h hq; simp only [eW, Option.some.injEq, Prod.mk.injEq] at h; obtain ⟨rfl, rfl, rfl⟩ := h; exact hq
  | ret => intro E E' A A' ex Q h hq; simp only [eW, Option.some.injEq, Prod.mk.injEq] at h; obtain ⟨rfl, rfl, rfl⟩ := h; exact hq
  | bad => intro E E' A A' ex Q h hq; simp [eW] at h
  | seq x y ihx ihy =>
    intro E E' A A' ex Q h hq
    simp only [eW] at h
    simp only [SW]
    split at h
    · rename_i E1 A1 he
      exact ihx he (ihy h hq)
    · rename_i hne
      have hx : ex ≠ .normal := fun e => by rw [e] at h; exact hne _ _ h
      refine ihx h ?_
      cases ex <;> first | exact hq | exact absurd rfl hx
  | cond c x y ihx ihy =>
    intro E E' A A' ex Q h hq
    simp only [eW] at h
    simp only [SW, bK]
    split at h
    · rename_i hv; simp only [hv]; exact ihx h hq
    · rename_i hv; simp only [hv]; exact ihy h hq
    · cases h
  | block id c ih =>
    intro E E' A A' ex Q h hq
    simp only [eW] at h
    simp only [SW]
    split at h
    · rename_i id' E1 A1 he
      refine ih he ?_
      split at h
      · rename_i e
        simp only [Option.some.injEq, Prod.mk.injEq] at h; obtain ⟨rfl, rfl, rfl⟩ := h
        simp only [outOf, e, if_true]; exact hq
      · rename_i e
        simp only [Option.some.injEq, Prod.mk.injEq] at h; obtain ⟨rfl, rfl, rfl⟩ := h
        simp only [outOf, e, if_false]; exact hq
    · rename_i hne
      refine ih h ?_
      cases ex with
      | exit id' => exact absurd h (hne id' _ _)
      | _ => exact hq
  | loop c ih =>
    intro E E' A A' ex Q h hq
    simp only [eW] at h
    exact eL_sound (sb := SW P c) (fun he hq => ih he hq) h hq
  | reg l =>
    intro E E' A A' ex Q h hq
    simp only [eW, Option.map_eq_some_iff] at h
    obtain ⟨q, h1, h2⟩ := h
    simp only [Prod.mk.injEq] at h2; obtain ⟨rfl, rfl, rfl⟩ := h2
    exact eO_sound hc l h1 hq
  | draw l =>
    intro E E' A A' ex Q h hq
    simp only [eW, Option.map_eq_some_iff] at h
    obtain ⟨q, h1, h2⟩ := h
    simp only [Prod.mk.injEq] at h2; obtain ⟨rfl, rfl, rfl⟩ := h2
    exact eD_sound hc l h1 hq
/-- A function's code: its slots, the code, its results. -/
structure FC where
  n : Nat
  c : SC
  rs : List ResultVar
/-- Calls, so deep; ov: what is told of some calls beside. -/
def eF (P : Program) (tab : FuncId → Option FC) (ov : CF) (fuel : Nat) : Nat → CF
  | 0, _, _, _ => none
  | d + 1, f, as, A =>
    match ov f as A with
    | some r => some r
    | none => match tab f with
      | some t => if as.length ≤ t.n then (match eW P (eF P tab ov fuel d) fuel t.c (Env.of as 0) A with
        | some (.normal, E', A') => (aRes P E' A' t.rs).map fun l => (oneOf l, A')
        | some (.ret, E', A') => (aRes P E' A' t.rs).map fun l => (oneOf l, A')
        | _ => none) else none
      | none => none
def TabOk (P : Program) (tab : FuncId → Option FC) : Prop := ∀ f t, tab f = some t → CodeIs P f t.n t.c t.rs
theorem eF_sound {tab : FuncId → Option FC} {ov : CF} (ht : TabOk P tab) (ho : CFok P ov) (fuel : Nat) : ∀ d, CFok P (eF P tab ov fuel d) := by
  intro d
  induction d with
  | zero => intro f as A v A' h; simp [eF] at h
  | succ d ih =>
    intro f as A v A' h
    simp only [eF] at h
    split at h
    · rename_i r hr
      simp only [Option.some.injEq] at h; subst h
      exact ho _ _ _ _ _ hr
    · split at h
      · rename_i t hft
        split at h
        · rename_i hlen
          refine (ht f t hft).call hlen fun _ => ?_
          split at h
          · rename_i E1 A1 he
            refine eW_sound ih t.c he ?_
            obtain ⟨l, hl, h2⟩ := Option.map_eq_some_iff.1 h
            simp only [Prod.mk.injEq] at h2; obtain ⟨rfl, rfl⟩ := h2
            show oK (aRes P E1 A1 t.rs) _
            rw [hl]; exact ⟨rfl, rfl⟩
          · rename_i E1 A1 he
            refine eW_sound ih t.c he ?_
            obtain ⟨l, hl, h2⟩ := Option.map_eq_some_iff.1 h
            simp only [Prod.mk.injEq] at h2; obtain ⟨rfl, rfl⟩ := h2
            show oK (aRes P E1 A1 t.rs) _
            rw [hl]; exact ⟨rfl, rfl⟩
          · cases h
        · cases h
      · cases h
def emptyH : AH := ⟨0, .lf⟩
theorem emptyH_get (b : Nat) : emptyH.get b = none := rfl
theorem emptyH_rel (W : World) : Rel P (fun _ => none) emptyH W :=
  ⟨fun b x h => (by rw [emptyH_get] at h; cases h), fun b c p q x y h => (by rw [emptyH_get] at h; cases h), fun b _ => ⟨rfl, rfl⟩, fun b p h => (by cases h)⟩
/-- A value that is the same everywhere. -/
def plainB : Value → Bool
  | .bool _ => true
  | .int _ _ => true
  | .pointer none => true
  | .slice none _ c => decide (c ≠ UNK)
  | .nilFunc => true
  | _ => false
theorem plainB_rel {m m' : Mp} {v v' : Value} (h : plainB v = true) (hr : VRel m v v') : VRel m' v v' := by
  cases hr with
  | bool b => exact .bool _
  | int k n => exact .int _ _
  | pnil => exact .pnil
  | snil n c hc => exact .snil _ _ hc
  | nilFunc => exact .nilFunc
  | _ => cases h
/-- What a call answers with no memory before it, it answers everywhere; and it leaves what was there. -/
theorem ACall.frame {f : FuncId} {as : List Value} {v : Value} (h : ∃ A', ACall P f as emptyH fun x B => x = v ∧ B = A') (ha : as.all plainB = true) (hv : plainB v = true) (A : AH) : ACall P f as A fun x B => x = v ∧ B = A := by
  obtain ⟨A1, h⟩ := h
  intro m w args' hR hl
  have hl0 : LRel (fun _ => none) as args'.toList := ⟨hl.1, fun i u u' h1 h2 => plainB_rel (List.all_eq_true.1 ha u (List.mem_of_getElem? h1)) (hl.2 i u u' h1 h2)⟩
  have key : ∀ (w' : World) (x x' : Value) (B : AH) (m' : Mp), (x = v ∧ B = A1) → Rel P m' B w' → VRel m' x x' → Step (fun _ => none) emptyH w m' B w' → Rel P m A w' ∧ VRel m v x' ∧ Step m A w m A w' := by
    intro w' x x' B m' ⟨e1, e2⟩ hB hx hs
    subst e1
    have hkeep : ∀ k, k < w.heap.size → w'.heap[k]? = w.heap[k]? := fun k hk => hs.keep k hk fun ⟨b, p, y, hb, _⟩ => by rw [emptyH_get] at hb; cases hb
    refine ⟨⟨fun b y hb => ?_, hR.apart, hR.fresh, fun b p hp => Nat.lt_of_lt_of_le (hR.low b p hp) hs.size⟩, plainB_rel hv hx, ⟨m.le_refl, Nat.le_refl _, hs.size, fun k hk _ => hkeep k hk, fun _ _ h => h, hs.os, hs.tape, hs.output, fun _ _ => rfl, fun _ _ h _ => h⟩⟩
    have hh := hR.held b y hb
    cases y with
    | row cs E ro =>
      obtain ⟨p, cur, fr, h1, h2, h3⟩ := hh
      exact ⟨p, cur, fr, h1, by rw [hkeep _ (hR.low b p h1)]; exact h2, h3⟩
    | mp es =>
      obtain ⟨p, ents, clk, h1, h2, h3⟩ := hh
      exact ⟨p, ents, clk, h1, by rw [hkeep _ (hR.low b p h1)]; exact h2, h3⟩
  rcases h (fun _ => none) w args' (emptyH_rel w) hl0 with ⟨h1, h2⟩ | ⟨v', w', h1, x, B, m', h2, h3, h4, h5⟩
  · refine Or.inl ⟨h1, h2.mono fun e w' ⟨x, x', B, m', he, h3, h4, h5, h6⟩ => ?_⟩
    obtain ⟨k1, k2, k3⟩ := key w' x x' B m' h3 h4 h5 h6
    exact ⟨v, x', A, m, he, ⟨rfl, rfl⟩, k1, k2, k3⟩
  · obtain ⟨k1, k2, k3⟩ := key w' x v' B m' h2 h3 h4 h5
    exact Or.inr ⟨v', w', h1, v, A, m, ⟨rfl, rfl⟩, k1, k2, k3⟩
/-- A closed call, reckoned. -/
theorem ACall.reckon {tab : FuncId → Option FC} {ov : CF} (ht : TabOk P tab) (ho : CFok P ov) (fuel d : Nat) {f : FuncId} {as : List Value} {v : Value} (h : ((eF P tab ov fuel d f as emptyH).map fun q => cEq q.1 v) = some true) (ha : as.all plainB = true) (hv : plainB v = true) (A : AH) : ACall P f as A fun x B => x = v ∧ B = A := by
  obtain ⟨⟨x, B⟩, h1, h2⟩ := Option.map_eq_some_iff.1 h
  have := cEq_sound h2
  simp only at this
  subst this
  exact ACall.frame ⟨B, eF_sound ht ho fuel d _ _ _ _ _ h1⟩ ha hv A
end Go.AI
