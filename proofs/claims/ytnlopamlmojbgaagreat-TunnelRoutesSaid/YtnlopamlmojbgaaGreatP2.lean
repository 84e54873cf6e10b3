/-
  A way to reckon with memory, sound for calls of the model: named blocks, operations over them, rules for code.
-/
import Derived.Test.YtnlopamlmojbgaaGreatP1
import Derived.Lib.Overlaps
import Derived.ChangeArms
import Derived.DataReads
import Derived.SizedLaws
import Derived.Deep.Slices
import Derived.OpenShut
set_option linter.unusedSimpArgs false
set_option linter.unusedVariables false
/- AIs: drawn regions: whatever the order, the same comes of it. -/
namespace Go.AI
open Go Go.RowKit
variable {P : Program}
theorem fold_bit (acc : Array Nat) (j : Nat) : ∀ (es : List Edge) (s : Nat), (es.foldl (fun s e => if Region.binds .any e then s ||| 2 ^ e.on ||| acc.getD e.on 0 else s) s).testBit j = true →
    s.testBit j = true ∨ ∃ e ∈ es, Region.binds .any e = true ∧ (e.on = j ∨ (acc.getD e.on 0).testBit j = true)
  | [], s, h => .inl h
  | e :: es, s, h => by
    simp only [List.foldl_cons] at h
    rcases fold_bit acc j es _ h with h' | ⟨x, hx, hb⟩
    · split at h'
      · rename_i hb
        rw [Nat.testBit_or, Nat.testBit_or] at h'
        simp only [Bool.or_eq_true] at h'
        rcases h' with (h' | h') | h'
        · exact .inl h'
        · rw [Nat.testBit_two_pow] at h'
          exact .inr ⟨e, by simp, hb, .inl (by simpa using h')⟩
        · exact .inr ⟨e, by simp, hb, .inr h'⟩
      · exact .inl h'
    · exact .inr ⟨x, by simp [hx], hb⟩
theorem pred_closed {ops : Array Oper} {S : Nat → Prop} (hS : ∀ (i : Nat) o e, ops[i]? = some o → S i → e ∈ o.after.toList → Region.binds .any e = true → S e.on) {i j : Nat} (h : isPred (preds ops) j i = true) (hi : S i) : S j := by
  have key : (preds ops).size = ops.size ∧ ∀ i < ops.size, ∀ j, ((preds ops).getD i 0).testBit j = true → S i → S j := by
    unfold preds Region.before
    refine Array.foldl_induction (motive := fun k (acc : Array Nat) => acc.size = k ∧ ∀ i < k, ∀ j, (acc.getD i 0).testBit j = true → S i → S j) ⟨rfl, fun i hi => by omega⟩ ?_
    intro k acc ⟨hsz, hacc⟩
    refine ⟨by simp [hsz], fun i hi j hb hSi => ?_⟩
    by_cases hik : i < k
    · refine hacc i hik j ?_ hSi
      simpa [Array.getD_eq_getD_getElem?, Array.getElem?_push, show ¬ i = acc.size by omega] using hb
    · have hik : i = k := by omega
      rw [Array.getD_eq_getD_getElem?, Array.getElem?_push, if_pos (by omega)] at hb
      simp only [Option.getD_some] at hb
      rw [← Array.foldl_toList] at hb
      rcases fold_bit acc j _ 0 hb with h0 | ⟨e, he, hbe, hor⟩
      · simp at h0
      · have hops : ops[i]? = some ops[k] := by
          have : ∀ n, n = k.1 → ops[n]? = some ops[k] := fun n e => by subst e; exact Array.getElem?_eq_getElem k.2
          exact this i hik
        have hSe := hS i _ e hops hSi he hbe
        rcases hor with rfl | hb2
        · exact hSe
        · by_cases hlt : e.on < k
          · exact hacc e.on hlt j hb2 hSe
          · rw [Array.getD_eq_getD_getElem?, Array.getElem?_eq_none (by omega)] at hb2
            simp at hb2
  by_cases hlt : i < ops.size
  · exact key.2 i hlt j h hi
  · unfold isPred at h
    rw [Array.getD_eq_getD_getElem?, Array.getElem?_eq_none (by omega)] at h
    simp at h
/-- What is known of reads that were made early is known still. -/
def heldP (P : Program) (ops : Array Oper) (A : AH) (held : List Nat) : List (Nat × Env × Value) → Prop
  | [] => True
  | r :: rs => (if held.contains r.1 then (match ops[r.1]? with | some o => aOp P r.2.1 o A = some (r.2.2, A) | none => True) else True) ∧ heldP P ops A held rs
/-- What may be made early can be made. -/
def floP (P : Program) (ops : Array Oper) (E : Env) (A : AH) : List Nat → Prop
  | [] => True
  | f :: fs => (match ops[f]? with | some o => wantedA ops E o = true → (aOp P E o A).isSome = true | none => True) ∧ floP P ops E A fs
def ADraw (P : Program) (ops : Array Oper) : List Pn → List (Nat × Env × Value) → Env → AH → (Env → AH → Prop) → Prop
  | [], _, E, A, K => K E A
  | p :: ps, H, E, A, K =>
    match ops[p.i]? with
    | none => False
    | some o =>
      floP P ops E A p.flo ∧
      if wantedA ops E o = true then AStep P E o A fun v A' => heldP P ops A' p.held H ∧ ADraw P ops ps (if p.keep then (p.i, E, v) :: H else H) (E.put o.dst v) A' K
      else ADraw P ops ps H (E.put o.dst undef) A K
/-- What has been gone through. -/
structure TR where
  i : Nat
  o : Oper
  E : Env
  wt : Bool
  v : Value
  al : Option (Nat × Blk)
def look (T : List TR) (t : Nat) (d : Value) : Value := T.foldl (fun x r => if r.o.dst = some t then r.v else x) d
theorem look_snoc (T : List TR) (r : TR) (t : Nat) (d : Value) : look (T ++ [r]) t d = if r.o.dst = some t then r.v else look T t d := by simp [look]
theorem look_none : ∀ (T : List TR) (t : Nat) (d : Value), (∀ r ∈ T, r.o.dst ≠ some t) → look T t d = d
  | [], t, d, _ => rfl
  | r :: T, t, d, h => by
    simp only [look, List.foldl_cons]
    rw [if_neg (h r (by simp))]
    exact look_none T t d (fun s hs => h s (by simp [hs]))
theorem look_some : ∀ (T : List TR) (t : Nat) (d : Value) (r : TR), r ∈ T → r.o.dst = some t → (∀ s ∈ T, s.o.dst = some t → s.v = r.v) → look T t d = r.v
  | [], t, d, r, h, _, _ => by cases h
  | s :: T, t, d, r, h, hd, hu => by
    simp only [look, List.foldl_cons]
    by_cases hex : ∃ q ∈ T, q.o.dst = some t
    · obtain ⟨q, hq, hqd⟩ := hex
      have := look_some T t (if s.o.dst = some t then s.v else d) q hq hqd (fun u hu' hud => (hu u (by simp [hu']) hud).trans (hu q (by simp [hq]) hqd).symm)
      exact this.trans (hu q (by simp [hq]) hqd)
    · have hne : ∀ u ∈ T, u.o.dst ≠ some t := fun u hu' e => hex ⟨u, hu', e⟩
      have := look_none T t (if s.o.dst = some t then s.v else d) hne
      simp only [look] at this
      rw [this]
      have hrs : r = s := by
        rcases List.mem_cons.1 h with e | e
        · exact e
        · exact absurd hd (hne r e)
      rw [← hrs, if_pos hd]
/-- What a right plan says of its next entry. -/
structure PlanC (ops : Array Oper) (done kept : List Nat) (p : Pn) (ps : List Pn) (o : Oper) : Prop where
  nd : p.i ∉ done
  edges : ∀ e ∈ o.after.toList, Region.binds .any e = true → e.on ∈ done
  prs : ∀ j, j < ops.size → isPred (preds ops) j p.i = true → j ∈ done
  guard : ∀ j want, o.guard = some (j, want) → isPred (preds ops) j p.i = true
  slots : ∀ (j : Nat) o' d, ops[j]? = some o' → j ≠ p.i → o'.dst = some d → (d ∈ o.looksAt ops → isPred (preds ops) j p.i = true ∨ isPred (preds ops) p.i j = true) ∧ o.dst ≠ some d
  act : clOf o = .act → (∀ q ∈ done, clOf (ops.getD q default) = .rd ∨ isPred (preds ops) q p.i = true) ∧
    (∀ q ∈ done, clOf (ops.getD q default) = .rd → looks (ops.getD q default) = true → isPred (preds ops) q p.i = true ∨ (q ∈ p.held ∧ q ∈ kept)) ∧
    (∀ q ∈ ps, clOf (ops.getD q.i default) = .al → isPred (preds ops) p.i q.i = true ∨ (q.i ∈ p.flo ∧ ∀ j, j < ops.size → isPred (preds ops) j q.i = true → j ∈ done))
  rd : clOf o = .rd → ∀ a ∈ done, clOf (ops.getD a default) = .act → isPred (preds ops) a p.i = true
  al : clOf o = .al → o.dst.isSome = true
  next : planGo ops (preds ops) (done ++ [p.i]) (if p.keep then kept ++ [p.i] else kept) ps = true
theorem plan_lt {ops : Array Oper} {done kept : List Nat} {p : Pn} {ps : List Pn} (h : planGo ops (preds ops) done kept (p :: ps) = true) : p.i < ops.size := by
  simp only [planGo, Bool.and_eq_true, decide_eq_true_eq] at h
  exact h.1.1.1.1.1.1.1
theorem getD_of {ops : Array Oper} {i : Nat} {o : Oper} (h : ops[i]? = some o) : ops.getD i default = o := by simp [Array.getD_eq_getD_getElem?, h]
theorem plan_cons {ops : Array Oper} {done kept : List Nat} {p : Pn} {ps : List Pn} {o : Oper} (ho : ops[p.i]? = some o) (h : planGo ops (preds ops) done kept (p :: ps) = true) : PlanC ops done kept p ps o := by
  simp only [planGo, Bool.and_eq_true, decide_eq_true_eq, getD_of ho] at h
  obtain ⟨⟨⟨⟨⟨⟨⟨_, h1⟩, h2⟩, h3⟩, h4⟩, h5⟩, h6⟩, h7⟩ := h
  refine ⟨by simpa using h1, fun e he hb => ?_, fun j hj hp => ?_, fun j want hg => ?_, fun j o' d ho' hne hd => ?_, fun hc => ?_, fun hc => ?_, fun hc => ?_, h7⟩
  · have := List.all_eq_true.1 h2 e he
    simpa [hb] using this
  · have := List.all_eq_true.1 h3 j (List.mem_range.2 hj)
    simpa [hp] using this
  · rw [hg] at h4
    simp only [Bool.and_eq_true] at h4
    exact h4.1
  · have hj : j < ops.size := (Array.getElem?_eq_some_iff.1 ho').1
    have := List.all_eq_true.1 h5 j (List.mem_range.2 hj)
    rw [getD_of ho', hd] at this
    simp only [Bool.or_eq_true, beq_iff_eq, Bool.and_eq_true, Bool.not_eq_true', bne_iff_ne, ne_eq] at this
    rcases this with e | ⟨e1, e2⟩
    · exact absurd e hne
    · refine ⟨fun hin => ?_, e2⟩
      rcases e1 with (e | e) | e
      · rw [List.contains_iff_mem.2 hin] at e; cases e
      · exact .inl e
      · exact .inr e
  · rw [hc] at h6
    simp only [Bool.and_eq_true, List.all_eq_true, Bool.or_eq_true, beq_iff_eq, Bool.not_eq_true'] at h6
    obtain ⟨⟨g1, g2⟩, g3⟩ := h6
    refine ⟨g1, fun q hq hr hl => ?_, fun q hq ha => ?_⟩
    · rcases g2 q hq with (e | e) | e
      · rw [hr, hl] at e; exact absurd e (by decide)
      · exact .inl e
      · exact .inr (by simpa using e)
    · rcases g3 q hq with (e | e) | e
      · rw [ha] at e; exact absurd e (by decide)
      · exact .inl e
      · refine .inr ⟨by simpa using e.1, fun j hj hp => ?_⟩
        have := e.2 j (List.mem_range.2 hj)
        simpa [hp] using this
  · rw [hc] at h6
    intro a ha hca
    have := List.all_eq_true.1 h6 a ha
    rw [hca] at this
    simpa using this
  · rw [hc] at h6; exact h6
/-- The trace: nothing of the world in it. -/
structure Trc (P : Program) (ops : Array Oper) (E0 : Env) (A0 : AH) (Q : Env → AH → Prop) (T : List TR) (kept : List Nat) (rest : List Pn) (H : List (Nat × Env × Value)) (E : Env) (A : AH) : Prop where
  plan : planGo ops (preds ops) (T.map (·.i)) kept rest = true
  tops : ∀ r ∈ T, ops[r.i]? = some r.o
  env : ∀ t, E.get t = look T t (E0.get t)
  envs : ∀ T1 r T2, T = T1 ++ r :: T2 → ∀ t, r.E.get t = look T1 t (E0.get t)
  pcs : ∀ T1 r T2, T = T1 ++ r :: T2 → ∃ kept p ps, p.i = r.i ∧ PlanC ops (T1.map (·.i)) kept p ps r.o
  wants : ∀ r ∈ T, r.wt = wantedA ops r.E r.o
  unw : ∀ r ∈ T, r.wt = false → r.v = undef ∧ r.al = none
  nal : ∀ r ∈ T, clOf r.o ≠ .al → r.al = none
  als : ∀ r ∈ T, clOf r.o = .al → r.wt = true → ∃ vf x id, MK P r.E r.o vf x ∧ r.v = vf id ∧ r.al = some (id, x)
  ids : ∀ r ∈ T, ∀ q, r.al = some q → A0.next ≤ q.1 ∧ q.1 < A.next
  uniq : ∀ r ∈ T, ∀ s ∈ T, ∀ q q', r.al = some q → s.al = some q' → q.1 = q'.1 → r.i = s.i
  hold : ∀ r ∈ T, r.i ∈ kept → r.wt = true → (r.i, r.E, r.v) ∈ H
  keptT : ∀ i ∈ kept, i ∈ T.map (·.i)
  draw : ADraw P ops rest H E A Q
  nodup : (T.map (·.i)).Nodup
  nx : A0.next ≤ A.next
theorem snoc_split {α : Type} {T T1 T2 : List α} {r s : α} (h : T ++ [r] = T1 ++ s :: T2) : (T1 = T ∧ s = r ∧ T2 = []) ∨ ∃ T3, T2 = T3 ++ [r] ∧ T = T1 ++ s :: T3 := by
  rcases List.eq_nil_or_concat T2 with rfl | ⟨T3, z, rfl⟩
  · have := List.append_inj' h rfl
    obtain ⟨h1, h2⟩ := this
    injection h2 with h2
    exact .inl ⟨h1.symm, h2.symm, rfl⟩
  · have h' : T ++ [r] = (T1 ++ s :: T3) ++ [z] := by simpa using h
    have := List.append_inj' h' rfl
    obtain ⟨h1, h2⟩ := this
    injection h2 with h2
    subst h2
    exact .inr ⟨T3, by simp, h1⟩
/-- One more has been gone through. -/
theorem Trc.snoc {ops : Array Oper} {E0 : Env} {A0 : AH} {Q : Env → AH → Prop} {T : List TR} {kept : List Nat} {p : Pn} {ps : List Pn} {H H' : List (Nat × Env × Value)} {E : Env} {A A' : AH} (h : Trc P ops E0 A0 Q T kept (p :: ps) H E A) {o : Oper} (ho : ops[p.i]? = some o)
    {wt : Bool} {v : Value} {al : Option (Nat × Blk)} (hwt : wt = wantedA ops E o) (hun : wt = false → v = undef ∧ al = none) (hnal : clOf o ≠ .al → al = none) (hals : clOf o = .al → wt = true → ∃ vf x id, MK P E o vf x ∧ v = vf id ∧ al = some (id, x))
    (hid : ∀ q, al = some q → A.next ≤ q.1 ∧ q.1 < A'.next) (hn : A.next ≤ A'.next) (hH : wt = true → H' = if p.keep then (p.i, E, v) :: H else H) (hH' : wt = false → H' = H) (hd : ADraw P ops ps H' (E.put o.dst v) A' Q) :
    Trc P ops E0 A0 Q (T ++ [⟨p.i, o, E, wt, v, al⟩]) (if p.keep then kept ++ [p.i] else kept) ps H' (E.put o.dst v) A' := by
  have pc := plan_cons ho h.plan
  have mem : ∀ {s : TR}, s ∈ T ++ [⟨p.i, o, E, wt, v, al⟩] → s ∈ T ∨ s = ⟨p.i, o, E, wt, v, al⟩ := fun hs => by simpa using hs
  have hidx : ∀ s ∈ T, s.i ≠ p.i := fun s hs e => pc.nd (by rw [← e]; exact List.mem_map.2 ⟨s, hs, rfl⟩)
  have hsub : ∀ x, x ∈ H → x ∈ H' := by
    intro x hx
    cases hw : wt with
    | true => rw [hH hw]; split
              · exact List.mem_cons_of_mem _ hx
              · exact hx
    | false => rw [hH' hw]; exact hx
  refine ⟨by rw [List.map_append]; exact pc.next, fun r hr => ?_, fun t => ?_, fun T1 r T2 e t => ?_, fun T1 r T2 e => ?_, fun r hr => ?_, fun r hr => ?_, fun r hr => ?_, fun r hr => ?_, fun r hr q hq => ?_, fun r hr s hs q q' hq hq' e => ?_, fun r hr hk hw => ?_, fun i hi => ?_, hd, ?_, Nat.le_trans h.nx hn⟩
  · rcases mem hr with hr | rfl
    · exact h.tops r hr
    · exact ho
  · rw [look_snoc]
    simp only []
    cases hdst : o.dst with
    | none => simp only [Env.put]; rw [if_neg (by simp)]; exact h.env t
    | some d =>
      simp only [Env.put, Env.get_set]
      by_cases e : t = d
      · subst e; simp
      · rw [if_neg e, if_neg (by intro h'; injection h' with h'; exact e h'.symm)]; exact h.env t
  · rcases snoc_split e with ⟨rfl, rfl, rfl⟩ | ⟨T3, rfl, e'⟩
    · exact h.env t
    · exact h.envs T1 r T3 e' t
  · rcases snoc_split e with ⟨rfl, rfl, rfl⟩ | ⟨T3, rfl, e'⟩
    · exact ⟨kept, p, ps, rfl, pc⟩
    · exact h.pcs T1 r T3 e'
  · rcases mem hr with hr | rfl
    · exact h.wants r hr
    · exact hwt
  · rcases mem hr with hr | rfl
    · exact h.unw r hr
    · exact hun
  · rcases mem hr with hr | rfl
    · exact h.nal r hr
    · exact hnal
  · rcases mem hr with hr | rfl
    · exact h.als r hr
    · exact hals
  · rcases mem hr with hr | rfl
    · have := h.ids r hr q hq; omega
    · have := hid q hq; have := h.nx; omega
  · rcases mem hr with hr | rfl
    · rcases mem hs with hs | rfl
      · exact h.uniq r hr s hs q q' hq hq' e
      · have := h.ids r hr q hq; have := hid q' hq'; omega
    · rcases mem hs with hs | rfl
      · have := h.ids s hs q' hq'; have := hid q hq; omega
      · rfl
  · rcases mem hr with hr | rfl
    · refine hsub _ (h.hold r hr ?_ hw)
      split at hk
      · rcases List.mem_append.1 hk with hk | hk
        · exact hk
        · exact absurd (List.mem_singleton.1 hk) (hidx r hr)
      · exact hk
    · rw [hH hw]
      split at hk
      · rename_i hkeep; rw [if_pos hkeep]; exact List.mem_cons_self
      · have := h.keptT _ hk; exact absurd this pc.nd
  · rw [List.map_append]
    split at hi
    · rcases List.mem_append.1 hi with hi | hi
      · exact List.mem_append.2 (.inl (h.keptT i hi))
      · exact List.mem_append.2 (.inr (by simpa using hi))
    · exact List.mem_append.2 (.inl (h.keptT i hi))
  · rw [List.map_append, List.nodup_append]
    refine ⟨h.nodup, by simp, fun a ha b hb e => ?_⟩
    simp only [List.map_cons, List.map_nil, List.mem_singleton] at hb
    subst hb e
    exact pc.nd ha
end Go.AI
/- AIt: drawn regions, the world's part. -/
namespace Go.AI
open Go Go.RowKit
variable {P : Program}
theorem ev_congr {ops : Array Oper} {o : Oper} {E E' : Env} (h : ∀ t ∈ o.looksAt ops, E'.get t = E.get t) : ∀ x ∈ o.op.operands, ev E' x = ev E x := by
  intro x hx
  cases x with
  | tmp t => exact h t (by simp only [Oper.looksAt]; exact List.mem_append.2 (.inl (List.mem_filterMap.2 ⟨.tmp t, Array.mem_def.1 hx, rfl⟩)))
  | _ => rfl
theorem aOp_congr {o : Oper} {E E' : Env} (h : ∀ x ∈ o.op.operands, ev E' x = ev E x) (A : AH) : aOp P E' o A = aOp P E o A := by
  have hl : ∀ xs : List Operand, (∀ x ∈ xs, x ∈ o.op.operands) → xs.map (ev E') = xs.map (ev E) := fun xs hx => List.map_congr_left fun x hm => h x (hx x hm)
  have ho : ∀ x : Option Operand, (∀ y, x = some y → y ∈ o.op.operands) → x.map (ev E') = x.map (ev E) := fun x hx => by
    cases x with
    | none => rfl
    | some y => simp [h y (hx y rfl)]
  have hp : ∀ xs : List (Nat × Operand), (∀ p ∈ xs, p.2 ∈ o.op.operands) → (xs.map fun p => (p.1, ev E' p.2)) = xs.map fun p => (p.1, ev E p.2) := fun xs hx => List.map_congr_left fun p hm => by rw [h p.2 (hx p hm)]
  unfold aOp
  cases hop : o.op with
  | move x => simp only [hop] at h; simp only [h x (by simp [Op.operands])]
  | assign x => simp only [hop] at h; simp only [h x (by simp [Op.operands])]
  | pick c a b => simp only [hop] at h; simp only [h c (by simp [Op.operands]), h a (by simp [Op.operands]), h b (by simp [Op.operands])]
  | alloc T => rfl
  | box T x => simp only [hop] at h; simp only [h x (by simp [Op.operands])]
  | build T ps => simp only [hop] at hp; simp only [hp ps.toList (fun p hm => by simp [Op.operands]; exact ⟨p.1, Array.mem_def.2 hm⟩)]
  | buildSlice T n ps => simp only [hop] at hp; simp only [hp ps.toList (fun p hm => by simp [Op.operands]; exact ⟨p.1, Array.mem_def.2 hm⟩)]
  | load T x => simp only [hop] at h; simp only [h x (by simp [Op.operands])]
  | store T a x => simp only [hop] at h; simp only [h a (by simp [Op.operands]), h x (by simp [Op.operands])]
  | nilCheck x => simp only [hop] at h; simp only [h x (by simp [Op.operands])]
  | binOp op T x y yT => simp only [hop] at h; simp only [h x (by simp [Op.operands]), h y (by simp [Op.operands])]
  | unOp op T x => simp only [hop] at h; simp only [h x (by simp [Op.operands])]
  | convert s d x => simp only [hop] at h; simp only [h x (by simp [Op.operands])]
  | makeFunc fn q c =>
    simp only [hop] at hl
    have e1 : q.map (ev E') = q.map (ev E) := Array.toList_inj.1 (by simpa using hl q.toList fun x hm => by simp [Op.operands]; exact .inl (Array.mem_def.2 hm))
    have e2 : c.map (ev E') = c.map (ev E) := Array.toList_inj.1 (by simpa using hl c.toList fun x hm => by simp [Op.operands]; exact .inr (Array.mem_def.2 hm))
    simp only [e1, e2]
  | makeMap T r => cases r <;> rfl
  | makeSlice T l c => simp only [hop] at h; simp only [h l (by simp [Op.operands]), h c (by simp [Op.operands])]
  | slice T x lo hi mx =>
    simp only [hop] at h ho
    simp only [h x (by simp [Op.operands]), ho lo (fun y e => by subst e; simp [Op.operands]), ho hi (fun y e => by subst e; simp [Op.operands]), ho mx (fun y e => by subst e; simp [Op.operands])]
  | fieldAddr S x f => simp only [hop] at h; simp only [h x (by simp [Op.operands])]
  | field S x f => simp only [hop] at h; simp only [h x (by simp [Op.operands])]
  | indexAddr T x i => simp only [hop] at h; simp only [h x (by simp [Op.operands]), h i (by simp [Op.operands])]
  | index T x i => simp only [hop] at h; simp only [h x (by simp [Op.operands]), h i (by simp [Op.operands])]
  | lookup T x k ok => simp only [hop] at h; simp only [h x (by simp [Op.operands]), h k (by simp [Op.operands])]
  | mapUpdate T x k v => simp only [hop] at h; simp only [h x (by simp [Op.operands]), h k (by simp [Op.operands]), h v (by simp [Op.operands])]
  | insert T x k v => simp only [hop] at h; simp only [h x (by simp [Op.operands]), h k (by simp [Op.operands]), h v (by simp [Op.operands])]
  | extract x i => simp only [hop] at h; simp only [h x (by simp [Op.operands])]
  | makeInterface T x => simp only [hop] at h; simp only [h x (by simp [Op.operands])]
  | typeAssert x xT T ok => simp only [hop] at h; simp only [h x (by simp [Op.operands])]
  | call c =>
    simp only [hop] at hl
    simp only [hl c.args.toList (fun x hm => by simp [Op.operands, Call.operands]; exact .inr (Array.mem_def.2 hm))]
  | _ => rfl
theorem wantedA_congr {ops : Array Oper} {o : Oper} {E E' : Env} (h : ∀ t ∈ o.looksAt ops, E'.get t = E.get t) : wantedA ops E' o = wantedA ops E o := by
  unfold wantedA
  cases hg : o.guard with
  | none => rfl
  | some p =>
    obtain ⟨j, want⟩ := p
    simp only []
    cases hd : (ops[j]?).bind (·.dst) with
    | none => rfl
    | some d =>
      simp only []
      rw [h d (by simp [Oper.looksAt, hg, hd])]
theorem MK_congr {ops : Array Oper} {o : Oper} {E E' : Env} (h : ∀ t ∈ o.looksAt ops, E'.get t = E.get t) {vf : Nat → Value} {x : Blk} (hm : MK P E o vf x) : MK P E' o vf x := fun A => by rw [aOp_congr (ev_congr h)]; exact hm A
/-- A heap with a later next name. -/
theorem Rel.bump {m : Mp} {A A' : AH} {w : World} (h : Rel P m A w) (hg : ∀ b, A'.get b = A.get b) (hn : A.next ≤ A'.next) : Rel P m A' w :=
  ⟨fun b x hb => h.held b x (by rw [← hg]; exact hb), fun b c p q x y hb hc => h.apart b c p q x y (by rw [← hg]; exact hb) (by rw [← hg]; exact hc), fun b hb => by rw [hg]; exact h.fresh b (Nat.le_trans hn hb), h.low⟩
theorem Step.bump {m m' : Mp} {A A1 A2 : AH} {w w' : World} (h : Step m A w m' A1 w') (hg : ∀ b, A2.get b = A1.get b) (hn : A1.next ≤ A2.next) : Step m A w m' A2 w' :=
  ⟨h.mono, Nat.le_trans h.nx hn, h.size, h.keep, fun k hk hi => h.img k hk (hi.ext hg), h.os, h.tape, h.output, h.old, fun b x hb hx => h.ros b x (by rw [← hg]; exact hb) hx⟩
/-- What lies ready for an operation that was made early. -/
def Raw (P : Program) (w0 : World) (m : Mp) (AD : AH) (w : World) (E : Env) (o : Oper) (v' : Value) (k : Nat) : Prop :=
  ∃ vf x ob, MK P E o vf x ∧ w.heap[k]? = some ob ∧ BRel m x ob ∧ w0.heap.size ≤ k ∧ (∀ (m2 : Mp) id, m2 id = some (plOf P k ob) → VRel m2 (vf id) v') ∧ ∀ c y q, AD.get c = some y → m c = some q → q.b ≠ k
structure Cnc (P : Program) (ops : Array Oper) (n : Nat) (m0 : Mp) (A0 : AH) (w0 : World) (E0 : Env) (L : Nat → Prop) (T : List TR) (rest : List Pn) (E : Env) (A : AH) (m : Mp) (AD : AH) (a : Act) (w : World) (rk : Nat → Nat) : Prop where
  closed : ∀ (i : Nat) o e, ops[i]? = some o → L i → e ∈ o.after.toList → Region.binds .any e = true → L e.on
  lt : ∀ i, L i → i < ops.size
  acts : ∀ r ∈ T, clOf r.o = .act → L r.i
  rests : ∀ p ∈ rest, L p.i → ∀ o, ops[p.i]? = some o → clOf o = .al
  rpr : ∀ p ∈ rest, L p.i → ∀ j, j < ops.size → isPred (preds ops) j p.i = true → j ∈ T.map (·.i)
  adn : AD.next = A.next
  hid : ∀ r ∈ T, ∀ q, r.al = some q → ¬ L r.i → AD.get q.1 = none ∧ m q.1 = none
  vis : ∀ b, (∀ r ∈ T, ∀ q, r.al = some q → q.1 = b → L r.i) → AD.get b = A.get b
  blk : ∀ r ∈ T, ∀ q, r.al = some q → ¬ L r.i → A.get q.1 = some q.2
  rel : Rel P m AD w
  stp : Step m0 A0 w0 m AD w
  size : a.tmps.size = n
  defers : a.defers = []
  vals : ∀ r ∈ T, L r.i → ∀ d, r.o.dst = some d → VRel m r.v (a.tmps.getD d undef)
  old : ∀ t, (∀ (j : Nat) o, ops[j]? = some o → o.dst = some t → ¬ L j) → VRel m (E0.get t) (a.tmps.getD t undef)
  rds : ∀ r ∈ T, ¬ L r.i → clOf r.o = .rd → r.wt = true → ∃ A1, (∀ b x, A1.get b = some x → A.get b = some x) ∧ aOp P r.E r.o A1 = some (r.v, A1)
  raws : ∀ p ∈ rest, L p.i → ∀ o d, ops[p.i]? = some o → o.dst = some d → (wantedA ops E o = false ∧ a.tmps.getD d undef = undef) ∨ (wantedA ops E o = true ∧ Raw P w0 m AD w E o (a.tmps.getD d undef) (rk p.i))
  rkd : ∀ p ∈ rest, ∀ q ∈ rest, L p.i → L q.i → p.i ≠ q.i → ∀ o o', ops[p.i]? = some o → ops[q.i]? = some o' → wantedA ops E o = true → wantedA ops E o' = true → rk p.i ≠ rk q.i
theorem plan_rest {ops : Array Oper} : ∀ (rest : List Pn) (done kept : List Nat), planGo ops (preds ops) done kept rest = true → (∀ p ∈ rest, p.i ∉ done ∧ p.i < ops.size) ∧ rest.Pairwise (fun p q => p.i ≠ q.i) ∧ ∀ i, i < ops.size → i ∈ done ∨ ∃ p ∈ rest, p.i = i
  | [], done, kept, h => ⟨by simp, by simp, fun i hi => .inl (by
      simp only [planGo, List.all_eq_true, List.mem_range] at h
      simpa using h i hi)⟩
  | p :: ps, done, kept, h => by
    have hlt := plan_lt h
    have pc := plan_cons (Array.getElem?_eq_getElem hlt) h
    obtain ⟨h1, h2, h3⟩ := plan_rest ps _ _ pc.next
    refine ⟨fun q hq => ?_, ?_, fun i hi => ?_⟩
    · rcases List.mem_cons.1 hq with rfl | hq
      · exact ⟨pc.nd, hlt⟩
      · exact ⟨fun hd => (h1 q hq).1 (List.mem_append.2 (.inl hd)), (h1 q hq).2⟩
    · exact List.pairwise_cons.2 ⟨fun q hq e => (h1 q hq).1 (List.mem_append.2 (.inr (by simp [e]))), h2⟩
    · rcases h3 i hi with h | ⟨q, hq, e⟩
      · rcases List.mem_append.1 h with h | h
        · exact .inl h
        · exact .inr ⟨p, by simp, by simpa using (List.mem_singleton.1 h).symm⟩
      · exact .inr ⟨q, by simp [hq], e⟩
section
variable {ops : Array Oper} {n : Nat} {m0 : Mp} {A0 : AH} {w0 : World} {E0 : Env} {Q : Env → AH → Prop} {L : Nat → Prop} {T : List TR} {kept : List Nat} {p : Pn} {ps : List Pn} {H : List (Nat × Env × Value)} {E : Env} {A : AH} {m : Mp} {AD : AH} {a : Act} {w : World} {rk : Nat → Nat}
/-- The slots of what waits stay as they are while the next entry is gone through. -/
theorem raw_slots (ht : Trc P ops E0 A0 Q T kept (p :: ps) H E A) (hc : Cnc P ops n m0 A0 w0 E0 L T (p :: ps) E A m AD a w rk) {o : Oper} (ho : ops[p.i]? = some o) (v : Value) {q : Pn} (hq : q ∈ ps) (hL : L q.i) {o' : Oper} (ho' : ops[q.i]? = some o') :
    ∀ t ∈ o'.looksAt ops, (E.put o.dst v).get t = E.get t := by
  intro t hin
  cases hd : o.dst with
  | none => rfl
  | some d =>
    simp only [Env.put, Env.get_set]
    rw [if_neg]
    intro e
    subst e
    have pc := plan_cons ho ht.plan
    obtain ⟨hr1, hr2, _⟩ := plan_rest _ _ _ ht.plan
    have hne : p.i ≠ q.i := (List.pairwise_cons.1 hr2).1 q hq
    -- the plan's entry for q
    obtain ⟨s1, s2, hs⟩ := List.append_of_mem hq
    have key : ∀ (s1 : List Pn) (done kept : List Nat), planGo ops (preds ops) done kept (s1 ++ q :: s2) = true → ∃ done' kept', PlanC ops done' kept' q s2 o' := by
      intro s1
      induction s1 with
      | nil => intro done kept h; exact ⟨done, kept, plan_cons ho' h⟩
      | cons r rs ih => intro done kept h; exact ih _ _ (plan_cons (Array.getElem?_eq_getElem (plan_lt h)) h).next
    obtain ⟨done', kept', pq⟩ := key s1 _ _ (by rw [← hs]; exact pc.next)
    rcases (pq.slots p.i o t ho hne hd).1 hin with h | h
    · exact pc.nd (hc.rpr q (by simp [hq]) hL p.i (Array.getElem?_eq_some_iff.1 ho).1 h)
    · have := pc.prs q.i (hr1 q (by simp [hq])).2 h
      exact (hr1 q (by simp [hq])).1 this
theorem owners_none (ht : Trc P ops E0 A0 Q T kept (p :: ps) H E A) (hc : Cnc P ops n m0 A0 w0 E0 L T (p :: ps) E A m AD a w rk) : AD.get A.next = none ∧ A.get A.next = none ∧ m A.next = none := by
  have h1 := hc.rel.fresh A.next (by rw [hc.adn]; exact Nat.le_refl _)
  have h2 := hc.vis A.next (fun r hr q hq e => by have := ht.ids r hr q hq; omega)
  exact ⟨h1.1, by rw [← h2]; exact h1.1, h1.2⟩
theorem rkd' (ht : Trc P ops E0 A0 Q T kept (p :: ps) H E A) (hc : Cnc P ops n m0 A0 w0 E0 L T (p :: ps) E A m AD a w rk) {o : Oper} (ho : ops[p.i]? = some o) (v : Value) :
    ∀ q ∈ ps, ∀ q' ∈ ps, L q.i → L q'.i → q.i ≠ q'.i → ∀ o1 o2, ops[q.i]? = some o1 → ops[q'.i]? = some o2 → wantedA ops (E.put o.dst v) o1 = true → wantedA ops (E.put o.dst v) o2 = true → rk q.i ≠ rk q'.i := by
  intro q hq q' hq' h1 h2 hne o1 o2 e1 e2 w1 w2
  rw [wantedA_congr (raw_slots ht hc ho v hq h1 e1)] at w1
  rw [wantedA_congr (raw_slots ht hc ho v hq' h2 e2)] at w2
  exact hc.rkd q (by simp [hq]) q' (by simp [hq']) h1 h2 hne o1 o2 e1 e2 w1 w2
/-- An entry is gone through that makes nothing. -/
theorem adv_same (ht : Trc P ops E0 A0 Q T kept (p :: ps) H E A) (hc : Cnc P ops n m0 A0 w0 E0 L T (p :: ps) E A m AD a w rk) {o : Oper} (ho : ops[p.i]? = some o) (hcl : clOf o ≠ .act) {wt : Bool} {v : Value}
    (hrd : ¬ L p.i → clOf o = .rd → wt = true → aOp P E o A = some (v, A)) (hwt : wt = wantedA ops E o) (hun : wt = false → v = undef) (hal : clOf o = .al → wt = false) :
    Cnc P ops n m0 A0 w0 E0 L (T ++ [⟨p.i, o, E, wt, v, none⟩]) ps (E.put o.dst v) A m AD a w rk := by
  have mem : ∀ {s : TR}, s ∈ T ++ [⟨p.i, o, E, wt, v, none⟩] → s ∈ T ∨ s = ⟨p.i, o, E, wt, v, none⟩ := fun hs => by simpa using hs
  refine ⟨hc.closed, hc.lt, fun r hr hr2 => ?_, fun q hq => hc.rests q (by simp [hq]), fun q hq hL j hj hp => ?_, hc.adn, fun r hr q hq hn => ?_, fun b hb => ?_, fun r hr q hq hn => ?_, hc.rel, hc.stp, hc.size, hc.defers, fun r hr hL d hd => ?_, hc.old, fun r hr hn hr2 hw => ?_, fun q hq hL o' d ho' hd => ?_, rkd' ht hc ho v⟩
  · rcases mem hr with hr | rfl
    · exact hc.acts r hr hr2
    · exact absurd hr2 hcl
  · rw [List.map_append]; exact List.mem_append.2 (.inl (hc.rpr q (by simp [hq]) hL j hj hp))
  · rcases mem hr with hr | rfl
    · exact hc.hid r hr q hq hn
    · cases hq
  · exact hc.vis b (fun r hr => hb r (by simp [hr]))
  · rcases mem hr with hr | rfl
    · exact hc.blk r hr q hq hn
    · cases hq
  · rcases mem hr with hr | rfl
    · exact hc.vals r hr hL d hd
    · have hal' : clOf o = .al := hc.rests p (by simp) hL o ho
      have hwf := hal hal'
      simp only [hun hwf]
      rcases hc.raws p (by simp) hL o d ho hd with ⟨_, e⟩ | ⟨e, _⟩
      · rw [e]; exact VRel.undef m
      · rw [← hwt, hwf] at e; cases e
  · rcases mem hr with hr | rfl
    · exact hc.rds r hr hn hr2 hw
    · exact ⟨A, fun _ _ h => h, hrd hn hr2 hw⟩
  · have hs := raw_slots ht hc ho v hq hL ho'
    rcases hc.raws q (by simp [hq]) hL o' d ho' hd with ⟨h1, h2⟩ | ⟨h1, vf, x, ob, h2, h3⟩
    · exact .inl ⟨by rw [wantedA_congr hs]; exact h1, h2⟩
    · exact .inr ⟨by rw [wantedA_congr hs]; exact h1, vf, x, ob, MK_congr hs h2, h3⟩
/-- An entry is gone through that makes a block. -/
theorem adv_make (ht : Trc P ops E0 A0 Q T kept (p :: ps) H E A) (hc : Cnc P ops n m0 A0 w0 E0 L T (p :: ps) E A m AD a w rk) {o : Oper} (ho : ops[p.i]? = some o) (hcl : clOf o = .al) (hw : wantedA ops E o = true) {vf : Nat → Value} {x : Blk} (hmk : MK P E o vf x) :
    ∃ m' AD', Cnc P ops n m0 A0 w0 E0 L (T ++ [⟨p.i, o, E, true, vf A.next, some (A.next, x)⟩]) ps (E.put o.dst (vf A.next)) (A.alloc x) m' AD' a w rk := by
  have mem : ∀ {s : TR}, s ∈ T ++ [⟨p.i, o, E, true, vf A.next, some (A.next, x)⟩] → s ∈ T ∨ s = ⟨p.i, o, E, true, vf A.next, some (A.next, x)⟩ := fun hs => by simpa using hs
  obtain ⟨hn1, hn2, hn3⟩ := owners_none ht hc
  have hold : ∀ r ∈ T, ∀ q, r.al = some q → q.1 < A.next := fun r hr q hq => (ht.ids r hr q hq).2
  have hsub : ∀ b y, A.get b = some y → (A.alloc x).get b = some y := fun b y h => by
    rw [AH.get_alloc, if_neg]
    · exact h
    · intro e; subst e; rw [hn2] at h; cases h
  have raws' : ∀ (m' : Mp) (AD' : AH), m.le m' → (∀ q ∈ ps, L q.i → ∀ o', ops[q.i]? = some o' → wantedA ops E o' = true → ∀ c y z, AD'.get c = some y → m' c = some z → (∀ c y z, AD.get c = some y → m c = some z → z.b ≠ rk q.i) → z.b ≠ rk q.i) →
      ∀ q ∈ ps, L q.i → ∀ o' d, ops[q.i]? = some o' → o'.dst = some d → (wantedA ops (E.put o.dst (vf A.next)) o' = false ∧ a.tmps.getD d undef = undef) ∨ (wantedA ops (E.put o.dst (vf A.next)) o' = true ∧ Raw P w0 m' AD' w (E.put o.dst (vf A.next)) o' (a.tmps.getD d undef) (rk q.i)) := by
    intro m' AD' hle hne q hq hL o' d ho' hd
    have hs := raw_slots ht hc ho (vf A.next) hq hL ho'
    rcases hc.raws q (by simp [hq]) hL o' d ho' hd with ⟨h1, h2⟩ | ⟨h1, vf', x', ob, h2, h3, h4, h5, h6, h7⟩
    · exact .inl ⟨by rw [wantedA_congr hs]; exact h1, h2⟩
    · exact .inr ⟨by rw [wantedA_congr hs]; exact h1, vf', x', ob, MK_congr hs h2, h3, h4.mono hle, h5, h6, fun c y z hy hz => hne q hq hL o' ho' h1 c y z hy hz h7⟩
  have hrds : ∀ r ∈ T, ¬ L r.i → clOf r.o = .rd → r.wt = true → ∃ A1, (∀ b x', A1.get b = some x' → (A.alloc x).get b = some x') ∧ aOp P r.E r.o A1 = some (r.v, A1) := fun r hr hn hr2 hw => by
    obtain ⟨A1, h1, h2⟩ := hc.rds r hr hn hr2 hw
    exact ⟨A1, fun b y h => hsub b y (h1 b y h), h2⟩
  have hrpr : ∀ q ∈ ps, L q.i → ∀ j, j < ops.size → isPred (preds ops) j q.i = true → j ∈ (T ++ [(⟨p.i, o, E, true, vf A.next, some (A.next, x)⟩ : TR)]).map (fun r => r.i) := fun q hq hL j hj hp => by
    rw [List.map_append]; exact List.mem_append.2 (.inl (hc.rpr q (by simp [hq]) hL j hj hp))
  by_cases hL : L p.i
  · -- it was made already
    have hdst : ∃ d, o.dst = some d := Option.isSome_iff_exists.1 ((plan_cons ho ht.plan).al hcl)
    obtain ⟨d, hd⟩ := hdst
    rcases hc.raws p (by simp) hL o d ho hd with ⟨e, _⟩ | ⟨_, vf', x', ob, h2, h3, h4, h5, h6, h7⟩
    · rw [hw] at e; cases e
    · have heq : vf' A.next = vf A.next ∧ A.alloc x' = A.alloc x := by
        have := (h2 A).symm.trans (hmk A)
        simpa using this
      have hxx : x' = x := by
        have := congrArg (fun B : AH => B.get A.next) heq.2
        simpa [AH.get_alloc] using this
      subst hxx
      have hle := Mp.upd_le (m := m) (n := A.next) (plOf P (rk p.i) ob) hn3
      have hm' : ∀ c r, c ≠ A.next → (m.upd A.next (plOf P (rk p.i) ob)) c = some r → m c = some r := fun c r hc' e => by simp only [Mp.upd] at e; rw [if_neg hc'] at e; exact e
      have hgd : ∀ b, (AD.alloc x').get b = if b = A.next then some x' else AD.get b := fun b => by rw [AH.get_alloc, hc.adn]
      refine ⟨m.upd A.next (plOf P (rk p.i) ob), AD.alloc x', hc.closed, hc.lt, fun r hr hr2 => ?_, fun q hq => hc.rests q (by simp [hq]), hrpr, by simp [hc.adn], fun r hr q hq hn => ?_, fun b hb => ?_, fun r hr q hq hn => ?_, hc.rel.add hn3 h4 h3 h7 hgd (by simp) (by simp [hc.adn]), ?_, hc.size, hc.defers, fun r hr hL' d' hd' => ?_, fun t h => (hc.old t h).mono hle, fun r hr hn hr2 hw' => ?_, raws' _ _ hle (fun q hq hLq o' ho' hwq c y z hy hz h => ?_), rkd' ht hc ho (vf A.next)⟩
      · rcases mem hr with hr | rfl
        · exact hc.acts r hr hr2
        · rw [hcl] at hr2; cases hr2
      · rcases mem hr with hr | rfl
        · have := hold r hr q hq
          obtain ⟨g1, g2⟩ := hc.hid r hr q hq hn
          refine ⟨by rw [hgd, if_neg (by omega)]; exact g1, ?_⟩
          simp only [Mp.upd]; rw [if_neg (by omega)]; exact g2
        · exact absurd hL hn
      · rw [hgd, AH.get_alloc]
        split
        · rfl
        · exact hc.vis b (fun r hr => hb r (by simp [hr]))
      · rcases mem hr with hr | rfl
        · exact hsub _ _ (hc.blk r hr q hq hn)
        · exact absurd hL hn
      · refine ⟨Mp.le_trans hc.stp.mono hle, Nat.le_trans hc.stp.nx (by simp), hc.stp.size, hc.stp.keep, fun k hk hi => ?_, hc.stp.os, hc.stp.tape, hc.stp.output, fun b hb => ?_, fun b y hb hy => ?_⟩
        · obtain ⟨b, pl, y, hb, hy, hpl, e⟩ := hi
          rw [hgd] at hb
          by_cases e2 : b = A.next
          · subst e2; rw [Mp.upd_same] at hpl; injection hpl with hpl; subst hpl; rw [plOf_b] at e; omega
          · rw [if_neg e2] at hb; exact hc.stp.img k hk ⟨b, pl, y, hb, hy, hm' b pl e2 hpl, e⟩
        · simp only [Mp.upd]; rw [if_neg (by have := ht.nx; omega)]; exact hc.stp.old b hb
        · rw [hgd] at hb
          by_cases e2 : b = A.next
          · rw [if_pos e2] at hb; injection hb with hb; subst hb; rw [h4.ro] at hy; cases hy
          · rw [if_neg e2] at hb; exact hc.stp.ros b y hb hy
      · rcases mem hr with hr | rfl
        · exact (hc.vals r hr hL' d' hd').mono hle
        · simp only at hd' ⊢
          rw [hd] at hd'; injection hd' with hd'; subst hd'
          rw [← heq.1]
          exact h6 _ A.next (Mp.upd_same _ _ _)
      · rcases mem hr with hr | rfl
        · exact hrds r hr hn hr2 hw'
        · exact absurd hL hn
      · rw [hgd] at hy
        by_cases e2 : c = A.next
        · subst e2; rw [Mp.upd_same] at hz; injection hz with hz; subst hz
          rw [plOf_b]
          obtain ⟨_, hr2, _⟩ := plan_rest _ _ _ ht.plan
          exact hc.rkd p (by simp) q (by simp [hq]) hL hLq ((List.pairwise_cons.1 hr2).1 q hq) o o' ho ho' hw hwq
        · rw [if_neg e2] at hy; exact h c y z hy (hm' c z e2 hz)
  · -- it will be made later
    have hgd : ∀ b, ((AD.alloc x).kill A.next).get b = AD.get b := fun b => by
      rw [AH.get_kill, AH.get_alloc, hc.adn]
      by_cases e : b = A.next
      · subst e; rw [if_pos rfl, hn1]
      · rw [if_neg e, if_neg e]
    have hnx : ((AD.alloc x).kill A.next).next = A.next + 1 := by simp [hc.adn]
    refine ⟨m, (AD.alloc x).kill A.next, hc.closed, hc.lt, fun r hr hr2 => ?_, fun q hq => hc.rests q (by simp [hq]), hrpr, by rw [hnx]; simp, fun r hr q hq hn => ?_, fun b hb => ?_, fun r hr q hq hn => ?_, hc.rel.bump hgd (by rw [hnx, hc.adn]; omega), hc.stp.bump hgd (by rw [hnx, hc.adn]; omega), hc.size, hc.defers, fun r hr hL' d' hd' => ?_, hc.old, fun r hr hn hr2 hw' => ?_, raws' _ _ m.le_refl (fun q hq hLq o' ho' hwq c y z hy hz h => h c y z (by rw [← hgd]; exact hy) hz), rkd' ht hc ho (vf A.next)⟩
    · rcases mem hr with hr | rfl
      · exact hc.acts r hr hr2
      · rw [hcl] at hr2; cases hr2
    · rcases mem hr with hr | rfl
      · obtain ⟨g1, g2⟩ := hc.hid r hr q hq hn
        exact ⟨by rw [hgd]; exact g1, g2⟩
      · injection hq with hq; subst hq
        exact ⟨by rw [hgd]; exact hn1, hn3⟩
    · rw [hgd, AH.get_alloc]
      split
      · subst b
        exact absurd (hb ⟨p.i, o, E, true, vf A.next, some (A.next, x)⟩ (by simp) _ rfl rfl) hL
      · exact hc.vis b (fun r hr => hb r (by simp [hr]))
    · rcases mem hr with hr | rfl
      · exact hsub _ _ (hc.blk r hr q hq hn)
      · injection hq with hq; subst hq
        rw [AH.get_alloc, if_pos rfl]
    · rcases mem hr with hr | rfl
      · exact hc.vals r hr hL' d' hd'
      · exact absurd hL' hL
    · rcases mem hr with hr | rfl
      · exact hrds r hr hn hr2 hw'
      · rw [hcl] at hr2; cases hr2
end
end Go.AI
/- AIu: drawn regions, one operation done. -/
namespace Go.AI
open Go Go.RowKit
variable {P : Program}
theorem put_ne {a : Act} {dst : Option Tmp} {v : Value} {t : Nat} (h : dst ≠ some t) : (a.put dst v).tmps.getD t undef = a.tmps.getD t undef := by
  cases dst with
  | none => rfl
  | some d =>
    have : d ≠ t := fun e => h (by rw [e])
    simp only [Act.put, Array.getD_eq_getD_getElem?, Array.getElem?_setIfInBounds]
    rw [if_neg this]
theorem put_eq {a : Act} {dst : Option Tmp} {v : Value} {t : Nat} (h : dst = some t) (hlt : t < a.tmps.size) : (a.put dst v).tmps.getD t undef = v := by
  subst h
  simp [Act.put, Array.getD_eq_getD_getElem?, hlt]
theorem put_size (a : Act) (dst : Option Tmp) (v : Value) : (a.put dst v).tmps.size = a.tmps.size := by cases dst <;> simp [Act.put]
theorem put_defers (a : Act) (dst : Option Tmp) (v : Value) : (a.put dst v).defers = a.defers := by cases dst <;> rfl
theorem Raw.step {w0 : World} {m m' : Mp} {AD AD' : AH} {w w' : World} {E : Env} {o : Oper} {v' : Value} {k : Nat} (h : Raw P w0 m AD w E o v' k) (hR : Rel P m AD w) (hs : Step m AD w m' AD' w') : Raw P w0 m' AD' w' E o v' k := by
  obtain ⟨vf, x, ob, h1, h2, h3, h4, h5, h6⟩ := h
  have hk : k < w.heap.size := (Array.getElem?_eq_some_iff.1 h2).1
  have hnin : ¬ In m AD k := fun ⟨b, p, y, hb, _, hp, e⟩ => h6 b y p hb hp e
  refine ⟨vf, x, ob, h1, (hs.keep k hk hnin).trans h2, h3.mono hs.mono, h4, h5, fun c y q hc hq e => ?_⟩
  cases hy : y.ro with
  | false => exact hnin (hs.img k hk ⟨c, q, y, hc, hy, hq, e⟩)
  | true =>
    have hc0 := hs.ros c y hc hy
    have : ∃ q0, m c = some q0 := by
      have := hR.held c y hc0
      cases y with
      | row cs E ro => obtain ⟨p, _, _, hp, _⟩ := this; exact ⟨p, hp⟩
      | mp es => obtain ⟨p, _, _, hp, _⟩ := this; exact ⟨p, hp⟩
    obtain ⟨q0, hq0⟩ := this
    have := hs.mono c q0 hq0
    rw [hq] at this; injection this with this; subst this
    exact h6 c y q hc0 hq0 e
theorem nodup_inj : ∀ {T : List TR}, (T.map (·.i)).Nodup → ∀ {r s : TR}, r ∈ T → s ∈ T → r.i = s.i → r = s
  | [], _, r, s, hr, _, _ => by cases hr
  | x :: T, h, r, s, hr, hs, e => by
    rw [List.map_cons, List.nodup_cons] at h
    rcases List.mem_cons.1 hr with hr | hr
    · rcases List.mem_cons.1 hs with hs | hs
      · rw [hr, hs]
      · exact absurd (List.mem_map.2 ⟨s, hs, by rw [← e, hr]⟩) h.1
    · rcases List.mem_cons.1 hs with hs | hs
      · exact absurd (List.mem_map.2 ⟨r, hr, by rw [e, hs]⟩) h.1
      · exact nodup_inj h.2 hr hs e
theorem call_act {E : Env} {o : Oper} (h : clOf o ≠ .act) : aCallee P E o = none := by
  unfold aCallee
  unfold clOf at h
  split
  · rename_i c hc
    rw [hc] at h
    split
    · rename_i f hf
      simp only [hf] at h
      exact absurd rfl h
    · rename_i r name hf
      simp only [hf] at h
      exact absurd rfl h
    · rfl
  · rfl
theorem rd_same {E : Env} {o : Oper} (hc : clOf o = .rd) {A A' : AH} {v : Value} (h : aOp P E o A = some (v, A')) : A' = A := by
  cases hl : looks o with
  | false => exact (pure_move (A2 := A) hc hl h).1
  | true =>
    have mp : ∀ {α : Option Value}, α.map (fun v => (v, A)) = some (v, A') → A' = A := by
      intro α e
      simp only [Option.map_eq_some_iff, Prod.mk.injEq] at e
      obtain ⟨u, hu, _, rfl⟩ := e
      rfl
    unfold looks at hl
    unfold aOp at h
    cases hop : o.op with
    | load T x => simp only [hop] at h; exact mp h
    | lookup T x k ok => simp only [hop] at h; exact mp h
    | binOp op T x y yT => simp only [hop] at h; exact mp h
    | slice T x lo hi mx => simp only [hop] at h; exact mp h
    | call c =>
      simp only [hop] at h hl
      split at h
      · rename_i b hb
        simp only [hb] at hl
        cases b <;> (first | (cases hl; done) | skip)
        unfold aBuiltin at h
        split at h <;> rename_i hbb <;> first | (cases hbb; done) | skip
        · rw [Option.bind_eq_some_iff] at h
          obtain ⟨T, hT, h⟩ := h
          exact mp h
        all_goals first | (cases h; done) | (simp_all; done)
      · cases h
    | _ => simp only [hop] at hl; cases hl
section
variable {ops : Array Oper} {n : Nat} {m0 : Mp} {A0 : AH} {w0 : World} {E0 : Env} {Q : Env → AH → Prop} {L : Nat → Prop} {T : List TR} {kept : List Nat} {rest : List Pn} {H : List (Nat × Env × Value)} {E : Env} {A : AH} {m : Mp} {AD : AH} {a : Act} {w : World} {rk : Nat → Nat}
/-- Each operation stands somewhere in the plan. -/
def AllIn (ops : Array Oper) : Prop := ∀ (i : Nat) o, ops[i]? = some o → ∃ done kept p ps, p.i = i ∧ PlanC ops done kept p ps o
theorem all_in {plan : List Pn} (h : planOk ops plan = true) : AllIn ops := by
  have key : ∀ (ps : List Pn) (done kept : List Nat), planGo ops (preds ops) done kept ps = true → ∀ i o, ops[i]? = some o → i ∈ done ∨ ∃ done kept p ps, p.i = i ∧ PlanC ops done kept p ps o := by
    intro ps
    induction ps with
    | nil =>
      intro done kept h i o ho
      exact .inl (((plan_rest _ _ _ h).2.2 i (Array.getElem?_eq_some_iff.1 ho).1).resolve_right (by simp))
    | cons p ps ih =>
      intro done kept h i o ho
      have pc := plan_cons (Array.getElem?_eq_getElem (plan_lt h)) h
      rcases ih _ _ pc.next i o ho with h' | h'
      · rcases List.mem_append.1 h' with h' | h'
        · exact .inl h'
        · have : i = p.i := by simpa using h'
          subst this
          exact .inr ⟨done, kept, p, ps, rfl, plan_cons ho h⟩
      · exact .inr h'
  intro i o ho
  exact (key plan [] [] h i o ho).resolve_left (by simp)
theorem dst_ne (hall : AllIn ops) {i j : Nat} {o o' : Oper} (ho : ops[i]? = some o) (ho' : ops[j]? = some o') (hne : i ≠ j) {d : Nat} (hd : o'.dst = some d) : o.dst ≠ some d := by
  obtain ⟨_, _, p, _, rfl, pc⟩ := hall i o ho
  exact (pc.slots j o' d ho' (fun e => hne e.symm) hd).2
theorem slot_or (hall : AllIn ops) {i j : Nat} {o o' : Oper} (ho : ops[i]? = some o) (ho' : ops[j]? = some o') (hne : j ≠ i) {d : Nat} (hd : o'.dst = some d) (hin : d ∈ o.looksAt ops) : isPred (preds ops) j i = true ∨ isPred (preds ops) i j = true := by
  obtain ⟨_, _, p, _, rfl, pc⟩ := hall i o ho
  exact (pc.slots j o' d ho' hne hd).1 hin
/-- What is ready: not done, and all ahead of it done. -/
def Rdy (ops : Array Oper) (L : Nat → Prop) (i : Nat) (o : Oper) : Prop := ops[i]? = some o ∧ ¬ L i ∧ ∀ e ∈ o.after.toList, Region.binds .any e = true → L e.on
theorem rdy_closed (hc : Cnc P ops n m0 A0 w0 E0 L T rest E A m AD a w rk) {i : Nat} {o : Oper} (hr : Rdy ops L i o) : ∀ (j : Nat) o' e, ops[j]? = some o' → (j = i ∨ L j) → e ∈ o'.after.toList → Region.binds .any e = true → (e.on = i ∨ L e.on) := by
  intro j o' e ho' hj he hb
  rcases hj with rfl | hj
  · rw [hr.1] at ho'; injection ho' with ho'; subst ho'; exact .inr (hr.2.2 e he hb)
  · exact .inr (hc.closed j o' e ho' hj he hb)
theorem rdy_preds (hc : Cnc P ops n m0 A0 w0 E0 L T rest E A m AD a w rk) {i j : Nat} {o : Oper} (hr : Rdy ops L i o) (h : isPred (preds ops) j i = true) (hne : j ≠ i) : L j :=
  (pred_closed (S := fun k => k = i ∨ L k) (rdy_closed hc hr) h (.inl rfl)).resolve_left hne
theorem rdy_succ (hc : Cnc P ops n m0 A0 w0 E0 L T rest E A m AD a w rk) {i j : Nat} {o : Oper} (hr : Rdy ops L i o) (h : isPred (preds ops) i j = true) : ¬ L j := fun hL => hr.2.1 (pred_closed hc.closed h hL)
/-- The slots that an operation looks at, when it is ready. -/
theorem slot_rel (hall : AllIn ops) (ht : Trc P ops E0 A0 Q T kept rest H E A) (hc : Cnc P ops n m0 A0 w0 E0 L T rest E A m AD a w rk) {i : Nat} {o : Oper} (hr : Rdy ops L i o) {T1 T2 : List TR} (hT : T = T1 ++ T2) (hnd : i ∉ T1.map (·.i))
    (hprs : ∀ j, j < ops.size → isPred (preds ops) j i = true → j ∈ T1.map (·.i)) : ∀ t ∈ o.looksAt ops, VRel m (look T1 t (E0.get t)) (a.tmps.getD t undef) := by
  intro t hin
  have mem1 : ∀ r ∈ T1, r ∈ T := fun r h => by rw [hT]; exact List.mem_append.2 (.inl h)
  by_cases hex : ∃ (j : Nat) (o' : Oper), ops[j]? = some o' ∧ o'.dst = some t ∧ L j
  · obtain ⟨j, o', ho', hd, hL⟩ := hex
    have hne : j ≠ i := fun e => hr.2.1 (by rw [← e]; exact hL)
    have hp : isPred (preds ops) j i = true := by
      rcases slot_or hall hr.1 ho' hne hd hin with h | h
      · exact h
      · exact absurd hL (rdy_succ hc hr h)
    obtain ⟨r, hrm, hri⟩ := List.mem_map.1 (hprs j (Array.getElem?_eq_some_iff.1 ho').1 hp)
    have hro : r.o = o' := by
      have := ht.tops r (mem1 r hrm)
      rw [hri, ho'] at this; injection this with this; exact this.symm
    rw [look_some T1 t _ r hrm (by rw [hro]; exact hd) (fun s hs hsd => by
      by_cases e : s.i = r.i
      · have hnd' := ht.nodup
        rw [hT, List.map_append, List.nodup_append] at hnd'
        have hidx := hnd'.1
        rw [nodup_inj hidx hs hrm e]
      · exact absurd hsd (dst_ne hall (ht.tops s (mem1 s hs)) (ht.tops r (mem1 r hrm)) e (by rw [hro]; exact hd)))]
    exact hc.vals r (mem1 r hrm) (by rw [hri]; exact hL) t (by rw [hro]; exact hd)
  · rw [look_none T1 t _ (fun r hrm hd => ?_)]
    · exact hc.old t (fun j o' ho' hd hL => hex ⟨j, o', ho', hd, hL⟩)
    · have hro := ht.tops r (mem1 r hrm)
      have hnL : ¬ L r.i := fun hL => hex ⟨r.i, r.o, hro, hd, hL⟩
      have hne : r.i ≠ i := fun e => hnd (by rw [← e]; exact List.mem_map.2 ⟨r, hrm, rfl⟩)
      rcases slot_or hall hr.1 hro hne hd hin with h | h
      · exact hnL (rdy_preds hc hr h hne)
      · obtain ⟨Ta, Tb, hab⟩ := List.append_of_mem hrm
        obtain ⟨_, p, _, hpi, pc⟩ := ht.pcs Ta r (Tb ++ T2) (by rw [hT, hab]; simp)
        have hi : i < ops.size := (Array.getElem?_eq_some_iff.1 hr.1).1
        have := pc.prs i hi (by rw [hpi]; exact h)
        exact hnd (by rw [hab, List.map_append]; exact List.mem_append.2 (.inl this))
end
end Go.AI
/- AIv: drawn regions, each kind of operation done. -/
namespace Go.AI
open Go Go.RowKit
variable {P : Program}
section
variable {ops : Array Oper} {n : Nat} {m0 : Mp} {A0 : AH} {w0 : World} {E0 : Env} {Q : Env → AH → Prop} {L : Nat → Prop} {T : List TR} {kept : List Nat} {rest : List Pn} {H : List (Nat × Env × Value)} {E : Env} {A : AH} {m : Mp} {AD : AH} {a : Act} {w : World} {rk : Nat → Nat}
/-- What runs, of an operation whose slots are known. -/
theorem slots_opd {m : Mp} {E : Env} {a : Act} {o : Oper} (hok : ∀ x ∈ o.op.operands, opdOk x = true) (h : ∀ t ∈ o.looksAt ops, VRel m (E.get t) (a.tmps.getD t undef)) : ∀ x ∈ o.op.operands, VRel m (ev E x) (a.eval x) := by
  intro x hx
  cases x with
  | tmp t => exact h t (by simp only [Oper.looksAt]; exact List.mem_append.2 (.inl (List.mem_filterMap.2 ⟨.tmp t, Array.mem_def.1 hx, rfl⟩)))
  | const v => exact plainV_rel m v (hok _ hx)
  | global g => cases hok _ hx
  | func f => exact .func _ _ _ _ _ rfl (fun i v v' e => by simp at e) rfl (fun i v v' e => by simp at e)
theorem slots_wanted {m : Mp} {E : Env} {a : Act} {o : Oper} (h : ∀ t ∈ o.looksAt ops, VRel m (E.get t) (a.tmps.getD t undef)) : Region.wanted o (yielded ops a.tmps) = wantedA ops E o :=
  wanted_rel fun j want d hg hd => h d (by simp [Oper.looksAt, hg, hd])
/-- Listing one that is in the trace and made no block, or makes none: slots and world move on by a step. -/
theorem list_one (hall : AllIn ops) (ht : Trc P ops E0 A0 Q T kept rest H E A) (hc : Cnc P ops n m0 A0 w0 E0 L T rest E A m AD a w rk) {r : TR} (hrm : r ∈ T) (hr : Rdy ops L r.i r.o) (hal : r.al = none) (hdst : ∀ d, r.o.dst = some d → d < n) {m' : Mp} {w' : World} {v' : Value}
    (hR : Rel P m' AD w') (hs : Step m AD w m' AD w') (hv : VRel m' r.v v') : Cnc P ops n m0 A0 w0 E0 (fun j => j = r.i ∨ L j) T rest E A m' AD (a.put r.o.dst v') w' rk := by
  obtain ⟨hr1, _, _⟩ := plan_rest _ _ _ ht.plan
  have hnr : ∀ p ∈ rest, p.i ≠ r.i := fun p hp e => (hr1 p hp).1 (by rw [e]; exact List.mem_map.2 ⟨r, hrm, rfl⟩)
  refine ⟨rdy_closed hc hr, fun i hi => ?_, fun s hs' hsa => .inr (hc.acts s hs' hsa), fun p hp hL => hc.rests p hp (hL.resolve_left (hnr p hp)), fun p hp hL => hc.rpr p hp (hL.resolve_left (hnr p hp)), hc.adn, fun s hsm q hq hn => ?_, fun b hb => hc.vis b (fun s hsm q hq e => ?_), fun s hsm q hq hn => hc.blk s hsm q hq (fun h => hn (.inr h)), hR, hc.stp.trans hs, by rw [put_size]; exact hc.size, by rw [put_defers]; exact hc.defers, fun s hsm hL d hd => ?_, fun t h => ?_, fun s hsm hn => hc.rds s hsm (fun h => hn (.inr h)), fun p hp hL o d ho hd => ?_, fun p hp q hq h1 h2 => hc.rkd p hp q hq (h1.resolve_left (hnr p hp)) (h2.resolve_left (hnr q hq))⟩
  · rcases hi with rfl | hi
    · exact (Array.getElem?_eq_some_iff.1 hr.1).1
    · exact hc.lt i hi
  · have g := hc.hid s hsm q hq (fun h => hn (.inr h))
    have hlt : q.1 < AD.next := by rw [hc.adn]; exact (ht.ids s hsm q hq).2
    exact ⟨g.1, by rw [hs.old q.1 hlt]; exact g.2⟩
  · rcases hb s hsm q hq e with h | h
    · have := nodup_inj ht.nodup hsm hrm h
      subst this
      rw [hal] at hq; cases hq
    · exact h
  · by_cases e : s.i = r.i
    · have := nodup_inj ht.nodup hsm hrm e
      subst this
      rw [put_eq hd (by rw [hc.size]; exact hdst d hd)]; exact hv
    · rw [put_ne (fun h => dst_ne hall hr.1 (ht.tops s hsm) (fun h => e h.symm) hd h)]
      exact (hc.vals s hsm (hL.resolve_left e) d hd).mono hs.mono
  · have hne : r.o.dst ≠ some t := fun e => h r.i r.o hr.1 e (.inl rfl)
    rw [put_ne hne]
    exact (hc.old t (fun j o hj hd hL => h j o hj hd (.inr hL))).mono hs.mono
  · have hne : r.o.dst ≠ some d := dst_ne hall hr.1 ho (fun e => hnr p hp e.symm) hd
    rw [put_ne hne]
    rcases hc.raws p hp (hL.resolve_left (hnr p hp)) o d ho hd with h | ⟨h1, h2⟩
    · exact .inl h
    · exact .inr ⟨h1, h2.step hc.rel hs⟩
/-- Listing one in the trace that makes a block. -/
theorem list_make (hall : AllIn ops) (ht : Trc P ops E0 A0 Q T kept rest H E A) (hc : Cnc P ops n m0 A0 w0 E0 L T rest E A m AD a w rk) {r : TR} (hrm : r ∈ T) (hr : Rdy ops L r.i r.o) {q0 : Nat × Blk} (hal : r.al = some q0) (hdst : ∀ d, r.o.dst = some d → d < n) {ob : Obj} {v' : Value}
    (hb : BRel m q0.2 ob) (hv : ∀ m2 : Mp, m2 q0.1 = some (plOf P w.heap.size ob) → VRel m2 r.v v') :
    ∃ m' AD', Cnc P ops n m0 A0 w0 E0 (fun j => j = r.i ∨ L j) T rest E A m' AD' (a.put r.o.dst v') (World.new w ob) rk := by
  obtain ⟨hr1, _, _⟩ := plan_rest _ _ _ ht.plan
  have hnr : ∀ p ∈ rest, p.i ≠ r.i := fun p hp e => (hr1 p hp).1 (by rw [e]; exact List.mem_map.2 ⟨r, hrm, rfl⟩)
  obtain ⟨g1, g2⟩ := hc.hid r hrm q0 hal hr.2.1
  obtain ⟨i1, i2⟩ := ht.ids r hrm q0 hal
  have hle := Mp.upd_le (m := m) (n := q0.1) (plOf P w.heap.size ob) g2
  have hgd : ∀ b, (AD.set q0.1 q0.2).get b = if b = q0.1 then some q0.2 else AD.get b := fun b => AH.get_set _ _ _ _
  have hm' : ∀ c p, c ≠ q0.1 → (m.upd q0.1 (plOf P w.heap.size ob)) c = some p → m c = some p := fun c p hc' e => by simp only [Mp.upd] at e; rw [if_neg hc'] at e; exact e
  have hpush := hc.rel.push ob
  have hnewk : (World.new w ob).heap[w.heap.size]? = some ob := by rw [World.new_get, if_pos rfl]
  have hRel := hpush.add (A' := AD.set q0.1 q0.2) g2 hb hnewk (fun c y p hy hp => by have := hc.rel.low c p hp; omega) hgd (by simp) (by simp [hc.adn]; exact i2)
  have hrk : ∀ p ∈ rest, L p.i → ∀ o d, ops[p.i]? = some o → o.dst = some d → wantedA ops E o = true → rk p.i < w.heap.size := fun p hp hL o d ho hd hw => by
    rcases hc.raws p hp hL o d ho hd with ⟨h, _⟩ | ⟨_, _, _, _, _, h, _⟩
    · rw [hw] at h; cases h
    · exact (Array.getElem?_eq_some_iff.1 h).1
  have hwsz := hc.stp.size
  refine ⟨m.upd q0.1 (plOf P w.heap.size ob), AD.set q0.1 q0.2, rdy_closed hc hr, fun i hi => ?_, fun s hs' hsa => .inr (hc.acts s hs' hsa), fun p hp hL => hc.rests p hp (hL.resolve_left (hnr p hp)), fun p hp hL => hc.rpr p hp (hL.resolve_left (hnr p hp)), by simp [hc.adn], fun s hsm q hq hn => ?_, fun b hb' => ?_, fun s hsm q hq hn => hc.blk s hsm q hq (fun h => hn (.inr h)), hRel, ?_, by rw [put_size]; exact hc.size, by rw [put_defers]; exact hc.defers, fun s hsm hL d hd => ?_, fun t h => ?_, fun s hsm hn => hc.rds s hsm (fun h => hn (.inr h)), fun p hp hL o d ho hd => ?_, fun p hp q hq h1 h2 => hc.rkd p hp q hq (h1.resolve_left (hnr p hp)) (h2.resolve_left (hnr q hq))⟩
  · rcases hi with rfl | hi
    · exact (Array.getElem?_eq_some_iff.1 hr.1).1
    · exact hc.lt i hi
  · have g := hc.hid s hsm q hq (fun h => hn (.inr h))
    have hne : q.1 ≠ q0.1 := fun e => hn (.inl (ht.uniq s hsm r hrm q q0 hq hal e))
    refine ⟨by rw [hgd, if_neg hne]; exact g.1, ?_⟩
    simp only [Mp.upd]; rw [if_neg hne]; exact g.2
  · rw [hgd]
    split
    · subst b; exact (hc.blk r hrm q0 hal hr.2.1).symm
    · rename_i hne
      refine hc.vis b (fun s hsm q hq e => ?_)
      rcases hb' s hsm q hq e with h | h
      · have := nodup_inj ht.nodup hsm hrm h
        subst this
        rw [hal] at hq; injection hq with hq; subst hq
        exact absurd e.symm hne
      · exact h
  · refine ⟨Mp.le_trans hc.stp.mono hle, Nat.le_trans hc.stp.nx (by simp), by rw [World.new_size]; omega, fun k hk hn => by rw [World.new_get, if_neg (by omega)]; exact hc.stp.keep k hk hn, fun k hk hi => ?_, hc.stp.os, hc.stp.tape, hc.stp.output, fun b hb' => ?_, fun b y hb' hy => ?_⟩
    · obtain ⟨b, pl, y, hb', hy, hpl, e⟩ := hi
      rw [hgd] at hb'
      by_cases e2 : b = q0.1
      · subst e2; rw [Mp.upd_same] at hpl; injection hpl with hpl; subst hpl; rw [plOf_b] at e; omega
      · rw [if_neg e2] at hb'; exact hc.stp.img k hk ⟨b, pl, y, hb', hy, hm' b pl e2 hpl, e⟩
    · simp only [Mp.upd]; rw [if_neg (by omega)]; exact hc.stp.old b hb'
    · rw [hgd] at hb'
      by_cases e2 : b = q0.1
      · rw [if_pos e2] at hb'; injection hb' with hb'; subst hb'; rw [hb.ro] at hy; cases hy
      · rw [if_neg e2] at hb'; exact hc.stp.ros b y hb' hy
  · by_cases e : s.i = r.i
    · have := nodup_inj ht.nodup hsm hrm e
      subst this
      rw [put_eq hd (by rw [hc.size]; exact hdst d hd)]
      exact hv _ (Mp.upd_same _ _ _)
    · rw [put_ne (fun h => dst_ne hall hr.1 (ht.tops s hsm) (fun h => e h.symm) hd h)]
      exact (hc.vals s hsm (hL.resolve_left e) d hd).mono hle
  · have hne : r.o.dst ≠ some t := fun e => h r.i r.o hr.1 e (.inl rfl)
    rw [put_ne hne]
    exact (hc.old t (fun j o hj hd hL => h j o hj hd (.inr hL))).mono hle
  · have hne : r.o.dst ≠ some d := dst_ne hall hr.1 ho (fun e => hnr p hp e.symm) hd
    rw [put_ne hne]
    have hLp := hL.resolve_left (hnr p hp)
    rcases hc.raws p hp hLp o d ho hd with h | ⟨h1, h2⟩
    · exact .inl h
    · have hk := hrk p hp hLp o d ho hd h1
      obtain ⟨vf, x, ob', e1, e2, e3, e4, e5, e6⟩ := h2
      refine .inr ⟨h1, vf, x, ob', e1, by rw [World.new_get, if_neg (by omega)]; exact e2, e3.mono hle, e4, e5, fun c y z hy hz => ?_⟩
      rw [hgd] at hy
      by_cases e : c = q0.1
      · subst e; rw [Mp.upd_same] at hz; injection hz with hz; subst hz; rw [plOf_b]; omega
      · rw [if_neg e] at hy; exact e6 c y z hy (hm' c z e hz)
/-- Listing one that is not in the trace yet, and makes a block. -/
theorem list_raw (hall : AllIn ops) (ht : Trc P ops E0 A0 Q T kept rest H E A) (hc : Cnc P ops n m0 A0 w0 E0 L T rest E A m AD a w rk) {p : Pn} (hpm : p ∈ rest) {o : Oper} (hr : Rdy ops L p.i o) (hcl : clOf o = .al) (hpr : ∀ j, j < ops.size → isPred (preds ops) j p.i = true → j ∈ T.map (·.i)) (hdst : ∀ d, o.dst = some d → d < n)
    (hw : wantedA ops E o = true) {vf : Nat → Value} {x : Blk} (hmk : MK P E o vf x) {ob : Obj} {v' : Value} (hb : BRel m x ob) (hv : ∀ (m2 : Mp) id, m2 id = some (plOf P w.heap.size ob) → VRel m2 (vf id) v') :
    Cnc P ops n m0 A0 w0 E0 (fun j => j = p.i ∨ L j) T rest E A m AD (a.put o.dst v') (World.new w ob) (fun j => if j = p.i then w.heap.size else rk j) := by
  obtain ⟨hr1, _, _⟩ := plan_rest _ _ _ ht.plan
  have hnT : ∀ s ∈ T, s.i ≠ p.i := fun s hs e => (hr1 p hpm).1 (by rw [← e]; exact List.mem_map.2 ⟨s, hs, rfl⟩)
  have hrk : ∀ q ∈ rest, L q.i → ∀ o d, ops[q.i]? = some o → o.dst = some d → wantedA ops E o = true → rk q.i < w.heap.size := fun q hq hL o d ho hd hw => by
    rcases hc.raws q hq hL o d ho hd with ⟨h, _⟩ | ⟨_, _, _, _, _, h, _⟩
    · rw [hw] at h; cases h
    · exact (Array.getElem?_eq_some_iff.1 h).1
  have hdsome : ∀ q ∈ rest, ∀ o, ops[q.i]? = some o → clOf o = .al → ∃ d, o.dst = some d := fun q hq o ho ha => by
    obtain ⟨_, _, p', _, e, pc⟩ := hall q.i o ho
    exact Option.isSome_iff_exists.1 (pc.al ha)
  refine ⟨rdy_closed hc hr, fun i hi => ?_, fun s hs' hsa => .inr (hc.acts s hs' hsa), fun q hq hL o' ho' => ?_, fun q hq hL j hj hp => ?_, hc.adn, fun s hsm q hq hn => hc.hid s hsm q hq (fun h => hn (.inr h)), fun b hb' => hc.vis b (fun s hsm q hq e => (hb' s hsm q hq e).resolve_left (hnT s hsm)), fun s hsm q hq hn => hc.blk s hsm q hq (fun h => hn (.inr h)), hc.rel.push ob, hc.stp.trans (Step.push m AD w ob), by rw [put_size]; exact hc.size, by rw [put_defers]; exact hc.defers, fun s hsm hL d hd => ?_, fun t h => ?_, fun s hsm hn => hc.rds s hsm (fun h => hn (.inr h)), fun q hq hL o' d ho' hd => ?_, fun q hq q' hq' h1 h2 hne o1 o2 e1 e2 w1 w2 => ?_⟩
  · rcases hi with rfl | hi
    · exact (Array.getElem?_eq_some_iff.1 hr.1).1
    · exact hc.lt i hi
  · rcases hL with e | hL
    · rw [e, hr.1] at ho'; injection ho' with ho'; subst ho'; exact hcl
    · exact hc.rests q hq hL o' ho'
  · rcases hL with e | hL
    · rw [e] at hp; exact hpr j hj hp
    · exact hc.rpr q hq hL j hj hp
  · rw [put_ne (dst_ne hall hr.1 (ht.tops s hsm) (fun e => hnT s hsm e.symm) hd)]
    exact hc.vals s hsm (hL.resolve_left (hnT s hsm)) d hd
  · have hne : o.dst ≠ some t := fun e => h p.i o hr.1 e (.inl rfl)
    rw [put_ne hne]
    exact hc.old t (fun j o' hj hd hL => h j o' hj hd (.inr hL))
  · by_cases e : q.i = p.i
    · rw [e, hr.1] at ho'; injection ho' with ho'; subst ho'
      refine .inr ⟨hw, vf, x, ob, hmk, ?_, hb, ?_, ?_, fun c y z hy hz => ?_⟩
      · rw [if_pos e, World.new_get, if_pos rfl]
      · rw [if_pos e]; exact hc.stp.size
      · rw [if_pos e, put_eq hd (by rw [hc.size]; exact hdst d hd)]; exact hv
      · rw [if_pos e]; have := hc.rel.low c z hz; omega
    · rw [put_ne (dst_ne hall hr.1 ho' (fun e' => e e'.symm) hd)]
      rcases hc.raws q hq (hL.resolve_left e) o' d ho' hd with h | ⟨h1, h2⟩
      · exact .inl h
      · have hk := hrk q hq (hL.resolve_left e) o' d ho' hd h1
        obtain ⟨vf', x', ob', e1, e2, e3⟩ := h2
        refine .inr ⟨h1, vf', x', ob', e1, ?_, ?_⟩
        · rw [if_neg e, World.new_get, if_neg (by omega)]; exact e2
        · rw [if_neg e]; exact e3
  · by_cases f1 : q.i = p.i
    · by_cases f2 : q'.i = p.i
      · exact absurd (f1.trans f2.symm) hne
      · have hL2 := h2.resolve_left f2
        obtain ⟨d2, hd2⟩ := hdsome q' hq' o2 e2 (hc.rests q' hq' hL2 o2 e2)
        have := hrk q' hq' hL2 o2 d2 e2 hd2 w2
        simp only [if_pos f1, if_neg f2]; omega
    · have hL1 := h1.resolve_left f1
      obtain ⟨d1, hd1⟩ := hdsome q hq o1 e1 (hc.rests q hq hL1 o1 e1)
      have := hrk q hq hL1 o1 d1 e1 hd1 w1
      by_cases f2 : q'.i = p.i
      · simp only [if_neg f1, if_pos f2]; omega
      · simp only [if_neg f1, if_neg f2]
        exact hc.rkd q hq q' hq' hL1 (h2.resolve_left f2) hne o1 o2 e1 e2 w1 w2
/-- Listing one that is not in the trace yet, is not wanted, and would make a block. -/
theorem list_raw_not (hall : AllIn ops) (ht : Trc P ops E0 A0 Q T kept rest H E A) (hc : Cnc P ops n m0 A0 w0 E0 L T rest E A m AD a w rk) {p : Pn} (hpm : p ∈ rest) {o : Oper} (hr : Rdy ops L p.i o) (hcl : clOf o = .al) (hpr : ∀ j, j < ops.size → isPred (preds ops) j p.i = true → j ∈ T.map (·.i)) (hdst : ∀ d, o.dst = some d → d < n)
    (hw : wantedA ops E o = false) : Cnc P ops n m0 A0 w0 E0 (fun j => j = p.i ∨ L j) T rest E A m AD (a.put o.dst undef) w rk := by
  obtain ⟨hr1, _, _⟩ := plan_rest _ _ _ ht.plan
  have hnT : ∀ s ∈ T, s.i ≠ p.i := fun s hs e => (hr1 p hpm).1 (by rw [← e]; exact List.mem_map.2 ⟨s, hs, rfl⟩)
  refine ⟨rdy_closed hc hr, fun i hi => ?_, fun s hs' hsa => .inr (hc.acts s hs' hsa), fun q hq hL o' ho' => ?_, fun q hq hL j hj hp => ?_, hc.adn, fun s hsm q hq hn => hc.hid s hsm q hq (fun h => hn (.inr h)), fun b hb' => hc.vis b (fun s hsm q hq e => (hb' s hsm q hq e).resolve_left (hnT s hsm)), fun s hsm q hq hn => hc.blk s hsm q hq (fun h => hn (.inr h)), hc.rel, hc.stp, by rw [put_size]; exact hc.size, by rw [put_defers]; exact hc.defers, fun s hsm hL d hd => ?_, fun t h => ?_, fun s hsm hn => hc.rds s hsm (fun h => hn (.inr h)), fun q hq hL o' d ho' hd => ?_, fun q hq q' hq' h1 h2 hne o1 o2 e1 e2 w1 w2 => ?_⟩
  · rcases hi with rfl | hi
    · exact (Array.getElem?_eq_some_iff.1 hr.1).1
    · exact hc.lt i hi
  · rcases hL with e | hL
    · rw [e, hr.1] at ho'; injection ho' with ho'; subst ho'; exact hcl
    · exact hc.rests q hq hL o' ho'
  · rcases hL with e | hL
    · rw [e] at hp; exact hpr j hj hp
    · exact hc.rpr q hq hL j hj hp
  · rw [put_ne (dst_ne hall hr.1 (ht.tops s hsm) (fun e => hnT s hsm e.symm) hd)]
    exact hc.vals s hsm (hL.resolve_left (hnT s hsm)) d hd
  · have hne : o.dst ≠ some t := fun e => h p.i o hr.1 e (.inl rfl)
    rw [put_ne hne]
    exact hc.old t (fun j o' hj hd hL => h j o' hj hd (.inr hL))
  · by_cases e : q.i = p.i
    · rw [e, hr.1] at ho'; injection ho' with ho'; subst ho'
      exact .inl ⟨hw, put_eq hd (by rw [hc.size]; exact hdst d hd)⟩
    · rw [put_ne (dst_ne hall hr.1 ho' (fun e' => e e'.symm) hd)]
      exact hc.raws q hq (hL.resolve_left e) o' d ho' hd
  · have f1 : q.i ≠ p.i := fun e => by rw [e, hr.1] at e1; injection e1 with e1; subst e1; rw [hw] at w1; cases w1
    have f2 : q'.i ≠ p.i := fun e => by rw [e, hr.1] at e2; injection e2 with e2; subst e2; rw [hw] at w2; cases w2
    exact hc.rkd q hq q' hq' (h1.resolve_left f1) (h2.resolve_left f2) hne o1 o2 e1 e2 w1 w2
end
end Go.AI
/- AIw: drawn regions, the end: a plan serves every order. -/
namespace Go.AI
open Go Go.RowKit
variable {P : Program}
theorem held_get {ops : Array Oper} {A : AH} {held : List Nat} : ∀ {H : List (Nat × Env × Value)}, heldP P ops A held H → ∀ {i : Nat} {E : Env} {v : Value} {o : Oper}, (i, E, v) ∈ H → i ∈ held → ops[i]? = some o → aOp P E o A = some (v, A)
  | [], _, i, E, v, o, hm, _, _ => by cases hm
  | r :: rs, h, i, E, v, o, hm, hh, ho => by
    obtain ⟨h1, h2⟩ := h
    rcases List.mem_cons.1 hm with e | hm
    · subst e
      simp only [List.contains_iff_mem.2 hh, if_true, ho] at h1
      exact h1
    · exact held_get h2 hm hh ho
theorem flo_get {ops : Array Oper} {E : Env} {A : AH} : ∀ {fs : List Nat}, floP P ops E A fs → ∀ {i : Nat} {o : Oper}, i ∈ fs → ops[i]? = some o → wantedA ops E o = true → (aOp P E o A).isSome = true
  | [], _, i, o, hm, _, _ => by cases hm
  | f :: fs, h, i, o, hm, ho, hw => by
    obtain ⟨h1, h2⟩ := h
    rcases List.mem_cons.1 hm with e | hm
    · subst e; simp only [ho] at h1; exact h1 hw
    · exact flo_get h2 hm ho hw
section
variable {ops : Array Oper} {n : Nat} {m0 : Mp} {A0 : AH} {w0 : World} {E0 : Env} {Q : Env → AH → Prop} {L : Nat → Prop} {T : List TR} {kept : List Nat} {p : Pn} {ps : List Pn} {rest : List Pn} {H : List (Nat × Env × Value)} {E : Env} {A : AH} {m : Mp} {AD : AH} {a : Act} {w : World} {rk : Nat → Nat}
/-- What acts is done. -/
theorem list_act (hall : AllIn ops) (ht : Trc P ops E0 A0 Q T kept (p :: ps) H E A) (hc : Cnc P ops n m0 A0 w0 E0 L T (p :: ps) E A m AD a w rk) {o : Oper} (hr : Rdy ops L p.i o) (hcl : clOf o = .act) (hD : ∀ b, AD.get b = A.get b) (hdst : ∀ d, o.dst = some d → d < n)
    {wt : Bool} {v v' : Value} {A' : AH} {m' : Mp} {w' : World} (hh : wt = true → heldP P ops A' p.held H) (hsame : wt = false → A' = A ∧ w'.heap = w.heap) (hR : Rel P m' A' w') (hs : Step m A w m' A' w') (hv : VRel m' v v') :
    Cnc P ops n m0 A0 w0 E0 (fun j => j = p.i ∨ L j) (T ++ [⟨p.i, o, E, wt, v, none⟩]) ps (E.put o.dst v) A' m' A' (a.put o.dst v') w' rk := by
  have pc := plan_cons hr.1 ht.plan
  obtain ⟨hr1, hr2, _⟩ := plan_rest _ _ _ ht.plan
  have hps : ∀ q ∈ ps, q.i ≠ p.i := fun q hq e => (List.pairwise_cons.1 hr2).1 q hq e.symm
  have hnT : ∀ s ∈ T, s.i ≠ p.i := fun s hs e => pc.nd (by rw [← e]; exact List.mem_map.2 ⟨s, hs, rfl⟩)
  have mem : ∀ {s : TR}, s ∈ T ++ [⟨p.i, o, E, wt, v, none⟩] → s ∈ T ∨ s = ⟨p.i, o, E, wt, v, none⟩ := fun hs => by simpa using hs
  have alL : ∀ s ∈ T, clOf s.o ≠ .rd → L s.i := fun s hsm hcs => by
    have := (pc.act hcl).1 s.i (List.mem_map.2 ⟨s, hsm, rfl⟩)
    rw [getD_of (ht.tops s hsm)] at this
    exact rdy_preds hc hr (this.resolve_left hcs) (hnT s hsm)
  have noal : ∀ s ∈ T, ∀ q, s.al = some q → L s.i := fun s hsm q hq => alL s hsm (fun e => by rw [ht.nal s hsm (by rw [e]; simp)] at hq; cases hq)
  have hR0 : Rel P m A w := hc.rel.ext (fun k => (hD k).symm) hc.adn.symm
  have hstp : Step m0 A0 w0 m A w := hc.stp.ext (fun k => (hD k).symm) hc.adn.symm
  refine ⟨rdy_closed hc hr, fun i hi => ?_, fun s hsm hsa => ?_, fun q hq hL => hc.rests q (by simp [hq]) (hL.resolve_left (hps q hq)), fun q hq hL j hj hp => ?_, rfl, fun s hsm q hq hn => ?_, fun b _ => rfl, fun s hsm q hq hn => ?_, hR, hstp.trans hs, by rw [put_size]; exact hc.size, by rw [put_defers]; exact hc.defers, fun s hsm hL d hd => ?_, fun t h => ?_, fun s hsm hn hr2' hw => ?_, fun q hq hL o' d ho' hd => ?_, fun q hq q' hq' h1 h2 => rkd' ht hc hr.1 v q hq q' hq' (h1.resolve_left (hps q hq)) (h2.resolve_left (hps q' hq'))⟩
  · rcases hi with rfl | hi
    · exact (Array.getElem?_eq_some_iff.1 hr.1).1
    · exact hc.lt i hi
  · rcases mem hsm with hsm | rfl
    · exact .inr (hc.acts s hsm hsa)
    · exact .inl rfl
  · rw [List.map_append]; exact List.mem_append.2 (.inl (hc.rpr q (by simp [hq]) (hL.resolve_left (hps q hq)) j hj hp))
  · rcases mem hsm with hsm | rfl
    · exact absurd (.inr (noal s hsm q hq)) hn
    · cases hq
  · rcases mem hsm with hsm | rfl
    · exact absurd (.inr (noal s hsm q hq)) hn
    · cases hq
  · rcases mem hsm with hsm | rfl
    · rw [put_ne (dst_ne hall hr.1 (ht.tops s hsm) (fun e => hnT s hsm e.symm) hd)]
      exact (hc.vals s hsm (hL.resolve_left (hnT s hsm)) d hd).mono hs.mono
    · rw [put_eq hd (by rw [hc.size]; exact hdst d hd)]; exact hv
  · have hne : o.dst ≠ some t := fun e => h p.i o hr.1 e (.inl rfl)
    rw [put_ne hne]
    exact (hc.old t (fun j o' hj hd hL => h j o' hj hd (.inr hL))).mono hs.mono
  · rcases mem hsm with hsm | rfl
    · have hnL : ¬ L s.i := fun h => hn (.inr h)
      cases hwc : wt with
      | false =>
        obtain ⟨rfl, _⟩ := hsame hwc
        exact hc.rds s hsm hnL hr2' hw
      | true =>
        cases hl : looks s.o with
        | false =>
          obtain ⟨A1, _, h2⟩ := hc.rds s hsm hnL hr2' hw
          exact ⟨A', fun _ _ h => h, (pure_move hr2' hl h2).2⟩
        | true =>
          have hx := (pc.act hcl).2.1 s.i (List.mem_map.2 ⟨s, hsm, rfl⟩)
          rw [getD_of (ht.tops s hsm)] at hx
          rcases hx hr2' hl with h | ⟨h1, h2⟩
          · exact absurd (rdy_preds hc hr h (hnT s hsm)) hnL
          · exact ⟨A', fun _ _ h => h, held_get (hh hwc) (ht.hold s hsm h2 hw) h1 (ht.tops s hsm)⟩
    · rw [hcl] at hr2'; cases hr2'
  · have hLq := hL.resolve_left (hps q hq)
    have hsl := raw_slots ht hc hr.1 v hq hLq ho'
    rw [put_ne (dst_ne hall hr.1 ho' (fun e => hps q hq e.symm) hd)]
    rcases hc.raws q (by simp [hq]) hLq o' d ho' hd with ⟨h1, h2⟩ | ⟨h1, h2⟩
    · exact .inl ⟨by rw [wantedA_congr hsl]; exact h1, h2⟩
    · refine .inr ⟨by rw [wantedA_congr hsl]; exact h1, ?_⟩
      have h3 : Raw P w0 m A w E o' (a.tmps.getD d undef) (rk q.i) := by
        obtain ⟨vf, x, ob, e1, e2, e3, e4, e5, e6⟩ := h2
        exact ⟨vf, x, ob, e1, e2, e3, e4, e5, fun c y z hy hz => e6 c y z (by rw [hD]; exact hy) hz⟩
      obtain ⟨vf, x, ob, e1, e2⟩ := h3.step hR0 hs
      exact ⟨vf, x, ob, MK_congr hsl e1, e2⟩
/-- Where a region stands, of which some is done. -/
def Inv (P : Program) (ops : Array Oper) (n : Nat) (m0 : Mp) (A0 : AH) (w0 : World) (E0 : Env) (Q : Env → AH → Prop) (L : Nat → Prop) (a : Act) (w : World) : Prop :=
  ∃ T kept rest H E A m AD rk, Trc P ops E0 A0 Q T kept rest H E A ∧ Cnc P ops n m0 A0 w0 E0 L T rest E A m AD a w rk ∧ ∀ p ps, rest = p :: ps → ∃ o, ops[p.i]? = some o ∧ clOf o = .act
theorem normal_ : ∀ (rest : List Pn) (T : List TR) (kept : List Nat) (H : List (Nat × Env × Value)) (E : Env) (A : AH) (m : Mp) (AD : AH), Trc P ops E0 A0 Q T kept rest H E A → Cnc P ops n m0 A0 w0 E0 L T rest E A m AD a w rk → (∀ p ∈ rest, ∀ o, ops[p.i]? = some o → clOf o = .act → ¬ L p.i) → Inv P ops n m0 A0 w0 E0 Q L a w := by
  intro rest
  induction rest with
  | nil => intro T kept H E A m AD ht hc _; exact ⟨T, kept, [], H, E, A, m, AD, rk, ht, hc, fun p ps e => by cases e⟩
  | cons p ps ih =>
    intro T kept H E A m AD ht hc hna
    have hlt := plan_lt ht.plan
    have ho : ops[p.i]? = some ops[p.i] := Array.getElem?_eq_getElem hlt
    generalize ops[p.i] = o at ho
    have hna' : ∀ q ∈ ps, ∀ o, ops[q.i]? = some o → clOf o = .act → ¬ L q.i := fun q hq => hna q (by simp [hq])
    have hd := ht.draw
    simp only [ADraw, ho] at hd
    obtain ⟨_, hd⟩ := hd
    cases hcl : clOf o with
    | act => exact ⟨T, kept, p :: ps, H, E, A, m, AD, rk, ht, hc, fun p' ps' e => by injection e with e1 e2; subst e1; exact ⟨o, ho, hcl⟩⟩
    | rd =>
      cases hw : wantedA ops E o with
      | true =>
        rw [if_pos hw] at hd
        unfold AStep at hd
        rw [call_act (by rw [hcl]; simp)] at hd
        simp only [] at hd
        split at hd
        · rename_i q hq
          obtain ⟨v, A'⟩ := q
          have := rd_same hcl hq
          subst this
          have hc' := adv_same ht hc ho (by rw [hcl]; simp) (wt := true) (v := v) (fun _ _ _ => hq) hw.symm (fun h => by cases h) (fun h => by rw [hcl] at h; cases h)
          have ht' := ht.snoc ho (wt := true) (v := v) (al := none) (H' := if p.keep then (p.i, E, v) :: H else H) (A' := A') hw.symm (fun h => by cases h) (fun _ => rfl) (fun h => by rw [hcl] at h; cases h) (fun q hq => by cases hq) (Nat.le_refl _) (fun _ => rfl) (fun h => by cases h) hd.2
          exact ih _ _ _ _ _ _ _ ht' hc' hna'
        · cases hd
      | false =>
        rw [if_neg (by rw [hw]; simp)] at hd
        have hc' := adv_same ht hc ho (by rw [hcl]; simp) (wt := false) (v := undef) (fun _ _ h => by cases h) hw.symm (fun _ => rfl) (fun _ => rfl)
        have ht' := ht.snoc ho (wt := false) (v := undef) (al := none) (H' := H) (A' := A) hw.symm (fun _ => ⟨rfl, rfl⟩) (fun _ => rfl) (fun h => by rw [hcl] at h; cases h) (fun q hq => by cases hq) (Nat.le_refl _) (fun h => by cases h) (fun _ => rfl) hd
        exact ih _ _ _ _ _ _ _ ht' hc' hna'
    | al =>
      cases hw : wantedA ops E o with
      | true =>
        rw [if_pos hw] at hd
        unfold AStep at hd
        rw [call_act (by rw [hcl]; simp)] at hd
        simp only [] at hd
        split at hd
        · rename_i q hq
          obtain ⟨v, A'⟩ := q
          obtain ⟨vf, x, hmk, hv, hA⟩ := al_mk hcl hq
          simp only at hd
          subst hv hA
          obtain ⟨m', AD', hc'⟩ := adv_make ht hc ho hcl hw hmk
          have ht' := ht.snoc ho (wt := true) (v := vf A.next) (al := some (A.next, x)) (H' := if p.keep then (p.i, E, vf A.next) :: H else H) (A' := A.alloc x) hw.symm (fun h => by cases h) (fun h => absurd hcl h) (fun _ _ => ⟨vf, x, A.next, hmk, rfl, rfl⟩) (fun q hq => by injection hq with hq; subst hq; simp) (by simp) (fun _ => rfl) (fun h => by cases h) hd.2
          exact ih _ _ _ _ _ _ _ ht' hc' hna'
        · cases hd
      | false =>
        rw [if_neg (by rw [hw]; simp)] at hd
        have hc' := adv_same ht hc ho (by rw [hcl]; simp) (wt := false) (v := undef) (fun _ h => by rw [hcl] at h; cases h) hw.symm (fun _ => rfl) (fun _ => rfl)
        have ht' := ht.snoc ho (wt := false) (v := undef) (al := none) (H' := H) (A' := A) hw.symm (fun _ => ⟨rfl, rfl⟩) (fun _ => rfl) (fun _ h => by cases h) (fun q hq => by cases hq) (Nat.le_refl _) (fun h => by cases h) (fun _ => rfl) hd
        exact ih _ _ _ _ _ _ _ ht' hc' hna'
/-- One that is ready is done, and the region stands further on. -/
theorem inv_step (hall : AllIn ops) (hreg : regOk n ops = true) (hi : Inv P ops n m0 A0 w0 E0 Q L a w) {i : Nat} {o : Oper} (hr : Rdy ops L i o) {K : Act → World → Prop} {X : Exit → Act → World → Prop} (hK : ∀ a' w', Inv P ops n m0 A0 w0 E0 Q (fun j => j = i ∨ L j) a' w' → K a' w') : wpOp P ops X i K a w := by
  obtain ⟨T, kept, rest, H, E, A, m, AD, rk, ht, hc, hhead⟩ := hi
  have hoT : o ∈ ops.toList := Array.mem_def.1 (Array.mem_of_getElem? hr.1)
  have hop1 : operOk n o = true := List.all_eq_true.1 hreg o hoT
  have hdst := operOk_dst hop1
  have hopd := operOk_opd hop1
  have hilt : i < ops.size := (Array.getElem?_eq_some_iff.1 hr.1).1
  obtain ⟨pr1, pr2, pr3⟩ := plan_rest _ _ _ ht.plan
  have hnoact : ∀ p ∈ rest, p.i ≠ i → ∀ o, ops[p.i]? = some o → clOf o = .act → ¬ (p.i = i ∨ L p.i) := fun p hp hne o ho hcl h => by
    have := hc.rests p hp (h.resolve_left hne) o ho
    rw [hcl] at this; cases this
  unfold wpOp
  rw [hr.1]
  simp only []
  by_cases hin : i ∈ T.map (·.i)
  · -- it was gone through
    obtain ⟨r, hrm, rfl⟩ := List.mem_map.1 hin
    have hro : o = r.o := by have := ht.tops r hrm; rw [hr.1] at this; exact Option.some.inj this
    subst hro
    obtain ⟨T1, T2, hT⟩ := List.append_of_mem hrm
    obtain ⟨_, p', _, hpi, pc⟩ := ht.pcs T1 r T2 hT
    have hsl0 := slot_rel hall ht hc hr hT (by rw [← hpi]; exact pc.nd) (fun j hj hp => pc.prs j hj (by rw [hpi]; exact hp))
    have hsl : ∀ t ∈ r.o.looksAt ops, VRel m (r.E.get t) (a.tmps.getD t undef) := fun t hin' => by rw [ht.envs T1 r T2 hT t]; exact hsl0 t hin'
    have hncl : clOf r.o ≠ .act := fun h => hr.2.1 (hc.acts r hrm h)
    have hnr : ∀ p ∈ rest, p.i ≠ r.i := fun p hp e => (pr1 p hp).1 (by rw [e]; exact hin)
    have fin : ∀ {m' AD' a' w'}, Cnc P ops n m0 A0 w0 E0 (fun j => j = r.i ∨ L j) T rest E A m' AD' a' w' rk → K a' w' := fun hc' => hK _ _ ⟨T, kept, rest, H, E, A, _, _, rk, ht, hc', hhead⟩
    rw [slots_wanted hsl, ← ht.wants r hrm]
    cases hw : r.wt with
    | false =>
      rw [if_neg (by simp)]
      obtain ⟨u1, u2⟩ := ht.unw r hrm hw
      exact fin (list_one hall ht hc hrm hr u2 hdst hc.rel (Step.refl _ _ _) (by rw [u1]; exact VRel.undef m))
    | true =>
      rw [if_pos rfl]
      refine .inl ?_
      have hop := slots_opd hopd hsl
      cases hcl : clOf r.o with
      | act => exact absurd hcl hncl
      | rd =>
        obtain ⟨A1, h1, h2⟩ := hc.rds r hrm hr.2.1 hcl hw
        have hsub : Sub m A1 AD := fun b x hm hb => by
          rw [hc.vis b (fun s hsm q hq e => Classical.byContradiction fun hn => hm (by rw [← e]; exact (hc.hid s hsm q hq hn).2))]
          exact h1 b x hb
        have hrun := (rd_move hc.rel (fun b x hm hb => hsub b x hm hb) hsub hcl (fun x hx => ⟨_, hop x hx⟩) h2).2
        obtain ⟨m', w', v', hrr, q1, q2, q3⟩ := aOp_sound hc.rel hop hrun
        unfold Oper.wp
        have := fin (list_one hall ht hc hrm hr (ht.nal r hrm (by rw [hcl]; simp)) hdst q1 q3 q2)
        rcases hrr with hrr | ⟨hrr, rfl⟩
        · rw [hrr, Oper.upon_value]; exact this
        · rw [hrr, Oper.upon_skip]; exact this
      | al =>
        obtain ⟨vf, x, id, hmk, hv, hal⟩ := ht.als r hrm hcl hw
        obtain ⟨ob, v', hrun, hb, hvv⟩ := mk_run hcl hop hmk w
        obtain ⟨m', AD', hc'⟩ := list_make hall ht hc hrm hr hal hdst hb (fun m2 hm2 => by rw [hv]; exact hvv m2 id hm2)
        unfold Oper.wp
        rw [hrun, Oper.upon_value]
        exact fin hc'
  · -- it stands in what is to come
    obtain ⟨p, hpm, rfl⟩ := (pr3 i hilt).resolve_left hin
    obtain ⟨p0, ps0, hrest⟩ : ∃ p0 ps0, rest = p0 :: ps0 := by cases rest with
      | nil => cases hpm
      | cons p0 ps0 => exact ⟨p0, ps0, rfl⟩
    subst hrest
    obtain ⟨o0, ho0, hcl0⟩ := hhead p0 ps0 rfl
    have pc0 := plan_cons ho0 ht.plan
    have hd := ht.draw
    simp only [ADraw, ho0] at hd
    obtain ⟨hflo, hd⟩ := hd
    rcases List.mem_cons.1 hpm with rfl | hps
    · -- the next that acts
      have : o0 = o := by rw [hr.1] at ho0; exact (Option.some.inj ho0).symm
      subst this
      have hD : ∀ b, AD.get b = A.get b := fun b => hc.vis b (fun s hsm q hq _ => by
        have := (pc0.act hcl0).1 s.i (List.mem_map.2 ⟨s, hsm, rfl⟩)
        rw [getD_of (ht.tops s hsm)] at this
        refine rdy_preds hc hr (this.resolve_left fun e => ?_) (fun e => hin (by rw [← e]; exact List.mem_map.2 ⟨s, hsm, rfl⟩))
        rw [ht.nal s hsm (by rw [e]; simp)] at hq; cases hq)
      have hsl0 := slot_rel hall ht hc hr (T1 := T) (T2 := []) (by simp) pc0.nd pc0.prs
      have hsl : ∀ t ∈ o0.looksAt ops, VRel m (E.get t) (a.tmps.getD t undef) := fun t hin' => by rw [ht.env t]; exact hsl0 t hin'
      have hR0 : Rel P m A w := hc.rel.ext (fun k => (hD k).symm) hc.adn.symm
      have hnoact' : ∀ q ∈ ps0, ∀ o, ops[q.i]? = some o → clOf o = .act → ¬ (q.i = p.i ∨ L q.i) := fun q hq o ho hcl => hnoact q (by simp [hq]) (fun e => (List.pairwise_cons.1 pr2).1 q hq e.symm) o ho hcl
      rw [slots_wanted hsl]
      cases hw : wantedA ops E o0 with
      | true =>
        rw [if_pos rfl]
        rw [if_pos hw] at hd
        refine .inl (step_sound hR0 (slots_opd hopd hsl) hd fun v A' m' w' v' hk r1 r2 r3 => hK _ _ ?_)
        have ht' := ht.snoc hr.1 (wt := true) (v := v) (al := none) (H' := if p.keep then (p.i, E, v) :: H else H) (A' := A') hw.symm (fun h => by cases h) (fun _ => rfl) (fun h => by rw [hcl0] at h; cases h) (fun q hq => by cases hq) r3.nx (fun _ => rfl) (fun h => by cases h) hk.2
        have hc' := list_act hall ht hc hr hcl0 hD hdst (wt := true) (fun _ => hk.1) (fun h => by cases h) r1 r3 r2
        exact normal_ ps0 _ _ _ _ _ _ _ ht' hc' hnoact'
      | false =>
        rw [if_neg (by simp)]
        rw [if_neg (by rw [hw]; simp)] at hd
        refine hK _ _ ?_
        have ht' := ht.snoc hr.1 (wt := false) (v := undef) (al := none) (H' := H) (A' := A) hw.symm (fun _ => ⟨rfl, rfl⟩) (fun _ => rfl) (fun h => by rw [hcl0] at h; cases h) (fun q hq => by cases hq) (Nat.le_refl _) (fun h => by cases h) (fun _ => rfl) hd
        have hc' := list_act hall ht hc hr hcl0 hD hdst (wt := false) (fun h => by cases h) (fun _ => ⟨rfl, rfl⟩) hR0 (Step.refl _ _ _) (VRel.undef m)
        exact normal_ ps0 _ _ _ _ _ _ _ ht' hc' hnoact'
    · -- one that makes a block, early
      have hne0 : p.i ≠ p0.i := fun e => (List.pairwise_cons.1 pr2).1 p hps e.symm
      have hn0 : ¬ L p0.i := fun h => by have := hc.rests p0 (by simp) h o0 ho0; rw [hcl0] at this; cases this
      obtain ⟨_, _, pp, _, hpi, pcp⟩ := hall p.i o hr.1
      have hcl : clOf o = .al := by
        cases hcl : clOf o with
        | al => rfl
        | act =>
          -- the head acts ahead of it
          exfalso
          obtain ⟨s1, s2, hs⟩ := List.append_of_mem hps
          have key : ∀ (s1 : List Pn) (done kept : List Nat), planGo ops (preds ops) done kept (s1 ++ p :: s2) = true → p0.i ∈ done → isPred (preds ops) p0.i p.i = true := by
            intro s1
            induction s1 with
            | nil =>
              intro done kept h hd
              have := ((plan_cons hr.1 h).act hcl).1 p0.i hd
              rw [getD_of ho0, hcl0] at this
              exact this.resolve_left (by simp)
            | cons r rs ih => intro done kept h hd; exact ih _ _ (plan_cons (Array.getElem?_eq_getElem (plan_lt h)) h).next (List.mem_append.2 (.inl hd))
          have := key s1 _ _ (by rw [← hs]; exact pc0.next) (List.mem_append.2 (.inr (by simp)))
          exact hn0 (rdy_preds hc hr this (fun e => hne0 e.symm))
        | rd =>
          exfalso
          obtain ⟨s1, s2, hs⟩ := List.append_of_mem hps
          have key : ∀ (s1 : List Pn) (done kept : List Nat), planGo ops (preds ops) done kept (s1 ++ p :: s2) = true → p0.i ∈ done → isPred (preds ops) p0.i p.i = true := by
            intro s1
            induction s1 with
            | nil =>
              intro done kept h hd
              exact (plan_cons hr.1 h).rd hcl p0.i hd (by rw [getD_of ho0]; exact hcl0)
            | cons r rs ih => intro done kept h hd; exact ih _ _ (plan_cons (Array.getElem?_eq_getElem (plan_lt h)) h).next (List.mem_append.2 (.inl hd))
          have := key s1 _ _ (by rw [← hs]; exact pc0.next) (List.mem_append.2 (.inr (by simp)))
          exact hn0 (rdy_preds hc hr this (fun e => hne0 e.symm))
      obtain ⟨hf, hpr⟩ := (((pc0.act hcl0).2.2 p hps (by rw [getD_of hr.1]; exact hcl)).resolve_left fun h => hn0 (rdy_preds hc hr h (fun e => hne0 e.symm)))
      have hsl0 := slot_rel hall ht hc hr (T1 := T) (T2 := []) (by simp) hin hpr
      have hsl : ∀ t ∈ o.looksAt ops, VRel m (E.get t) (a.tmps.getD t undef) := fun t hin' => by rw [ht.env t]; exact hsl0 t hin'
      rw [slots_wanted hsl]
      cases hw : wantedA ops E o with
      | true =>
        rw [if_pos rfl]
        refine .inl ?_
        obtain ⟨q, hq⟩ := Option.isSome_iff_exists.1 (flo_get hflo hf hr.1 hw)
        obtain ⟨v, A'⟩ := q
        obtain ⟨vf, x, hmk, _, _⟩ := al_mk hcl hq
        obtain ⟨ob, v', hrun, hb, hvv⟩ := mk_run hcl (slots_opd hopd hsl) hmk w
        unfold Oper.wp
        rw [hrun, Oper.upon_value]
        exact hK _ _ ⟨T, kept, _, H, E, A, _, _, _, ht, list_raw hall ht hc hpm hr hcl hpr hdst hw hmk hb hvv, hhead⟩
      | false =>
        rw [if_neg (by simp)]
        exact hK _ _ ⟨T, kept, _, H, E, A, _, _, _, ht, list_raw_not hall ht hc hpm hr hcl hpr hdst hw, hhead⟩
end
end Go.AI
/- AIx: drawn regions as a rule; code; calls. -/
namespace Go.AI
open Go Go.RowKit
variable {P : Program}
section
variable {ops : Array Oper} {n : Nat} {m0 : Mp} {A0 : AH} {w0 : World} {E0 : Env} {Q : Env → AH → Prop} {L : Nat → Prop} {a : Act} {w : World}
theorem inv_end (hall : AllIn ops) (hi : Inv P ops n m0 A0 w0 E0 Q L a w) (hL : ∀ i, i < ops.size → L i) : ∃ E' A' m', Rel P m' A' w ∧ ERel m' n E' a ∧ Step m0 A0 w0 m' A' w ∧ Q E' A' := by
  obtain ⟨T, kept, rest, H, E, A, m, AD, rk, ht, hc, hhead⟩ := hi
  obtain ⟨_, _, pr3⟩ := plan_rest _ _ _ ht.plan
  have hrest : rest = [] := by
    cases rest with
    | nil => rfl
    | cons p ps =>
      obtain ⟨o, ho, hcl⟩ := hhead p ps rfl
      have := hc.rests p (by simp) (hL p.i (plan_lt ht.plan)) o ho
      rw [hcl] at this; cases this
  subst hrest
  have hTL : ∀ s ∈ T, L s.i := fun s hs => hL s.i (Array.getElem?_eq_some_iff.1 (ht.tops s hs)).1
  have hD : ∀ b, A.get b = AD.get b := fun b => (hc.vis b (fun s hs _ _ _ => hTL s hs)).symm
  refine ⟨E, A, m, hc.rel.ext hD hc.adn.symm, ⟨hc.size, hc.defers, fun t => ?_⟩, hc.stp.ext hD hc.adn.symm, ht.draw⟩
  rw [ht.env t]
  by_cases hex : ∃ s ∈ T, s.o.dst = some t
  · obtain ⟨s, hs, hd⟩ := hex
    rw [look_some T t _ s hs hd (fun u hu hud => by
      by_cases e : u.i = s.i
      · rw [nodup_inj ht.nodup hu hs e]
      · exact absurd hud (dst_ne hall (ht.tops u hu) (ht.tops s hs) e hd))]
    exact hc.vals s hs (hTL s hs) t hd
  · rw [look_none T t _ (fun s hs hd => hex ⟨s, hs, hd⟩)]
    refine hc.old t (fun j o ho hd _ => ?_)
    rcases pr3 j (Array.getElem?_eq_some_iff.1 ho).1 with h | ⟨_, h, _⟩
    · obtain ⟨s, hs, rfl⟩ := List.mem_map.1 h
      have := ht.tops s hs
      rw [ho] at this; injection this with this; subst this
      exact hex ⟨s, hs, hd⟩
    · cases h
theorem inv_ready (hi : Inv P ops n m0 A0 w0 E0 Q L a w) (h : ∀ i o, ¬ Rdy ops L i o) : ∀ i, i < ops.size → L i := by
  obtain ⟨T, kept, rest, H, E, A, m, AD, rk, ht, hc, hhead⟩ := hi
  obtain ⟨_, _, pr3⟩ := plan_rest _ _ _ ht.plan
  have hT : ∀ (T2 T1 : List TR), T = T1 ++ T2 → (∀ s ∈ T1, L s.i) → ∀ s ∈ T, L s.i := by
    intro T2
    induction T2 with
    | nil => intro T1 e h1 s hs; exact h1 s (by rw [e] at hs; simpa using hs)
    | cons r T2 ih =>
      intro T1 e h1
      refine ih (T1 ++ [r]) (by simp [e]) (fun s hs => ?_)
      rcases List.mem_append.1 hs with hs | hs
      · exact h1 s hs
      · have : s = r := by simpa using hs
        subst this
        apply Classical.byContradiction
        intro hn
        obtain ⟨_, p', _, hpi, pc⟩ := ht.pcs T1 s T2 e
        refine h s.i s.o ⟨ht.tops s (by rw [e]; simp), hn, fun ed hed hb => ?_⟩
        obtain ⟨u, hu, e2⟩ := List.mem_map.1 (pc.edges ed hed hb)
        rw [← e2]; exact h1 u hu
  have hTL := hT T [] rfl (by simp)
  have hrest : rest = [] := by
    cases rest with
    | nil => rfl
    | cons p ps =>
      exfalso
      obtain ⟨o, ho, hcl⟩ := hhead p ps rfl
      have pc := plan_cons ho ht.plan
      refine h p.i o ⟨ho, fun hL => ?_, fun ed hed hb => ?_⟩
      · have := hc.rests p (by simp) hL o ho; rw [hcl] at this; cases this
      · obtain ⟨u, hu, e2⟩ := List.mem_map.1 (pc.edges ed hed hb)
        rw [← e2]; exact hTL u hu
  subst hrest
  intro i hi
  rcases pr3 i hi with h | ⟨_, h, _⟩
  · obtain ⟨s, hs, rfl⟩ := List.mem_map.1 h; exact hTL s hs
  · cases h
end
def unl (ops : Array Oper) (listed : Array Bool) : Nat := ((List.range ops.size).filter fun i => !listed.getD i true).length
theorem filter_lt {α : Type} (f g : α → Bool) : ∀ (l : List α) (x : α), x ∈ l → f x = true → g x = false → (∀ y, g y = true → f y = true) → (l.filter g).length < (l.filter f).length
  | [], x, h, _, _, _ => by cases h
  | y :: l, x, h, hf, hg, hm => by
    have hle : ∀ l : List α, (l.filter g).length ≤ (l.filter f).length := by
      intro l
      induction l with
      | nil => simp
      | cons z l ih =>
        simp only [List.filter_cons]
        cases hgz : g z with
        | true => rw [hm z hgz]; simpa using ih
        | false => cases hfz : f z <;> simp <;> omega
    rcases List.mem_cons.1 h with rfl | h
    · simp only [List.filter_cons, hf, hg]
      have := hle l
      simp; omega
    · have := filter_lt f g l x h hf hg hm
      simp only [List.filter_cons]
      cases hgy : g y with
      | true => rw [hm y hgy]; simpa using this
      | false => cases hfy : f y <;> simp <;> omega
theorem inv_any {ops : Array Oper} {n : Nat} {m0 : Mp} {A0 : AH} {w0 : World} {E0 : Env} {Q : Exit → Env → AH → Prop} (hall : AllIn ops) (hreg : regOk n ops = true) : ∀ (fuel : Nat) (listed : Array Bool) (a : Act) (w : World), listed.size = ops.size → unl ops listed ≤ fuel →
    Inv P ops n m0 A0 w0 E0 (Q .normal) (fun i => listed.getD i false = true) a w → wpAny P .any ops (Fin P n m0 A0 w0 Q) fuel listed a w := by
  intro fuel
  have rdy : ∀ (listed : Array Bool) (i : Nat), i ∈ Region.ready .any ops listed → listed.size = ops.size → ∃ o, Rdy ops (fun i => listed.getD i false = true) i o := by
    intro listed i hi hsz
    obtain ⟨h1, o, ho, h2⟩ := mem_ready.1 hi
    refine ⟨o, ho, fun h => ?_, fun e he hb => h2 e (Array.mem_def.2 he) hb⟩
    have hlt : i < listed.size := by rw [hsz]; exact (Array.getElem?_eq_some_iff.1 ho).1
    simp [Array.getD_eq_getD_getElem?, hlt] at h h1
    rw [h] at h1; cases h1
  have nordy : ∀ (listed : Array Bool), listed.size = ops.size → Region.ready .any ops listed = [] → ∀ i o, ¬ Rdy ops (fun i => listed.getD i false = true) i o := by
    intro listed hsz hnil i o hr
    have : i ∈ Region.ready .any ops listed := by
      refine mem_ready.2 ⟨?_, o, hr.1, fun e he hb => hr.2.2 e (Array.mem_def.1 he) hb⟩
      have hlt : i < listed.size := by rw [hsz]; exact (Array.getElem?_eq_some_iff.1 hr.1).1
      have h2 := hr.2.1
      simp [Array.getD_eq_getD_getElem?, hlt] at h2 ⊢
      exact h2
    rw [hnil] at this; cases this
  have done : ∀ (listed : Array Bool) (a : Act) (w : World), listed.size = ops.size → Inv P ops n m0 A0 w0 E0 (Q .normal) (fun i => listed.getD i false = true) a w → Region.ready .any ops listed = [] → Fin P n m0 A0 w0 Q .normal a w := by
    intro listed a w hsz hi hnil
    have hL := inv_ready hi (nordy listed hsz hnil)
    obtain ⟨E', A', m', h1, h2, h3, h4⟩ := inv_end hall hi hL
    exact ⟨E', A', m', h1, h2, h3, h4⟩
  induction fuel with
  | zero =>
    intro listed a w hsz hu hi
    have hnil : Region.ready .any ops listed = [] := by
      cases hr : Region.ready .any ops listed with
      | nil => rfl
      | cons i is =>
        have hi : i ∈ Region.ready .any ops listed := by rw [hr]; simp
        obtain ⟨h1, o, ho, _⟩ := mem_ready.1 hi
        have : i ∈ (List.range ops.size).filter fun i => !listed.getD i true := List.mem_filter.2 ⟨List.mem_range.2 (Array.getElem?_eq_some_iff.1 ho).1, by simp [h1]⟩
        have := List.length_pos_of_mem this
        unfold unl at hu
        omega
    exact ⟨hnil, done listed a w hsz hi hnil⟩
  | succ fuel ih =>
    intro listed a w hsz hu hi
    refine ⟨done listed a w hsz hi, fun i hir => ?_⟩
    obtain ⟨o, hr⟩ := rdy listed i hir hsz
    have hlt : i < listed.size := by rw [hsz]; exact (Array.getElem?_eq_some_iff.1 hr.1).1
    refine inv_step hall hreg hi hr fun a' w' hi' => ih _ a' w' (by simp [hsz]) ?_ ?_
    · have h1 := (mem_ready.1 hir).1
      have := filter_lt (fun i => !listed.getD i true) (fun j => !(listed.setIfInBounds i true).getD j true) (List.range ops.size) i (List.mem_range.2 (by omega)) (by simp [h1]) (by simp [Array.getD_eq_getD_getElem?, hlt]) (fun j hj => by
        by_cases e : i = j
        · subst e; simp [Array.getD_eq_getD_getElem?, hlt] at hj
        · rw [getD_set_ne true e] at hj; exact hj)
      unfold unl at hu ⊢
      omega
    · have : (fun j => (listed.setIfInBounds i true).getD j false = true) = fun j => j = i ∨ listed.getD j false = true := by
        funext j
        by_cases e : i = j
        · subst e; simp [Array.getD_eq_getD_getElem?, hlt]
        · rw [getD_set_ne false e]
          apply propext
          exact ⟨fun h => .inr h, fun h => h.resolve_left fun h => e h.symm⟩
      rw [this]
      exact hi'
/-- A drawn region, gone through by a plan. -/
theorem region_draw {n : Nat} {ops : Array Oper} {plan : List Pn} (hm : P.follows .mixedOrders = true) (hreg : regOk n ops = true) (hplan : planOk ops plan = true) {Q : Exit → Env → AH → Prop} {m : Mp} {A : AH} {w : World} {E : Env} {a : Act} (hR : Rel P m A w) (hE : ERel m n E a)
    (h : ADraw P ops plan [] E A (Q .normal)) (id : Nat) : (Code.region id ops true).wp P (Fin P n m A w Q) a w := by
  refine wp_region_any hm ?_
  have hall := all_in hplan
  have hR1 := hR.drawn (w.drawn + 1)
  refine inv_any (E0 := E) hall hreg _ _ _ _ (by simp) ?_ ?_
  · unfold unl
    exact Nat.le_trans (List.length_filter_le _ _) (by simp)
  · have hL : (fun i => (Array.replicate ops.size false).getD i false = true) = fun _ => False := by
      funext i
      simp [Array.getD_eq_getD_getElem?, Array.getElem?_replicate]
      split <;> simp
    rw [hL]
    have ht : Trc P ops E A (Q .normal) [] [] plan [] E A := ⟨hplan, fun r h => (by cases h), fun t => rfl, fun T1 r T2 e => (by simp at e), fun T1 r T2 e => (by simp at e), fun r h => (by cases h), fun r h => (by cases h), fun r h => (by cases h), fun r h => (by cases h), fun r h => (by cases h), fun r h => (by cases h), fun r h => (by cases h), fun r h => (by cases h), h, by simp, Nat.le_refl _⟩
    have hc : Cnc P ops n m A w E (fun _ => False) [] plan E A m A a { w with drawn := w.drawn + 1 } (fun _ => 0) := ⟨fun _ _ _ _ h => h.elim, fun _ h => h.elim, fun r h => (by cases h), fun _ _ h => h.elim, fun _ _ h => h.elim, rfl, fun r h => (by cases h), fun _ _ => rfl, fun r h => (by cases h), hR1, Step.drawn m A w _, hE.1, hE.2.1, fun r h => (by cases h), fun t _ => hE.2.2 t, fun r h => (by cases h), fun _ _ h => h.elim, fun _ _ _ _ h => h.elim⟩
    exact normal_ plan [] [] [] E A m A ht hc (fun _ _ _ _ _ h => h)
end Go.AI
/- AIy: code and calls over named blocks. -/
namespace Go.AI
open Go Go.RowKit
set_option linter.unusedVariables false
variable {P : Program}
/-- What a piece of code comes to. -/
def AC (P : Program) (n : Nat) (c : Code) (E : Env) (A : AH) (Q : Exit → Env → AH → Prop) : Prop :=
  ∀ (m : Mp) (w : World) (a : Act), Rel P m A w → ERel m n E a → c.wp P (Fin P n m A w Q) a w
/-- Where a piece of code ends and another one goes on. -/
def onN (K : Env → AH → Prop) (Q : Exit → Env → AH → Prop) : Exit → Env → AH → Prop
  | .normal, E, A => K E A
  | ex, E, A => Q ex E A
section
variable {n : Nat} {E : Env} {A : AH} {Q : Exit → Env → AH → Prop}
theorem AC.mono {c : Code} {Q' : Exit → Env → AH → Prop} (h : AC P n c E A Q) (hq : ∀ ex E' A', A'.wf → A.next ≤ A'.next → Q ex E' A' → Q' ex E' A') : AC P n c E A Q' :=
  fun m w a hR hE => wp_mono (h m w a hR hE) fun ex a' w' ⟨E', A', m', h1, h2, h3, h4⟩ => ⟨E', A', m', h1, h2, h3, hq ex E' A' h1.wf h3.nx h4⟩
theorem AC.wf {c : Code} (h : A.wf → AC P n c E A Q) : AC P n c E A Q := fun m w a hR hE => h hR.wf m w a hR hE
theorem AC.skip (h : Q .normal E A) : AC P n .skip E A Q := fun m w a hR hE => wp_skip ⟨E, A, m, hR, hE, Step.refl _ _ _, h⟩
theorem AC.label {l : Nat} (h : Q .normal E A) : AC P n (.label l) E A Q := fun m w a hR hE => wp_label ⟨E, A, m, hR, hE, Step.refl _ _ _, h⟩
theorem AC.exit {id : Nat} (h : Q (.exit id) E A) : AC P n (.exit id) E A Q := fun m w a hR hE => wp_exit ⟨E, A, m, hR, hE, Step.refl _ _ _, h⟩
theorem AC.ret (h : Q .ret E A) : AC P n .ret E A Q := fun m w a hR hE => wp_ret ⟨E, A, m, hR, hE, Step.refl _ _ _, h⟩
theorem AC.seq {x y : Code} (h : AC P n x E A (onN (fun E' A' => AC P n y E' A' Q) Q)) : AC P n (.seq x y) E A Q := fun m w a hR hE =>
  wp_seq (wp_mono (h m w a hR hE) fun ex a' w' ⟨E', A', m', h1, h2, h3, h4⟩ => by
    cases ex with
    | normal => exact wp_mono (h4 m' w' a' h1 h2) fun ex a w hf => hf.step h3
    | _ => exact ⟨E', A', m', h1, h2, h3, h4⟩)
theorem AC.region {ops : Array Oper} {id : Nat} (hok : regOk n ops = true) (h : AOps P ops ops.toList E A (Q .normal)) : AC P n (.region id ops false) E A Q := fun m w a hR hE => region_plain hok hR hE h id
theorem AC.draw {ops : Array Oper} {id : Nat} (plan : List Pn) (hm : P.follows .mixedOrders = true) (hok : regOk n ops = true) (hplan : planOk ops plan = true) (h : ADraw P ops plan [] E A (Q .normal)) : AC P n (.region id ops true) E A Q := fun m w a hR hE => region_draw hm hok hplan hR hE h id
theorem AC.cond {c : Operand} {x y : Code} {t : Bool} (hc : opdOk c = true) (he : ev E c = .bool t) (h : AC P n (if t then x else y) E A Q) : AC P n (.cond c x y) E A Q := fun m w a hR hE => by
  have := hE.ev hc
  rw [he] at this
  exact wp_cond (bool_rel' this) (h m w a hR hE)
/-- Out of a block. -/
def outOf (id : Nat) (Q : Exit → Env → AH → Prop) : Exit → Env → AH → Prop
  | .exit id', E, A => if id' = id then Q .normal E A else Q (.exit id') E A
  | ex, E, A => Q ex E A
theorem AC.block {id : Nat} {c : Code} (h : AC P n c E A (outOf id Q)) : AC P n (.block id c) E A Q := fun m w a hR hE =>
  wp_block (wp_mono (h m w a hR hE) fun ex a' w' ⟨E', A', m', h1, h2, h3, h4⟩ => by
    cases ex with
    | exit id' =>
      simp only [Exit.inBlock, outOf] at h4 ⊢
      split at h4
      · rename_i e; rw [if_pos e]; exact ⟨E', A', m', h1, h2, h3, h4⟩
      · rename_i e; rw [if_neg e]; exact ⟨E', A', m', h1, h2, h3, h4⟩
    | _ => exact ⟨E', A', m', h1, h2, h3, h4⟩)
theorem least {p : Nat → Prop} (h : ∃ k, p k) : ∃ k, p k ∧ ∀ j, p j → k ≤ j := by
  obtain ⟨k, hk⟩ := h
  induction k using Nat.strongRecOn with
  | _ k ih =>
    by_cases hex : ∃ j, j < k ∧ p j
    · obtain ⟨j, hj, hp⟩ := hex; exact ih j hj hp
    · exact ⟨k, hk, fun j hj => Nat.le_of_not_lt fun hlt => hex ⟨j, hlt, hj⟩⟩
/-- A loop, of which something holds, and which comes nearer to its end each round. -/
theorem AC.loop {c : Code} (I : Nat → Env → AH → Prop) (k0 : Nat) (h0 : I k0 E A) (round : ∀ k E' A', A'.wf → A.next ≤ A'.next → I k E' A' → AC P n c E' A' (onN (fun E2 A2 => ∃ k', k' < k ∧ I k' E2 A2) Q)) : AC P n (.loop c) E A Q := fun m w a hR hE => by
  let J : Act → World → Nat → Prop := fun a' w' k => ∃ E' A' m', Rel P m' A' w' ∧ ERel m' n E' a' ∧ Step m A w m' A' w' ∧ I k E' A'
  classical
  let mu : Act → World → Nat := fun a' w' => if h : ∃ k, J a' w' k then Classical.choose (least h) else 0
  have hmu : ∀ a' w' k, J a' w' k → J a' w' (mu a' w') ∧ mu a' w' ≤ k := by
    intro a' w' k hk
    have hex : ∃ k, J a' w' k := ⟨k, hk⟩
    have hs := Classical.choose_spec (least hex)
    have e : mu a' w' = Classical.choose (least hex) := dif_pos hex
    rw [e]
    exact ⟨hs.1, hs.2 k hk⟩
  refine wp_loop (fun a' w' => ∃ k, J a' w' k) mu ⟨k0, E, A, m, hR, hE, Step.refl _ _ _, h0⟩ fun a' w' hI => ?_
  obtain ⟨k, hk⟩ := hI
  obtain ⟨⟨E', A', m', h1, h2, h3, h4⟩, _⟩ := hmu a' w' k hk
  refine wp_mono (round _ E' A' h1.wf h3.nx h4 m' w' a' h1 h2) fun ex a2 w2 ⟨E2, A2, m2, g1, g2, g3, g4⟩ => ?_
  cases ex with
  | normal =>
    obtain ⟨k', hlt, hI'⟩ := g4
    have hJ : J a2 w2 k' := ⟨E2, A2, m2, g1, g2, h3.trans g3, hI'⟩
    exact ⟨⟨k', hJ⟩, Nat.lt_of_le_of_lt (hmu a2 w2 k' hJ).2 hlt⟩
  | _ => exact ⟨E2, A2, m2, g1, g2, h3.trans g3, g4⟩
end
/-! Calls. -/
def aRes (P : Program) (E : Env) (A : AH) : List ResultVar → Option (List Value)
  | [] => some []
  | .tmp t :: rs => (aRes P E A rs).map fun l => E.get t :: l
  | .cell t T :: rs => (aLoad P T (E.get t) A).bind fun v => (aRes P E A rs).map fun l => v :: l
def oneOf : List Value → Value
  | [v] => v
  | vs => .tuple vs.toArray
def resF (a : Act) : ResultVar → Sem Value
  | .tmp t => pure (a.tmps.getD t undef)
  | .cell q t => do loadVar t (← asAddr (a.tmps.getD q undef))
theorem results_eq (fn : Func) (a : Act) : results fn a.tmps = (fn.results.mapM (resF a) >>= fun vs => pure (if h : vs.size = 1 then vs[0] else .tuple vs)) := by
  unfold results
  congr 1
theorem run_res {m : Mp} {A : AH} {w : World} (hR : Rel P m A w) {n : Nat} {E : Env} {a : Act} (hE : ERel m n E a) : ∀ (rs : List ResultVar) (l : List Value), aRes P E A rs = some l →
    ∃ l', (rs.mapM (resF a)).run P w = .ok l' w ∧ LRel m l l'
  | [], l, h => by injection h with h; subst h; exact ⟨[], rfl, LRel.nil m⟩
  | .tmp t :: rs, l, h => by
    simp only [aRes, Option.map_eq_some_iff] at h
    obtain ⟨l0, h0, rfl⟩ := h
    obtain ⟨l', hr, hl⟩ := run_res hR hE rs l0 h0
    refine ⟨a.tmps.getD t undef :: l', ?_, LRel.cons (hE.2.2 t) hl⟩
    rw [List.mapM_cons]
    rw [run_bind _ _ _ (show (resF a (.tmp t)).run P w = .ok (a.tmps.getD t undef) w from rfl), run_bind _ _ _ hr]; rfl
  | .cell t T :: rs, l, h => by
    simp only [aRes] at h
    rw [Option.bind_eq_some_iff] at h
    obtain ⟨v, hv, h⟩ := h
    simp only [Option.map_eq_some_iff] at h
    obtain ⟨l0, h0, rfl⟩ := h
    obtain ⟨l', hr, hl⟩ := run_res hR hE rs l0 h0
    have hx := hE.2.2 t
    unfold aLoad at hv
    split at hv
    · rename_i b o hbo
      rw [hbo] at hx
      generalize hxe : a.tmps.getD t undef = xe at hx
      cases hx with
      | ptr _ _ p hp =>
        split at hv
        · rename_i cs E' ro hb
          obtain ⟨cur, fr, hg, htot, hsz, hfr, hlen, hl2⟩ := held_row hR hb hp
          split at hv
          · rename_i ht
            split at hv
            · rename_i n' hn
              split at hv
              · rename_i hle
                injection hv with hv; subst hv
                refine ⟨.agg ((cur.toList.drop (p.base + o)).take n').toArray :: l', ?_, LRel.cons (VRel.agg_iff.2 (hl2.window o n' hle)) hl⟩
                rw [List.mapM_cons]
                have e1 : resF a (.cell t T) = loadVar T ⟨p.b, p.base + o, none⟩ := by simp only [resF, hxe, asAddr, pure_bind]
                rw [e1]
                have : (loadVar T ⟨p.b, p.base + o, none⟩).run P w = .ok (.agg ((cur.toList.drop (p.base + o)).take n').toArray) w := by
                  unfold loadVar
                  rw [run_bind _ _ _ (run_agg ht w)]
                  simp only [if_true]
                  rw [run_bind _ _ _ (run_sz hn w), run_bind _ _ _ (run_lc (a := ⟨p.b, p.base + o, none⟩) hg rfl n' (by show p.base + o + n' ≤ _; omega))]
                  rfl
                rw [run_bind _ _ _ this, run_bind _ _ _ hr]; rfl
              · cases hv
            · cases hv
          · rename_i ht
            obtain ⟨v', hv', hvr⟩ := hl2.get hv
            have ho : o < cs.length := (List.getElem?_eq_some_iff.1 hv).1
            rw [window_get _ _ _ _ ho] at hv'
            refine ⟨v' :: l', ?_, LRel.cons hvr hl⟩
            rw [List.mapM_cons]
            have e1 : resF a (.cell t T) = loadVar T ⟨p.b, p.base + o, none⟩ := by simp only [resF, hxe, asAddr, pure_bind]
            rw [e1]
            have : (loadVar T ⟨p.b, p.base + o, none⟩).run P w = .ok v' w := by
              unfold loadVar
              rw [run_bind _ _ _ (run_agg ht w)]
              simp only [Bool.false_eq_true, if_false]
              exact run_load (by rw [cell_of (by exact hg) rfl]; simpa using hv')
            rw [run_bind _ _ _ this, run_bind _ _ _ hr]; rfl
          · cases hv
        · cases hv
    · cases hv
theorem one_rel {m : Mp} {l : List Value} {l' : List Value} (h : LRel m l l') : VRel m (oneOf l) (if hs : l'.toArray.size = 1 then l'.toArray[0] else .tuple l'.toArray) := by
  have hl := h.1
  by_cases h1 : l.length = 1
  · obtain ⟨v, rfl⟩ := List.length_eq_one_iff.1 h1
    obtain ⟨v', rfl⟩ := List.length_eq_one_iff.1 (by rw [← hl]; exact h1)
    rw [dif_pos (by rfl)]
    exact h.2 0 _ _ rfl rfl
  · rw [dif_neg (by simpa using (by rw [← hl]; exact h1 : ¬ l'.length = 1))]
    have : oneOf l = .tuple l.toArray := by
      unfold oneOf
      split
      · exact absurd rfl h1
      · rfl
    rw [this]
    exact VRel.tuple_iff.2 (by simpa using h)
/-- A function's code, from its arguments to its results. -/
theorem ACall.intro {f : FuncId} {fn : Func} {c : Code} {args : List Value} {A : AH} {R : Value → AH → Prop} (hen : Enters P f) (hf : P.funcs[f]? = some fn) (hb : fn.body = some c)
    (h : AC P (args.length + (fn.ntmps - args.length)) c (Env.of args 0) A fun ex E' A' => (ex = .normal ∨ ex = .ret) ∧ ∃ l, aRes P E' A' fn.results.toList = some l ∧ R (oneOf l) A') : ACall P f args A R := by
  refine ACall.enter hen fun m w args' hR hl => calls_of_wp hf hb ?_
  have hsz : args'.size = args.length := by have := hl.1; simp at this; exact this.symm
  have hE : ERel m (args.length + (fn.ntmps - args.length)) (Env.of args 0) { tmps := args' ++ Array.replicate (fn.ntmps - args'.size) undef, defers := [] } := by
    refine ⟨by simp [hsz], rfl, fun t => ?_⟩
    rw [Env.get_of]
    simp only [Nat.zero_le, if_true, Nat.sub_zero, Array.getD_eq_getD_getElem?]
    rcases Nat.lt_or_ge t args'.size with ht | ht
    · rw [Array.getElem?_append_left ht]
      have := hl.getD t undef undef (VRel.undef m)
      simpa using this
    · rw [List.getElem?_eq_none (by omega), Array.getElem?_append_right ht, Array.getElem?_replicate]
      split <;> exact VRel.undef m
  refine wp_mono (h m w _ hR hE) fun ex a' w' ⟨E', A', m', h1, h2, h3, h4, l, h5, h6⟩ => ?_
  obtain ⟨l', hr, hl'⟩ := run_res h1 h2 _ _ h5
  have hres : (results fn a'.tmps).run P w' = .ok (if hs : l'.toArray.size = 1 then l'.toArray[0] else .tuple l'.toArray) w' := by
    rw [results_eq, Array.mapM_eq_mapM_toList]
    rw [show (List.toArray <$> fn.results.toList.mapM (resF a')) = (fn.results.toList.mapM (resF a') >>= fun x => pure x.toArray) from rfl]
    rw [bind_assoc, run_bind _ _ _ hr]; rfl
  have fin : a'.defers = [] ∧ ∃ v, (results fn a'.tmps).run P w' = .ok v w' ∧ ∃ u v' A2 m2, Ending.returned v = .returned v' ∧ R u A2 ∧ Rel P m2 A2 w' ∧ VRel m2 u v' ∧ Step m A w m2 A2 w' :=
    ⟨h2.2.1, _, hres, _, _, A', m', rfl, h6, h1, one_rel hl', h3⟩
  rcases h4 with rfl | rfl
  · exact fin
  · exact fin
/-- From the outside: a call in a world of which nothing needs be known. -/
theorem ACall.calls {f : FuncId} {args : List Value} {R : Value → AH → Prop} {m : Mp} {A : AH} {w : World} {args' : Array Value} (hen : Enters P f) (h : ACall P f args A R) (hR : Rel P m A w) (hl : LRel m args args'.toList) (hro : ∀ b x, A.get b = some x → x.ro = true) {R' : Ending → World → Prop}
    (hr : ∀ v v' A' m' w', R v A' → VRel m' v v' → Below w.heap.size w w' → R' (.returned v') w') : Calls P f args' w R' :=
  (h.entered hen hR hl).mono fun e w' ⟨v, v', A', m', he, h1, h2, h3, h4⟩ => by
    subst he
    exact hr v v' A' m' w' h1 h3 ⟨h4.os, h4.tape, h4.output, h4.size, fun k hk => h4.keep k hk (fun ⟨b, p, x, hb, hx, _⟩ => by rw [hro b x hb] at hx; cases hx)⟩
end Go.AI
/- AIz: code as a condition that simp can take apart. -/
namespace Go.AI
open Go Go.RowKit
set_option linter.unusedVariables false
variable {P : Program}
/-- Of what may be there: it is there, and serves. -/
def oK {α : Type} (o : Option α) (k : α → Prop) : Prop := match o with | some x => k x | none => False
@[congr] theorem oK_congr {α : Type} {o o' : Option α} {k : α → Prop} (h : o = o') : oK o k = oK o' k := by rw [h]
theorem oK_map {α β : Type} (o : Option α) (f : α → β) (k : β → Prop) : oK (o.map f) k = oK o fun x => k (f x) := by cases o <;> rfl
theorem oK_bind {α β : Type} (o : Option α) (f : α → Option β) (k : β → Prop) : oK (o.bind f) k = oK o fun x => oK (f x) k := by cases o <;> rfl
/-- A value that is a Bool. -/
def bK (v : Value) (p q : Prop) : Prop := match v with | .bool true => p | .bool false => q | _ => False
@[congr] theorem bK_congr {v v' : Value} {p q : Prop} (h : v = v') : bK v p q = bK v' p q := by rw [h]
/-- The operations of a region, one behind the other. -/
def AO (P : Program) (ops : Array Oper) : List Oper → Env → AH → (Env → AH → Prop) → Prop
  | [], E, A, K => K E A
  | o :: os, E, A, K =>
    match o.guard with
    | none =>
      match o.op with
      | .call c =>
        match c.callee with
        | .builtin _ => oK (aOp P E o A) fun q => AO P ops os (E.put o.dst q.1) q.2 K
        | _ => oK (aCallee P E o) fun q => ACall P q.1 q.2 A fun v A' => AO P ops os (E.put o.dst v) A' K
      | _ => oK (aOp P E o A) fun q => AO P ops os (E.put o.dst q.1) q.2 K
    | some _ => if wantedA ops E o = true then AStep P E o A fun v A' => AO P ops os (E.put o.dst v) A' K else AO P ops os (E.put o.dst undef) A K
theorem AStep_mono {E : Env} {o : Oper} {A : AH} {K K' : Value → AH → Prop} (h : AStep P E o A K) (hk : ∀ v A', K v A' → K' v A') : AStep P E o A K' := by
  unfold AStep at h ⊢
  split at h
  · exact h.mono fun v A' _ _ hv => hk v A' hv
  · split at h
    · exact hk _ _ h
    · cases h
theorem AO_ops (ops : Array Oper) : ∀ (os : List Oper) (E : Env) (A : AH) (K : Env → AH → Prop), AO P ops os E A K → AOps P ops os E A K := by
  intro os
  induction os with
  | nil => intro E A K h; exact h
  | cons o os ih =>
    intro E A K h
    simp only [AO] at h
    simp only [AOps]
    cases hg : o.guard with
    | none =>
      rw [hg] at h
      simp only [] at h
      have hw : wantedA ops E o = true := by unfold wantedA; rw [hg]
      rw [if_pos hw]
      have one : oK (aOp P E o A) (fun q => AO P ops os (E.put o.dst q.1) q.2 K) → (∀ c, o.op = .call c → ∃ b, c.callee = .builtin b) → AStep P E o A fun v A' => AOps P ops os (E.put o.dst v) A' K := by
        intro h hc
        unfold AStep
        have : aCallee P E o = none := by
          unfold aCallee
          split
          · rename_i c hop
            obtain ⟨b, hb⟩ := hc c hop
            rw [hb]
          · rfl
        rw [this]
        simp only []
        unfold oK at h
        split at h
        · rename_i q hq; rw [hq]; exact ih _ _ _ h
        · cases h
      split at h
      · rename_i c hop
        split at h
        · rename_i b hb; exact one h (fun c' e => by rw [hop] at e; injection e with e; subst e; exact ⟨b, hb⟩)
        · unfold oK at h
          split at h
          · rename_i q hq
            unfold AStep
            rw [hq]
            exact h.mono fun v A' _ _ hv => ih _ _ _ hv
          · cases h
      · rename_i hne; exact one h (fun c e => absurd e (hne c))
    | some g =>
      rw [hg] at h
      simp only [] at h
      split at h
      · rw [if_pos ‹_›]; exact AStep_mono h fun v A' hv => ih _ _ _ hv
      · rw [if_neg ‹_›]; exact ih _ _ _ h
@[congr] theorem AO_congr {ops : Array Oper} {os : List Oper} {E E' : Env} {A A' : AH} {K : Env → AH → Prop} (h1 : E = E') (h2 : A = A') : AO P ops os E A K = AO P ops os E' A' K := by rw [h1, h2]
@[congr] theorem ACall_congr {f : FuncId} {as as' : List Value} {A A' : AH} {R : Value → AH → Prop} (h1 : as = as') (h2 : A = A') : ACall P f as A R = ACall P f as' A' R := by rw [h1, h2]
@[congr] theorem AC_congr {n : Nat} {c : Code} {E E' : Env} {A A' : AH} {Q : Exit → Env → AH → Prop} (h1 : E = E') (h2 : A = A') : AC P n c E A Q = AC P n c E' A' Q := by rw [h1, h2]
/-- Code, taken apart as far as loops and drawn regions. -/
def AW (P : Program) (n : Nat) : Code → Env → AH → (Exit → Env → AH → Prop) → Prop
  | .skip, E, A, Q => Q .normal E A
  | .label _, E, A, Q => Q .normal E A
  | .exit id, E, A, Q => Q (.exit id) E A
  | .ret, E, A, Q => Q .ret E A
  | .seq x y, E, A, Q => AW P n x E A (onN (fun E' A' => AW P n y E' A' Q) Q)
  | .cond c x y, E, A, Q => bK (ev E c) (AW P n x E A Q) (AW P n y E A Q)
  | .block id c, E, A, Q => AW P n c E A (outOf id Q)
  | .region id ops false, E, A, Q => AO P ops ops.toList E A (Q .normal)
  | .region id ops true, E, A, Q => AC P n (.region id ops true) E A Q
  | .loop c, E, A, Q => AC P n (.loop c) E A Q
  | _, _, _, _ => False
@[congr] theorem AW_congr {n : Nat} {c : Code} {E E' : Env} {A A' : AH} {Q : Exit → Env → AH → Prop} (h1 : E = E') (h2 : A = A') : AW P n c E A Q = AW P n c E' A' Q := by rw [h1, h2]
/-- Is code right throughout? -/
def codeOk (n : Nat) : Code → Bool
  | .seq x y => codeOk n x && codeOk n y
  | .cond c x y => opdOk c && (codeOk n x && codeOk n y)
  | .block _ c => codeOk n c
  | .loop c => codeOk n c
  | .region _ ops _ => regOk n ops
  | _ => true
theorem AW.sound {n : Nat} : ∀ (c : Code), codeOk n c = true → ∀ {E : Env} {A : AH} {Q : Exit → Env → AH → Prop}, AW P n c E A Q → AC P n c E A Q := by
  intro c
  induction c with
  | skip => intro _ E A Q h; exact AC.skip h
  | label l => intro _ E A Q h; exact AC.label h
  | exit id => intro _ E A Q h; exact AC.exit h
  | ret => intro _ E A Q h; exact AC.ret h
  | seq x y ihx ihy =>
    intro hok E A Q h
    simp only [codeOk, Bool.and_eq_true] at hok
    refine AC.seq ((ihx hok.1 h).mono fun ex E' A' _ _ hq => ?_)
    cases ex with
    | normal => exact ihy hok.2 hq
    | _ => exact hq
  | cond c x y ihx ihy =>
    intro hok E A Q h
    simp only [codeOk, Bool.and_eq_true] at hok
    simp only [AW, bK] at h
    split at h
    · rename_i he; exact AC.cond (t := true) hok.1 he (by rw [if_pos rfl]; exact ihx hok.2.1 h)
    · rename_i he; exact AC.cond (t := false) hok.1 he (by rw [if_neg (by simp)]; exact ihy hok.2.2 h)
    · cases h
  | block id c ih => intro hok E A Q h; exact AC.block (ih hok h)
  | loop c ih => intro _ E A Q h; exact h
  | region id ops d =>
    intro hok E A Q h
    cases d with
    | false => exact AC.region hok (AO_ops _ _ _ _ _ h)
    | true => exact h
  | _ => intro _ E A Q h; exact h.elim
@[congr] theorem onN_congr {K : Env → AH → Prop} {Q : Exit → Env → AH → Prop} {ex : Exit} {E E' : Env} {A A' : AH} (h1 : E = E') (h2 : A = A') : onN K Q ex E A = onN K Q ex E' A' := by rw [h1, h2]
@[congr] theorem outOf_congr {id : Nat} {Q : Exit → Env → AH → Prop} {ex : Exit} {E E' : Env} {A A' : AH} (h1 : E = E') (h2 : A = A') : outOf id Q ex E A = outOf id Q ex E' A' := by rw [h1, h2]
theorem Env.put_some (E : Env) (d : Nat) (v : Value) : E.put (some d) v = E.set d v := rfl
theorem Env.put_none (E : Env) (v : Value) : E.put none v = E := rfl
end Go.AI
/- AI0: what simp needs for going through code. -/
namespace Go.AI
open Go Go.RowKit
set_option linter.unusedVariables false
variable {P : Program}
@[simp ↓] theorem ev_tmp (E : Env) (t : Nat) : ev E (.tmp t) = E.get t := (rfl)
@[simp ↓] theorem ev_const (E : Env) (v : Value) : ev E (.const v) = v := (rfl)
@[simp ↓] theorem ev_func (E : Env) (f : FuncId) : ev E (.func f) = .func (.func f) #[] #[] := (rfl)
attribute [simp ↓] Env.get_set
attribute [simp] Env.put_some Env.put_none
/-- A load from a block. -/
def ldAt (x : Option Blk) (ag : Option Bool) (sz : Option Nat) (o : Nat) : Option Value :=
  match x with
  | some (.row cs _ _) =>
    match ag with
    | some true => match sz with
      | some n => if o + n ≤ cs.length then some (.agg ((cs.drop o).take n).toArray) else none
      | none => none
    | some false => cs[o]?
    | none => none
  | _ => none
@[simp] theorem aLoad_ptr (T : TypeId) (b o : Nat) (A : AH) : aLoad P T (.pointer (some ⟨b, o, none⟩)) A = ldAt (A.get b) (aggOf P T) (szOf P T) o := (rfl)
@[simp] theorem ldAt_one (cs : List Value) (E : TypeId) (ro : Bool) (sz : Option Nat) (o : Nat) : ldAt (some (.row cs E ro)) (some false) sz o = cs[o]? := (rfl)
@[simp] theorem ldAt_agg (cs : List Value) (E : TypeId) (ro : Bool) (n : Nat) (o : Nat) : ldAt (some (.row cs E ro)) (some true) (some n) o = if o + n ≤ cs.length then some (.agg ((cs.drop o).take n).toArray) else none := (rfl)
/-- A store into a block. -/
def stAt (A : AH) (b : Nat) (x : Option Blk) (sz : Option Nat) (o : Nat) (vs : List Value) : Option AH :=
  match x with
  | some (.row cs E false) => if sz = some vs.length ∧ o + vs.length ≤ cs.length ∧ vs.all oneB = true then some (A.set b (.row (spl cs o vs) E false)) else none
  | _ => none
@[simp] theorem aStore_ptr (T : TypeId) (b o : Nat) (v : Value) (A : AH) : aStore P T (.pointer (some ⟨b, o, none⟩)) v A = stAt A b (A.get b) (szOf P T) o v.cells.toList := by
  unfold aStore stAt
  simp only []
  generalize A.get b = gb
  cases gb with
  | none => rfl
  | some x => cases x with
    | row cs E ro => cases ro <;> simp only [Array.length_toList]
    | mp es => rfl
@[simp] theorem stAt_row (A : AH) (b : Nat) (cs : List Value) (E : TypeId) (sz : Option Nat) (o : Nat) (vs : List Value) : stAt A b (some (.row cs E false)) sz o vs = if sz = some vs.length ∧ o + vs.length ≤ cs.length ∧ vs.all oneB = true then some (A.set b (.row (spl cs o vs) E false)) else none := (rfl)
def fdAt (q : Option (Nat × TypeId)) (sz : TypeId → Option Nat) (b o : Nat) : Option Value :=
  match q with
  | some (off, T) => if sz T = none ∨ sz T = some 0 then none else some (.pointer (some ⟨b, o + off, none⟩))
  | none => none
@[simp] theorem aFieldAddr_ptr (S : TypeId) (b o f : Nat) : aFieldAddr P S (.pointer (some ⟨b, o, none⟩)) f = fdAt (fieldOf P S f) (szOf P) b o := (rfl)
@[simp] theorem fdAt_some (off : Nat) (T : TypeId) (sz : TypeId → Option Nat) (b o : Nat) : fdAt (some (off, T)) sz b o = if sz T = none ∨ sz T = some 0 then none else some (.pointer (some ⟨b, o + off, none⟩)) := (rfl)
@[simp] theorem aNil_ptr (a : Addr) : aNil (.pointer (some a)) = some (.pointer (some a)) := (rfl)
@[simp] theorem aNil_func (f : FuncId) (a c : Array Value) : aNil (.func (.func f) a c) = some (.func (.func f) a c) := (rfl)
@[simp] theorem aLen_slice (T e : TypeId) (a : Option Addr) (n c : Nat) (A : AH) (h : sliceElem P T = some e) : aLen P T (.slice a n c) A = some (.int .i64 n) := by
  unfold aLen; rw [sliceElem_spec h]; rfl
@[simp] theorem aIndexAddr_ptr (T : TypeId) (b o : Nat) (k : IntKind) (i : Int) : aIndexAddr P T (.pointer (some ⟨b, o, none⟩)) (.int k i) = (arrElem P T).bind fun q => (szOf P q.2).bind fun s => if 0 ≤ i ∧ i < q.1 then some (.pointer (some ⟨b, o + i.toNat * s, none⟩)) else none := by
  unfold aIndexAddr; cases arrElem P T with
  | none => rfl
  | some q => obtain ⟨n, e⟩ := q; simp only [Option.bind_some]; cases szOf P e <;> rfl
@[simp] theorem aIndexAddr_slice (T : TypeId) (b o n c : Nat) (k : IntKind) (i : Int) : aIndexAddr P T (.slice (some ⟨b, o, none⟩) n c) (.int k i) = ((sliceElem P T).bind (szOf P)).bind fun s => if 0 ≤ i ∧ i < n then some (.pointer (some ⟨b, o + i.toNat * s, none⟩)) else none := by
  unfold aIndexAddr; cases (sliceElem P T).bind (szOf P) <;> rfl
@[simp] theorem aBin_int (A : AH) (op : BinOp) (T : TypeId) (k : IntKind) (a b : Int) : aBin P A op T (.int k a) (.int k b) = intBin op k a b := by simp [aBin]
@[simp] theorem aUn_not (b : Bool) : aUn .not (.bool b) = some (.bool !b) := (rfl)
@[simp] theorem aUn_neg (k : IntKind) (n : Int) : aUn .neg (.int k n) = some (.int k (k.wrap (0 - n))) := (rfl)
attribute [simp ↓] AH.get_set AH.get_alloc AH.get_kill
attribute [simp] Value.cells
@[simp] theorem aBox_eq (T : TypeId) (v : Value) (A : AH) : aBox T v A = (.pointer (some ⟨A.next, 0, none⟩), A.alloc (.row v.cells.toList T false)) := (rfl)
@[simp] theorem aAlloc_eq (T : TypeId) (A : AH) : aAlloc P T A = (zeroOf P T).map fun z => (.pointer (some ⟨A.next, 0, none⟩), A.alloc (.row z.cells.toList T false)) := (rfl)
@[simp] theorem aExtract_tuple (vs : Array Value) (i : Nat) : aExtract (.tuple vs) i = vs.toList[i]? := (rfl)
@[simp] theorem aRes_nil (E : Env) (A : AH) : aRes P E A [] = some [] := (rfl)
@[simp] theorem aRes_tmp (E : Env) (A : AH) (t : Nat) (rs : List ResultVar) : aRes P E A (.tmp t :: rs) = (aRes P E A rs).map fun l => E.get t :: l := (rfl)
@[simp] theorem aRes_cell (E : Env) (A : AH) (t : Nat) (T : TypeId) (rs : List ResultVar) : aRes P E A (.cell t T :: rs) = (aLoad P T (E.get t) A).bind fun v => (aRes P E A rs).map fun l => v :: l := (rfl)
@[simp] theorem oneOf_one (v : Value) : oneOf [v] = v := (rfl)
@[simp] theorem oneOf_two (u v : Value) (l : List Value) : oneOf (u :: v :: l) = .tuple (u :: v :: l).toArray := (rfl)
@[simp ↓] theorem Env.of_get (vs : List Value) (k : Nat) : (Env.of vs 0).get k = (vs[k]?).getD undef := by rw [Env.get_of]; simp
end Go.AI
/- AI1: code without what only the machine looks at: guards resolved, drawn regions in one order. -/
namespace Go.AI
open Go Go.RowKit
set_option linter.unusedVariables false
variable {P : Program}
/-- An operation: with a slot or none, under a guard or none. -/
inductive RI where
  | p (d : Nat) (o : Op)
  | n (o : Op)
  | g (t : Nat) (b : Bool) (d : Nat) (o : Op)
  | gn (t : Nat) (b : Bool) (o : Op)
  | bad
/-- An operation of a drawn region: what was read and must still be so behind it, what might be made before it. -/
structure DI where
  i : Nat
  r : RI
  held : List Nat
  flo : List RI
  keep : Bool
inductive SC where
  | skip | ret | bad
  | exit (id : Nat)
  | seq (x y : SC)
  | cond (c : Operand) (x y : SC)
  | block (id : Nat) (x : SC)
  | loop (x : SC)
  | reg (l : List RI)
  | draw (l : List DI)
def compI (ops : Array Oper) (o : Oper) : RI :=
  match o.guard, o.dst with
  | none, some d => .p d o.op
  | none, none => .n o.op
  | some (j, b), some d => match (ops[j]?).bind (·.dst) with | some t => .g t b d o.op | none => .bad
  | some (j, b), none => match (ops[j]?).bind (·.dst) with | some t => .gn t b o.op | none => .bad
def compN (ops : Array Oper) (i : Nat) : RI := match ops[i]? with | some o => compI ops o | none => .bad
def compD (ops : Array Oper) (p : Pn) : DI := ⟨p.i, compN ops p.i, p.held, p.flo.map (compN ops), p.keep⟩
def Pn.plain (p : Pn) : Bool := p.held.isEmpty && p.flo.isEmpty
def comp : Code → SC
  | .skip => .skip
  | .label _ => .skip
  | .exit id => .exit id
  | .ret => .ret
  | .seq x y => .seq (comp x) (comp y)
  | .cond c x y => .cond c (comp x) (comp y)
  | .block id x => .block id (comp x)
  | .loop x => .loop (comp x)
  | .region _ ops false => .reg (ops.toList.map (compI ops))
  | .region _ ops true =>
    let plan := planOf ops
    if plan.all Pn.plain then .reg (plan.map fun p => compN ops p.i) else .draw (plan.map (compD ops))
  | _ => .bad
def goodC (n : Nat) : Code → Bool
  | .seq x y => goodC n x && goodC n y
  | .cond c x y => opdOk c && (goodC n x && goodC n y)
  | .block _ c => goodC n c
  | .loop c => goodC n c
  | .region _ ops false => regOk n ops
  | .region _ ops true => regOk n ops && planOk ops (planOf ops)
  | _ => true
def iOp (P : Program) (E : Env) (o : Op) (A : AH) : Option (Value × AH) := aOp P E ⟨none, o, 0, default, #[], none⟩ A
def iCallee (P : Program) (E : Env) (o : Op) : Option (FuncId × List Value) := aCallee P E ⟨none, o, 0, default, #[], none⟩
theorem iOp_eq (E : Env) (o : Oper) (A : AH) : aOp P E o A = iOp P E o.op A := rfl
theorem iCallee_eq (E : Env) (o : Oper) : aCallee P E o = iCallee P E o.op := rfl
/-- One operation, and what is done behind it. -/
def iS (P : Program) (o : Op) (E : Env) (A : AH) (k : Value → AH → Prop) : Prop :=
  match o with
  | .call c =>
    match c.callee with
    | .builtin _ => oK (iOp P E o A) fun q => k q.1 q.2
    | _ => oK (iCallee P E o) fun q => ACall P q.1 q.2 A k
  | _ => oK (iOp P E o A) fun q => k q.1 q.2
/-- Under a guard. -/
def gK (v : Value) (b : Bool) (x y : Prop) : Prop := match v with | .bool c => if c = b then x else y | _ => y
def SO (P : Program) : List RI → Env → AH → (Env → AH → Prop) → Prop
  | [], E, A, K => K E A
  | .p d o :: l, E, A, K => iS P o E A fun v A' => SO P l (E.set d v) A' K
  | .n o :: l, E, A, K => iS P o E A fun _ A' => SO P l E A' K
  | .g t b d o :: l, E, A, K => gK (E.get t) b (iS P o E A fun v A' => SO P l (E.set d v) A' K) (SO P l (E.set d undef) A K)
  | .gn t b o :: l, E, A, K => gK (E.get t) b (iS P o E A fun _ A' => SO P l E A' K) (SO P l E A K)
  | .bad :: _, _, _, _ => False
theorem iS_step {o : Oper} {E : Env} {A : AH} {k : Value → AH → Prop} (h : iS P o.op E A k) : AStep P E o A k := by
  unfold AStep
  rw [iCallee_eq, iOp_eq]
  have one : oK (iOp P E o.op A) (fun q => k q.1 q.2) → (∀ c, o.op = .call c → ∃ b, c.callee = .builtin b) → (match iCallee P E o.op with | some q => ACall P q.1 q.2 A k | none => match iOp P E o.op A with | some q => k q.1 q.2 | none => False) := by
    intro h hc
    have : iCallee P E o.op = none := by
      unfold iCallee aCallee
      simp only []
      split
      · rename_i c hop
        obtain ⟨b, hb⟩ := hc c hop
        rw [hb]
      · rfl
    rw [this]
    simp only []
    cases hq : iOp P E o.op A with
    | none => rw [hq] at h; exact h
    | some q => rw [hq] at h; exact h
  unfold iS at h
  split at h
  · rename_i c hop
    split at h
    · rename_i b hb; exact one h (fun c' e => by rw [hop] at e; injection e with e; subst e; exact ⟨b, hb⟩)
    · unfold oK at h
      split at h
      · rename_i q hq; rw [hq]; exact h
      · cases h
  · rename_i hne; exact one h (fun c e => absurd e (hne c))
theorem gK_want {ops : Array Oper} {E : Env} {o : Oper} {j t : Nat} {b : Bool} {x y : Prop} (hg : o.guard = some (j, b)) (ht : (ops[j]?).bind (·.dst) = some t) (h : gK (E.get t) b x y) : (wantedA ops E o = true ∧ x) ∨ (wantedA ops E o = false ∧ y) := by
  unfold gK at h
  split at h
  · rename_i c hv
    have : wantedA ops E o = (c == b) := by unfold wantedA; rw [hg]; simp only [ht, hv]
    rw [this]
    split at h
    · rename_i e; exact Or.inl ⟨by rw [e]; simp, h⟩
    · rename_i e; exact Or.inr ⟨by simpa using e, h⟩
  · rename_i hv
    refine Or.inr ⟨?_, h⟩
    unfold wantedA; rw [hg]; simp only [ht]
theorem compI_wanted {ops : Array Oper} {o : Oper} {l : List RI} {E : Env} {A : AH} {K : Env → AH → Prop} (h : SO P (compI ops o :: l) E A K) :
    (wantedA ops E o = true ∧ AStep P E o A fun v A' => SO P l (E.put o.dst v) A' K) ∨ (wantedA ops E o = false ∧ SO P l (E.put o.dst undef) A K) := by
  unfold compI at h
  split at h
  · rename_i d hg hd
    simp only [SO] at h
    refine Or.inl ⟨by unfold wantedA; rw [hg], ?_⟩
    rw [hd]
    exact iS_step h
  · rename_i hg hd
    simp only [SO] at h
    refine Or.inl ⟨by unfold wantedA; rw [hg], ?_⟩
    rw [hd]
    exact iS_step h
  · rename_i j b d hg hd
    split at h
    · rename_i t ht
      simp only [SO] at h
      rw [hd]
      rcases gK_want hg ht h with ⟨h1, h2⟩ | ⟨h1, h2⟩
      · exact Or.inl ⟨h1, iS_step h2⟩
      · exact Or.inr ⟨h1, h2⟩
    · simp only [SO] at h
  · rename_i j b hg hd
    split at h
    · rename_i t ht
      simp only [SO] at h
      rw [hd]
      rcases gK_want hg ht h with ⟨h1, h2⟩ | ⟨h1, h2⟩
      · exact Or.inl ⟨h1, iS_step h2⟩
      · exact Or.inr ⟨h1, h2⟩
    · simp only [SO] at h
theorem SO_ops (ops : Array Oper) : ∀ (os : List Oper) (E : Env) (A : AH) (K : Env → AH → Prop), SO P (os.map (compI ops)) E A K → AOps P ops os E A K := by
  intro os
  induction os with
  | nil => intro E A K h; exact h
  | cons o os ih =>
    intro E A K h
    rw [List.map_cons] at h
    simp only [AOps]
    rcases compI_wanted h with ⟨h1, h2⟩ | ⟨h1, h2⟩
    · rw [if_pos h1]; exact AStep_mono h2 fun v A' hv => ih _ _ _ hv
    · rw [if_neg (by rw [h1]; simp)]; exact ih _ _ _ h2
theorem heldP_nil (ops : Array Oper) (A : AH) : ∀ (H : List (Nat × Env × Value)), heldP P ops A [] H
  | [] => trivial
  | r :: rs => ⟨by simp, heldP_nil ops A rs⟩
theorem SO_draw (ops : Array Oper) : ∀ (plan : List Pn) (H : List (Nat × Env × Value)) (E : Env) (A : AH) (K : Env → AH → Prop), plan.all Pn.plain = true → SO P (plan.map fun p => compN ops p.i) E A K → ADraw P ops plan H E A K := by
  intro plan
  induction plan with
  | nil => intro H E A K _ h; exact h
  | cons p ps ih =>
    intro H E A K hp h
    rw [List.all_cons, Bool.and_eq_true] at hp
    obtain ⟨hp, hps⟩ := hp
    unfold Pn.plain at hp
    rw [Bool.and_eq_true, List.isEmpty_iff, List.isEmpty_iff] at hp
    rw [List.map_cons] at h
    simp only [ADraw]
    unfold compN at h
    cases ho : ops[p.i]? with
    | none => rw [ho] at h; simp only [SO] at h
    | some o =>
      rw [ho] at h
      simp only [] at h ⊢
      rw [hp.1, hp.2]
      refine ⟨trivial, ?_⟩
      rcases compI_wanted h with ⟨h1, h2⟩ | ⟨h1, h2⟩
      · rw [if_pos h1]; exact AStep_mono h2 fun v A' hv => ⟨heldP_nil _ _ _, ih _ _ _ _ hps hv⟩
      · rw [if_neg (by rw [h1]; simp)]; exact ih _ _ _ _ hps h2
def ableI (P : Program) (E : Env) (A : AH) : RI → Prop
  | .p _ o => (iOp P E o A).isSome = true
  | .n o => (iOp P E o A).isSome = true
  | .g t b _ o => gK (E.get t) b ((iOp P E o A).isSome = true) True
  | .gn t b o => gK (E.get t) b ((iOp P E o A).isSome = true) True
  | .bad => False
def floI (P : Program) (E : Env) (A : AH) : List RI → Prop
  | [] => True
  | f :: fs => ableI P E A f ∧ floI P E A fs
def heldI (P : Program) (A : AH) (held : List Nat) : List (Nat × Op × Env × Value) → Prop
  | [] => True
  | r :: rs => (if held.contains r.1 then iOp P r.2.2.1 r.2.1 A = some (r.2.2.2, A) else True) ∧ heldI P A held rs
def SD (P : Program) : List DI → List (Nat × Op × Env × Value) → Env → AH → (Env → AH → Prop) → Prop
  | [], _, E, A, K => K E A
  | p :: ps, H, E, A, K =>
    floI P E A p.flo ∧
    match p.r with
    | .p d o => iS P o E A fun v A' => heldI P A' p.held H ∧ SD P ps (if p.keep then (p.i, o, E, v) :: H else H) (E.set d v) A' K
    | .n o => iS P o E A fun v A' => heldI P A' p.held H ∧ SD P ps (if p.keep then (p.i, o, E, v) :: H else H) E A' K
    | .g t b d o => gK (E.get t) b (iS P o E A fun v A' => heldI P A' p.held H ∧ SD P ps (if p.keep then (p.i, o, E, v) :: H else H) (E.set d v) A' K) (SD P ps H (E.set d undef) A K)
    | .gn t b o => gK (E.get t) b (iS P o E A fun v A' => heldI P A' p.held H ∧ SD P ps (if p.keep then (p.i, o, E, v) :: H else H) E A' K) (SD P ps H E A K)
    | .bad => False
def frH (r : Nat × Op × Env × Value) : Nat × Env × Value := (r.1, r.2.2.1, r.2.2.2)
theorem ableI_able {ops : Array Oper} {o : Oper} {E : Env} {A : AH} (h : ableI P E A (compI ops o)) : wantedA ops E o = true → (aOp P E o A).isSome = true := by
  intro hw
  unfold compI at h
  split at h
  · exact h
  · exact h
  · rename_i j b d hg hd
    split at h
    · rename_i t ht
      rcases gK_want hg ht h with ⟨_, h2⟩ | ⟨h1, _⟩
      · exact h2
      · rw [h1] at hw; cases hw
    · exact h.elim
  · rename_i j b hg hd
    split at h
    · rename_i t ht
      rcases gK_want hg ht h with ⟨_, h2⟩ | ⟨h1, _⟩
      · exact h2
      · rw [h1] at hw; cases hw
    · exact h.elim
theorem floI_flo {ops : Array Oper} {E : Env} {A : AH} : ∀ (l : List Nat), floI P E A (l.map (compN ops)) → floP P ops E A l
  | [], _ => trivial
  | f :: fs, h => by
    refine ⟨?_, floI_flo fs h.2⟩
    have h1 := h.1
    unfold compN at h1
    split
    · rename_i o ho; rw [ho] at h1; exact ableI_able h1
    · trivial
theorem heldI_held {ops : Array Oper} {A : AH} {held : List Nat} : ∀ (H : List (Nat × Op × Env × Value)), (∀ r ∈ H, ∃ o, ops[r.1]? = some o ∧ o.op = r.2.1) → heldI P A held H → heldP P ops A held (H.map frH)
  | [], _, _ => trivial
  | r :: rs, hr, h => by
    rw [List.map_cons]
    refine ⟨?_, heldI_held rs (fun x hx => hr x (List.mem_cons_of_mem _ hx)) h.2⟩
    have h1 := h.1
    obtain ⟨o, ho, hop⟩ := hr r List.mem_cons_self
    show (if held.contains r.1 = true then (match ops[r.1]? with | some o => aOp P r.2.2.1 o A = some (r.2.2.2, A) | none => True) else True)
    by_cases hc : held.contains r.1 = true
    · rw [if_pos hc] at h1
      rw [if_pos hc, ho]
      show aOp P r.2.2.1 o A = _
      rw [iOp_eq, hop]; exact h1
    · rw [if_neg hc]; trivial
theorem SD_draw (ops : Array Oper) : ∀ (plan : List Pn) (H : List (Nat × Op × Env × Value)) (E : Env) (A : AH) (K : Env → AH → Prop), (∀ r ∈ H, ∃ o, ops[r.1]? = some o ∧ o.op = r.2.1) → SD P (plan.map (compD ops)) H E A K → ADraw P ops plan (H.map frH) E A K := by
  intro plan
  induction plan with
  | nil => intro H E A K _ h; exact h
  | cons p ps ih =>
    intro H E A K hH h
    rw [List.map_cons] at h
    simp only [SD] at h
    obtain ⟨hf, h⟩ := h
    simp only [compD] at hf h
    cases ho : ops[p.i]? with
    | none => unfold compN at h; rw [ho] at h; exact h.elim
    | some o =>
      simp only [ADraw, ho]
      refine ⟨floI_flo _ hf, ?_⟩
      unfold compN at h
      rw [ho] at h
      simp only [] at h
      have key : ∀ (v : Value) (A' : AH), heldI P A' p.held H ∧ SD P (ps.map (compD ops)) (if p.keep then (p.i, o.op, E, v) :: H else H) (E.put o.dst v) A' K → heldP P ops A' p.held (H.map frH) ∧ ADraw P ops ps (if p.keep then (p.i, E, v) :: H.map frH else H.map frH) (E.put o.dst v) A' K := by
        intro v A' ⟨h1, h2⟩
        refine ⟨heldI_held _ hH h1, ?_⟩
        have := ih (if p.keep then (p.i, o.op, E, v) :: H else H) (E.put o.dst v) A' K (by
          intro r hr
          split at hr
          · rcases List.mem_cons.1 hr with rfl | hr
            · exact ⟨o, ho, rfl⟩
            · exact hH r hr
          · exact hH r hr) h2
        cases hk : p.keep with
        | true => rw [hk] at this; simpa [frH] using this
        | false => rw [hk] at this; simpa using this
      unfold compI at h
      split at h
      · rename_i d o' he
        split at he
        · rename_i d' hg hd
          injection he with e1 e2; subst e1; subst e2
          have hw : wantedA ops E o = true := by unfold wantedA; rw [hg]
          rw [if_pos hw, hd]; rw [hd] at key
          exact AStep_mono (iS_step h) key
        · cases he
        · split at he <;> cases he
        · split at he <;> cases he
      · rename_i o' he
        split at he
        · cases he
        · rename_i hg hd
          injection he with e2; subst e2
          have hw : wantedA ops E o = true := by unfold wantedA; rw [hg]
          rw [if_pos hw, hd]; rw [hd] at key
          exact AStep_mono (iS_step h) key
        · split at he <;> cases he
        · split at he <;> cases he
      · rename_i t b d o' he
        split at he
        · cases he
        · cases he
        · rename_i j b' d' hg hd
          split at he
          · rename_i t' ht
            injection he with e1 e2 e3 e4; subst e1; subst e2; subst e3; subst e4
            rcases gK_want hg ht h with ⟨h1, h2⟩ | ⟨h1, h2⟩
            · rw [if_pos h1, hd]; rw [hd] at key; exact AStep_mono (iS_step h2) key
            · rw [if_neg (by rw [h1]; simp), hd]; exact ih H _ _ _ hH h2
          · cases he
        · split at he <;> cases he
      · rename_i t b o' he
        split at he
        · cases he
        · cases he
        · split at he <;> cases he
        · rename_i j b' hg hd
          split at he
          · rename_i t' ht
            injection he with e1 e2 e4; subst e1; subst e2; subst e4
            rcases gK_want hg ht h with ⟨h1, h2⟩ | ⟨h1, h2⟩
            · rw [if_pos h1, hd]; rw [hd] at key; exact AStep_mono (iS_step h2) key
            · rw [if_neg (by rw [h1]; simp), hd]; exact ih H _ _ _ hH h2
          · cases he
      · exact h.elim
/-- A loop: something holds of each round, and it ends. -/
def SL (body : Env → AH → (Exit → Env → AH → Prop) → Prop) (E : Env) (A : AH) (Q : Exit → Env → AH → Prop) : Prop :=
  ∃ (I : Nat → Env → AH → Prop) (k0 : Nat), I k0 E A ∧ ∀ k E' A', A'.wf → A.next ≤ A'.next → I k E' A' → body E' A' (onN (fun E2 A2 => ∃ k', k' < k ∧ I k' E2 A2) Q)
def SW (P : Program) : SC → Env → AH → (Exit → Env → AH → Prop) → Prop
  | .skip, E, A, Q => Q .normal E A
  | .exit id, E, A, Q => Q (.exit id) E A
  | .ret, E, A, Q => Q .ret E A
  | .seq x y, E, A, Q => SW P x E A (onN (fun E' A' => SW P y E' A' Q) Q)
  | .cond c x y, E, A, Q => bK (ev E c) (SW P x E A Q) (SW P y E A Q)
  | .block id c, E, A, Q => SW P c E A (outOf id Q)
  | .loop c, E, A, Q => SL (SW P c) E A Q
  | .reg l, E, A, Q => SO P l E A (Q .normal)
  | .draw l, E, A, Q => SD P l [] E A (Q .normal)
  | .bad, _, _, _ => False
theorem SW.sound (hm : P.follows .mixedOrders = true) {n : Nat} : ∀ (c : Code), goodC n c = true → ∀ {E : Env} {A : AH} {Q : Exit → Env → AH → Prop}, SW P (comp c) E A Q → AC P n c E A Q := by
  intro c
  induction c with
  | skip => intro _ E A Q h; exact AC.skip h
  | label l => intro _ E A Q h; exact AC.label h
  | exit id => intro _ E A Q h; exact AC.exit h
  | ret => intro _ E A Q h; exact AC.ret h
  | seq x y ihx ihy =>
    intro hok E A Q h
    simp only [goodC, Bool.and_eq_true] at hok
    refine AC.seq ((ihx hok.1 h).mono fun ex E' A' _ _ hq => ?_)
    cases ex with
    | normal => exact ihy hok.2 hq
    | _ => exact hq
  | cond c x y ihx ihy =>
    intro hok E A Q h
    simp only [goodC, Bool.and_eq_true] at hok
    simp only [comp, SW, bK] at h
    split at h
    · rename_i he; exact AC.cond (t := true) hok.1 he (by rw [if_pos rfl]; exact ihx hok.2.1 h)
    · rename_i he; exact AC.cond (t := false) hok.1 he (by rw [if_neg (by simp)]; exact ihy hok.2.2 h)
    · cases h
  | block id c ih => intro hok E A Q h; exact AC.block (ih hok h)
  | loop c ih =>
    intro hok E A Q h
    obtain ⟨I, k0, h0, hr⟩ := h
    exact AC.loop I k0 h0 fun k E' A' h1 h2 h3 => ih hok (hr k E' A' h1 h2 h3)
  | region id ops d =>
    intro hok E A Q h
    cases d with
    | false => exact AC.region hok (SO_ops _ _ _ _ _ h)
    | true =>
      simp only [goodC, Bool.and_eq_true] at hok
      refine AC.draw (planOf ops) hm hok.1 hok.2 ?_
      simp only [comp] at h
      split at h
      · rename_i hp; exact SO_draw ops _ _ _ _ _ hp h
      · exact SD_draw ops _ [] _ _ _ (fun r hr => by cases hr) h
  | _ => intro _ E A Q h; exact h.elim
/-- What a function's code is. -/
structure CodeIs (P : Program) (f : FuncId) (n : Nat) (c : SC) (rs : List ResultVar) : Prop where
  enters : Enters P f
  code : ∃ fn b, P.funcs[f]? = some fn ∧ fn.body = some b ∧ comp b = c ∧ goodC n b = true ∧ fn.ntmps = n ∧ fn.results.toList = rs
  mixed : P.follows .mixedOrders = true
def fin (P : Program) (rs : List ResultVar) (R : Value → AH → Prop) (ex : Exit) (E : Env) (A : AH) : Prop :=
  match ex with
  | .normal => oK (aRes P E A rs) fun l => R (oneOf l) A
  | .ret => oK (aRes P E A rs) fun l => R (oneOf l) A
  | _ => False
/-! What simp is told. What comes later stands where simp does not go: in the place of an instance. -/
class Kn (α : Type) where
  go : α
def finI (P : Program) (rs : List ResultVar) [R : Kn (Value → AH → Prop)] (ex : Exit) (E : Env) (A : AH) : Prop := fin P rs R.go ex E A
theorem CodeIs.call {f : FuncId} {n : Nat} {c : SC} {rs : List ResultVar} (h : CodeIs P f n c rs) {args : List Value} {A : AH} {R : Value → AH → Prop} (hl : args.length ≤ n) (hb : A.wf → SW P c (Env.of args 0) A (@finI P rs ⟨R⟩)) : ACall P f args A R := by
  obtain ⟨fn, b, h1, h2, h3, h4, h5, h6⟩ := h.code
  refine ACall.wf fun hwf => ACall.intro h.enters h1 h2 ?_
  have hn : args.length + (fn.ntmps - args.length) = n := by omega
  rw [hn]
  refine (SW.sound h.mixed b h4 (by rw [h3]; exact hb hwf)).mono fun ex E' A' _ _ hq => ?_
  unfold finI fin at hq
  rw [h6]
  split at hq
  · unfold oK at hq; split at hq
    · rename_i l hl; exact ⟨Or.inl rfl, l, hl, hq⟩
    · cases hq
  · unfold oK at hq; split at hq
    · rename_i l hl; exact ⟨Or.inr rfl, l, hl, hq⟩
    · cases hq
  · cases hq
def oN {α : Type} (o : Option α) [k : Kn (α → Prop)] : Prop := oK o k.go
def bN (v : Value) [x : Kn Prop] [y : Kn Prop] : Prop := bK v x.go y.go
def gN (v : Value) (b : Bool) [x : Kn Prop] [y : Kn Prop] : Prop := gK v b x.go y.go
def CN (P : Program) (f : FuncId) (as : List Value) (A : AH) [k : Kn (Value → AH → Prop)] : Prop := ACall P f as A k.go
def LN (P : Program) (E : Env) (A : AH) [c : Kn SC] [Q : Kn (Exit → Env → AH → Prop)] : Prop := SL (SW P c.go) E A Q.go
attribute [congr] ite_congr
/-- The end of a function. -/
def DN (v : Value) (A : AH) [R : Kn (Value → AH → Prop)] : Prop := R.go v A
theorem DN.of {v : Value} {A : AH} {R : Value → AH → Prop} (h : R v A) : @DN v A ⟨R⟩ := h
/-- The end of a round. -/
def NX (E : Env) (A : AH) [K : Kn (Env → AH → Prop)] : Prop := K.go E A
theorem NX.of {E : Env} {A : AH} {K : Env → AH → Prop} (h : K E A) : @NX E A ⟨K⟩ := h
@[simp ↓] theorem oN_some {α : Type} (x : α) (k : α → Prop) : @oN α (some x) ⟨k⟩ = k x := (rfl)
@[simp] theorem oN_none {α : Type} (k : Kn (α → Prop)) : @oN α none k = False := (rfl)
@[simp ↓] theorem oN_map {α β : Type} (o : Option α) (f : α → β) (k : β → Prop) : @oN β (o.map f) ⟨k⟩ = @oN α o ⟨fun x => k (f x)⟩ := oK_map o f k
@[simp ↓] theorem oN_bind {α β : Type} (o : Option α) (f : α → Option β) (k : β → Prop) : @oN β (o.bind f) ⟨k⟩ = @oN α o ⟨fun x => @oN β (f x) ⟨k⟩⟩ := oK_bind o f k
@[simp] theorem oN_ite_none {α : Type} (p : Prop) [Decidable p] (x : Option α) (k : Kn (α → Prop)) : @oN α (if p then x else none) k = (p ∧ @oN α x k) := by
  split
  · simp [*]
  · simp [*]
@[simp] theorem bN_true (x y : Prop) : @bN (.bool true) ⟨x⟩ ⟨y⟩ = x := (rfl)
@[simp] theorem bN_false (x y : Prop) : @bN (.bool false) ⟨x⟩ ⟨y⟩ = y := (rfl)
@[simp] theorem bN_bool (b : Bool) (x y : Prop) : @bN (.bool b) ⟨x⟩ ⟨y⟩ = if b = true then x else y := by cases b <;> rfl
@[simp] theorem bN_dec (p : Prop) [Decidable p] (x y : Prop) : @bN (.bool (decide p)) ⟨x⟩ ⟨y⟩ = if p then x else y := by rw [bN_bool]; simp
@[simp] theorem bN_not (b : Bool) (x y : Prop) : @bN (.bool !b) ⟨x⟩ ⟨y⟩ = @bN (.bool b) ⟨y⟩ ⟨x⟩ := by cases b <;> rfl
@[simp] theorem gN_true (b : Bool) (x y : Prop) : @gN (.bool true) b ⟨x⟩ ⟨y⟩ = if b = true then x else y := by cases b <;> rfl
@[simp] theorem gN_false (b : Bool) (x y : Prop) : @gN (.bool false) b ⟨x⟩ ⟨y⟩ = if b = false then x else y := by cases b <;> rfl
@[simp] theorem gN_bool_t (c : Bool) (x y : Prop) : @gN (.bool c) true ⟨x⟩ ⟨y⟩ = if c = true then x else y := (rfl)
@[simp] theorem gN_bool_f (c : Bool) (x y : Prop) : @gN (.bool c) false ⟨x⟩ ⟨y⟩ = if c = true then y else x := by cases c <;> rfl
@[simp] theorem gN_undef (b : Bool) (x y : Prop) : @gN undef b ⟨x⟩ ⟨y⟩ = y := (rfl)
section
variable {E : Env} {A : AH} {k : Value → AH → Prop}
@[simp ↓] theorem SO_nil (K : Env → AH → Prop) : SO P [] E A K = K E A := (rfl)
@[simp ↓] theorem SO_p (d : Nat) (o : Op) (l : List RI) (K : Env → AH → Prop) : SO P (.p d o :: l) E A K = iS P o E A fun v A' => SO P l (E.set d v) A' K := (rfl)
@[simp ↓] theorem SO_n (o : Op) (l : List RI) (K : Env → AH → Prop) : SO P (.n o :: l) E A K = iS P o E A fun _ A' => SO P l E A' K := (rfl)
@[simp ↓] theorem SO_g (t : Nat) (b : Bool) (d : Nat) (o : Op) (l : List RI) (K : Env → AH → Prop) : SO P (.g t b d o :: l) E A K = @gN (E.get t) b ⟨iS P o E A fun v A' => SO P l (E.set d v) A' K⟩ ⟨SO P l (E.set d undef) A K⟩ := (rfl)
@[simp ↓] theorem SO_gn (t : Nat) (b : Bool) (o : Op) (l : List RI) (K : Env → AH → Prop) : SO P (.gn t b o :: l) E A K = @gN (E.get t) b ⟨iS P o E A fun _ A' => SO P l E A' K⟩ ⟨SO P l E A K⟩ := (rfl)
@[simp ↓] theorem SW_skip (Q : Exit → Env → AH → Prop) : SW P .skip E A Q = Q .normal E A := (rfl)
@[simp ↓] theorem SW_exit (id : Nat) (Q : Exit → Env → AH → Prop) : SW P (.exit id) E A Q = Q (.exit id) E A := (rfl)
@[simp ↓] theorem SW_ret (Q : Exit → Env → AH → Prop) : SW P .ret E A Q = Q .ret E A := (rfl)
@[simp ↓] theorem SW_seq (x y : SC) (Q : Exit → Env → AH → Prop) : SW P (.seq x y) E A Q = SW P x E A (onN (fun E' A' => SW P y E' A' Q) Q) := (rfl)
@[simp ↓] theorem SW_cond (c : Operand) (x y : SC) (Q : Exit → Env → AH → Prop) : SW P (.cond c x y) E A Q = @bN (ev E c) ⟨SW P x E A Q⟩ ⟨SW P y E A Q⟩ := (rfl)
@[simp ↓] theorem SW_block (id : Nat) (x : SC) (Q : Exit → Env → AH → Prop) : SW P (.block id x) E A Q = SW P x E A (outOf id Q) := (rfl)
@[simp ↓] theorem SW_loop (x : SC) (Q : Exit → Env → AH → Prop) : SW P (.loop x) E A Q = @LN P E A ⟨x⟩ ⟨Q⟩ := (rfl)
@[simp ↓] theorem SW_reg (l : List RI) (Q : Exit → Env → AH → Prop) : SW P (.reg l) E A Q = SO P l E A (Q .normal) := (rfl)
@[simp ↓] theorem SW_draw (l : List DI) (Q : Exit → Env → AH → Prop) : SW P (.draw l) E A Q = SD P l [] E A (Q .normal) := (rfl)
@[simp ↓] theorem onN_normal' (K : Env → AH → Prop) (Q : Exit → Env → AH → Prop) (E : Env) (A : AH) : onN K Q .normal E A = K E A := (rfl)
@[simp ↓] theorem onN_exit' (K : Env → AH → Prop) (Q : Exit → Env → AH → Prop) (id : Nat) (E : Env) (A : AH) : onN K Q (.exit id) E A = Q (.exit id) E A := (rfl)
@[simp ↓] theorem onN_ret' (K : Env → AH → Prop) (Q : Exit → Env → AH → Prop) (E : Env) (A : AH) : onN K Q .ret E A = Q .ret E A := (rfl)
@[simp ↓] theorem outOf_normal' (id : Nat) (Q : Exit → Env → AH → Prop) (E : Env) (A : AH) : outOf id Q .normal E A = Q .normal E A := (rfl)
@[simp ↓] theorem outOf_exit' (id id' : Nat) (Q : Exit → Env → AH → Prop) (E : Env) (A : AH) : outOf id Q (.exit id') E A = if id' = id then Q .normal E A else Q (.exit id') E A := (rfl)
@[simp ↓] theorem outOf_ret' (id : Nat) (Q : Exit → Env → AH → Prop) (E : Env) (A : AH) : outOf id Q .ret E A = Q .ret E A := (rfl)
@[simp ↓] theorem fin_normal (rs : List ResultVar) (R : Value → AH → Prop) : @finI P rs ⟨R⟩ .normal E A = @oN _ (aRes P E A rs) ⟨fun l => @DN (oneOf l) A ⟨R⟩⟩ := (rfl)
@[simp ↓] theorem fin_ret (rs : List ResultVar) (R : Value → AH → Prop) : @finI P rs ⟨R⟩ .ret E A = @oN _ (aRes P E A rs) ⟨fun l => @DN (oneOf l) A ⟨R⟩⟩ := (rfl)
@[simp ↓] theorem iS_move (x : Operand) : iS P (.move x) E A k = k (ev E x) A := (rfl)
@[simp ↓] theorem iS_assign (x : Operand) : iS P (.assign x) E A k = k (ev E x) A := (rfl)
def pkB (c : Value) (x y : Value) : Option Value := match c with | .bool t => some (if t then x else y) | _ => none
@[simp] theorem pkB_bool (t : Bool) (x y : Value) : pkB (.bool t) x y = some (if t then x else y) := (rfl)
@[simp ↓] theorem iS_pick (c a b : Operand) : iS P (.pick c a b) E A k = @oN _ (pkB (ev E c) (ev E a) (ev E b)) ⟨fun v => k v A⟩ := by
  show oK (match ev E c with | .bool t => some (if t then ev E a else ev E b, A) | _ => none) _ = oK _ _
  unfold pkB; split <;> rfl
@[simp ↓] theorem iS_alloc (T : TypeId) : iS P (.alloc T) E A k = @oN _ (zeroOf P T) ⟨fun z => k (.pointer (some ⟨A.next, 0, none⟩)) (A.alloc (.row z.cells.toList T false))⟩ := by
  show oK (aAlloc P T A) _ = _
  rw [aAlloc_eq, oK_map]; rfl
@[simp ↓] theorem iS_box (T : TypeId) (x : Operand) : iS P (.box T x) E A k = k (.pointer (some ⟨A.next, 0, none⟩)) (A.alloc (.row (ev E x).cells.toList T false)) := (rfl)
@[simp ↓] theorem iS_build (T : TypeId) (ps : Array (Nat × Operand)) : iS P (.build T ps) E A k = @oN _ (aBuild P T (ps.toList.map fun p => (p.1, ev E p.2))) ⟨fun v => k v A⟩ := by
  show oK ((aBuild P T _).map _) _ = _; rw [oK_map]; rfl
@[simp ↓] theorem iS_buildSlice (T : TypeId) (n : Nat) (ps : Array (Nat × Operand)) : iS P (.buildSlice T n ps) E A k = @oN _ (if n < 1099511627776 then aBuildSlice P T n (ps.toList.map fun p => (p.1, ev E p.2)) A else none) ⟨fun q => k q.1 q.2⟩ := (rfl)
@[simp ↓] theorem iS_load (T : TypeId) (x : Operand) : iS P (.load T x) E A k = @oN _ (aLoad P T (ev E x) A) ⟨fun v => k v A⟩ := by show oK ((aLoad P T _ A).map _) _ = _; rw [oK_map]; rfl
@[simp ↓] theorem iS_store (T : TypeId) (a x : Operand) : iS P (.store T a x) E A k = @oN _ (aStore P T (ev E a) (ev E x) A) ⟨fun A' => k undef A'⟩ := by show oK ((aStore P T _ _ A).map _) _ = _; rw [oK_map]; rfl
@[simp ↓] theorem iS_nilCheck (x : Operand) : iS P (.nilCheck x) E A k = @oN _ (aNil (ev E x)) ⟨fun v => k v A⟩ := by show oK ((aNil _).map _) _ = _; rw [oK_map]; rfl
@[simp ↓] theorem iS_bin (op : BinOp) (T Y : TypeId) (x y : Operand) : iS P (.binOp op T x y Y) E A k = @oN _ (aBin P A op T (ev E x) (ev E y)) ⟨fun v => k v A⟩ := by show oK ((aBin P A op T _ _).map _) _ = _; rw [oK_map]; rfl
@[simp ↓] theorem iS_un (op : UnOp) (T : TypeId) (x : Operand) : iS P (.unOp op T x) E A k = @oN _ (aUn op (ev E x)) ⟨fun v => k v A⟩ := by show oK ((aUn op _).map _) _ = _; rw [oK_map]; rfl
@[simp ↓] theorem iS_conv (s d : TypeId) (x : Operand) : iS P (.convert s d x) E A k = @oN _ (aConv P s d (ev E x)) ⟨fun v => k v A⟩ := by show oK ((aConv P s d _).map _) _ = _; rw [oK_map]; rfl
@[simp ↓] theorem iS_makeFunc (fn : Fn) (a c : Array Operand) : iS P (.makeFunc fn a c) E A k = k (.func fn (a.map (ev E)) (c.map (ev E))) A := (rfl)
@[simp ↓] theorem iS_makeMap (T : TypeId) : iS P (.makeMap T none) E A k = k (aMakeMap A).1 (aMakeMap A).2 := (rfl)
@[simp ↓] theorem iS_makeSlice (T : TypeId) (l c : Operand) : iS P (.makeSlice T l c) E A k = @oN _ (aMakeSlice P T (ev E l) (ev E c) A) ⟨fun q => k q.1 q.2⟩ := (rfl)
@[simp ↓] theorem iS_slice (T : TypeId) (x : Operand) (lo hi mx : Option Operand) : iS P (.slice T x lo hi mx) E A k = @oN _ (aSlice P T (ev E x) (lo.map (ev E)) (hi.map (ev E)) (mx.map (ev E)) A) ⟨fun v => k v A⟩ := by show oK ((aSlice P T _ _ _ _ A).map _) _ = _; rw [oK_map]; rfl
@[simp ↓] theorem iS_fieldAddr (S : TypeId) (x : Operand) (f : Nat) : iS P (.fieldAddr S x f) E A k = @oN _ (aFieldAddr P S (ev E x) f) ⟨fun v => k v A⟩ := by show oK ((aFieldAddr P S _ f).map _) _ = _; rw [oK_map]; rfl
@[simp ↓] theorem iS_field (S : TypeId) (x : Operand) (f : Nat) : iS P (.field S x f) E A k = @oN _ (aField P S (ev E x) f) ⟨fun v => k v A⟩ := by show oK ((aField P S _ f).map _) _ = _; rw [oK_map]; rfl
@[simp ↓] theorem iS_indexAddr (T : TypeId) (x i : Operand) : iS P (.indexAddr T x i) E A k = @oN _ (aIndexAddr P T (ev E x) (ev E i)) ⟨fun v => k v A⟩ := by show oK ((aIndexAddr P T _ _).map _) _ = _; rw [oK_map]; rfl
@[simp ↓] theorem iS_index (T : TypeId) (x i : Operand) : iS P (.index T x i) E A k = @oN _ (aIndex P T (ev E x) (ev E i)) ⟨fun v => k v A⟩ := by show oK ((aIndex P T _ _).map _) _ = _; rw [oK_map]; rfl
@[simp ↓] theorem iS_lookup (T : TypeId) (x i : Operand) (ok : Bool) : iS P (.lookup T x i ok) E A k = @oN _ (aLookup P T (ev E x) (ev E i) ok A) ⟨fun v => k v A⟩ := by show oK ((aLookup P T _ _ ok A).map _) _ = _; rw [oK_map]; rfl
@[simp ↓] theorem iS_mapUpdate (T : TypeId) (x i v : Operand) : iS P (.mapUpdate T x i v) E A k = @oN _ (aMapSet P T (ev E x) (ev E i) (ev E v) A) ⟨fun A' => k undef A'⟩ := by show oK ((aMapSet P T _ _ _ A).map _) _ = _; rw [oK_map]; rfl
@[simp ↓] theorem iS_insert (T : TypeId) (x i v : Operand) : iS P (.insert T x i v) E A k = @oN _ (aMapSet P T (ev E x) (ev E i) (ev E v) A) ⟨fun A' => k undef A'⟩ := by show oK ((aMapSet P T _ _ _ A).map _) _ = _; rw [oK_map]; rfl
@[simp ↓] theorem iS_extract (x : Operand) (i : Nat) : iS P (.extract x i) E A k = @oN _ (aExtract (ev E x) i) ⟨fun v => k v A⟩ := by show oK ((aExtract _ i).map _) _ = _; rw [oK_map]; rfl
@[simp ↓] theorem iS_builtin (b : Builtin) (xs : Array Operand) (Ts : Array TypeId) : iS P (.call ⟨.builtin b, xs, Ts⟩) E A k = @oN _ (aBuiltin P b Ts (xs.toList.map (ev E)) A) ⟨fun q => k q.1 q.2⟩ := (rfl)
def calleeOf (v : Value) (as : List Value) : Option (FuncId × List Value) := match v with | .func (.func k) a c' => some (k, a.toList ++ as ++ c'.toList) | _ => none
@[simp] theorem calleeOf_func (f : FuncId) (a c : Array Value) (as : List Value) : calleeOf (.func (.func f) a c) as = some (f, a.toList ++ as ++ c.toList) := (rfl)
@[simp ↓] theorem iS_call (f : Operand) (xs : Array Operand) (Ts : Array TypeId) : iS P (.call ⟨.value f, xs, Ts⟩) E A k = @oN _ (calleeOf (ev E f) (xs.toList.map (ev E))) ⟨fun q => @CN P q.1 q.2 A ⟨k⟩⟩ := (rfl)
@[simp ↓] theorem iS_makeInterface (T : TypeId) (x : Operand) : iS P (.makeInterface T x) E A k = @oN _ (aIface P T (ev E x)) ⟨fun v => k v A⟩ := by show oK ((aIface P T _).map _) _ = _; rw [oK_map]; rfl
@[simp ↓] theorem iS_typeAssert (x : Operand) (X T : TypeId) (ok : Bool) : iS P (.typeAssert x X T ok) E A k = @oN _ (aAssert P T ok (ev E x)) ⟨fun v => k v A⟩ := by show oK ((aAssert P T ok _).map _) _ = _; rw [oK_map]; rfl
def invOf (P : Program) (v : Value) (name : String) (as : List Value) : Option (FuncId × List Value) := match v with | .iface t u => (methOf P t name).map fun k => (k, u :: as) | _ => none
@[simp] theorem invOf_iface (t : TypeId) (u : Value) (name : String) (as : List Value) : invOf P (.iface t u) name as = (methOf P t name).map fun k => (k, u :: as) := (rfl)
@[simp ↓] theorem iS_invoke (r : Operand) (name : String) (xs : Array Operand) (Ts : Array TypeId) : iS P (.call ⟨.invoke r name, xs, Ts⟩) E A k = @oN _ (invOf P (ev E r) name (xs.toList.map (ev E))) ⟨fun q => @CN P q.1 q.2 A ⟨k⟩⟩ := (rfl)
@[simp] theorem aIface_eq (T : TypeId) (v : Value) (h : isIface P T = some false) : aIface P T v = some (.iface T v) := by unfold aIface; rw [h]
@[simp] theorem aAssert_eq (T : TypeId) (ok : Bool) (v : Value) (h : isIface P T = some false) : aAssert P T ok (.iface T v) = some (if ok then .tuple #[v, .bool true] else v) := by unfold aAssert; simp [h]
end
/-- What comes behind a call, or in a round: nothing unfolds it but simp. -/
@[irreducible] def GO (v : Value) (A : AH) [k : Kn (Value → AH → Prop)] : Prop := k.go v A
@[simp ↓] theorem GO_eq (f : Value → AH → Prop) (v : Value) (A : AH) : @GO v A ⟨f⟩ = f v A := by unfold GO; rfl
@[irreducible] def GL (P : Program) (E : Env) (A : AH) [c : Kn SC] [Q : Kn (Exit → Env → AH → Prop)] : Prop := SW P c.go E A Q.go
@[simp ↓] theorem GL_eq (c : SC) (Q : Exit → Env → AH → Prop) (E : Env) (A : AH) : @GL P E A ⟨c⟩ ⟨Q⟩ = SW P c E A Q := by unfold GL; rfl
/-- At a call: what its contract says, and what comes behind it. -/
theorem CN.use {f : FuncId} {as : List Value} {A : AH} {R0 : Value → AH → Prop} {k : Kn (Value → AH → Prop)} (h : ACall P f as A R0) (hk : ∀ v A', A'.wf → A.next ≤ A'.next → R0 v A' → @GO v A' k) : @CN P f as A k := h.mono fun v A' h1 h2 h3 => by have := hk v A' h1 h2 h3; unfold GO at this; exact this
/-- At a loop. -/
theorem LN.use {E : Env} {A : AH} {c : SC} {Q : Exit → Env → AH → Prop} (I : Nat → Env → AH → Prop) (k0 : Nat) (h0 : I k0 E A) (hr : ∀ k E' A', A'.wf → A.next ≤ A'.next → I k E' A' → @GL P E' A' ⟨c⟩ ⟨onN (fun E2 A2 => @NX E2 A2 ⟨fun E2 A2 => ∃ k', k' < k ∧ I k' E2 A2⟩) Q⟩) : @LN P E A ⟨c⟩ ⟨Q⟩ := ⟨I, k0, h0, fun k E' A' h1 h2 h3 => by have := hr k E' A' h1 h2 h3; unfold GL at this; exact this⟩
end Go.AI
/- AI2: more of what simp is told. -/
namespace Go.AI
open Go Go.RowKit
set_option linter.unusedVariables false
variable {P : Program}
section
variable (k : IntKind) (a b : Int)
@[simp] theorem intBin_add : intBin .add k a b = some (.int k (k.wrap (a + b))) := (rfl)
@[simp] theorem intBin_sub : intBin .sub k a b = some (.int k (k.wrap (a - b))) := (rfl)
@[simp] theorem intBin_mul : intBin .mul k a b = some (.int k (k.wrap (a * b))) := (rfl)
@[simp] theorem intBin_quo : intBin .quo k a b = if b = 0 then none else some (.int k (k.wrap (a.tdiv b))) := (rfl)
@[simp] theorem intBin_rem : intBin .rem k a b = if b = 0 then none else some (.int k (a.tmod b)) := (rfl)
@[simp] theorem intBin_eql : intBin .eql k a b = some (.bool (decide (a = b))) := by simp [intBin, BEq.beq]
@[simp] theorem intBin_neq : intBin .neq k a b = some (.bool (!decide (a = b))) := by simp [intBin, BEq.beq, bne]
@[simp] theorem intBin_lss : intBin .lss k a b = some (.bool (decide (a < b))) := (rfl)
@[simp] theorem intBin_leq : intBin .leq k a b = some (.bool (decide (a ≤ b))) := (rfl)
@[simp] theorem intBin_gtr : intBin .gtr k a b = some (.bool (decide (b < a))) := (rfl)
@[simp] theorem intBin_geq : intBin .geq k a b = some (.bool (decide (b ≤ a))) := (rfl)
end
theorem i64_in {x : Int} (h1 : -9223372036854775808 ≤ x) (h2 : x ≤ 9223372036854775807) : IntKind.i64.wrap x = x := by
  rw [IntKind.wrap_i64]; omega
@[simp] theorem aBuiltin_len (T : TypeId) (Ts : List TypeId) (x : Value) (A : AH) : aBuiltin P .len ⟨T :: Ts⟩ [x] A = (aLen P T x A).map fun v => (v, A) := (rfl)
@[simp] theorem aBuiltin_append (T X : TypeId) (Ts : List TypeId) (s : Value) (a : Option Addr) (n c : Nat) (A : AH) : aBuiltin P .append ⟨T :: X :: Ts⟩ [s, .slice a n c] A = aAppend P T X s (.slice a n c) A := (rfl)
@[simp] theorem aBuiltin_appendZ (T X : TypeId) (Ts : List TypeId) (s : Value) (k : IntKind) (n : Int) (A : AH) : aBuiltin P .append ⟨T :: X :: Ts⟩ [s, .int k n] A = aAppendZ P T X s (.int k n) A := (rfl)
@[simp] theorem aBuiltin_cap (T : TypeId) (Ts : List TypeId) (x : Value) (A : AH) : aBuiltin P .cap ⟨T :: Ts⟩ [x] A = (aCap P T x).map fun v => (v, A) := (rfl)
@[simp] theorem aBuiltin_clear (T : TypeId) (Ts : List TypeId) (x : Value) (A : AH) : aBuiltin P .clear ⟨T :: Ts⟩ [x] A = (aClear P T x A).map fun A' => (.tuple #[], A') := (rfl)
@[simp] theorem aBuiltin_copy (T : TypeId) (Ts : List TypeId) (s x : Value) (A : AH) : aBuiltin P .copy ⟨T :: Ts⟩ [s, x] A = aCopy P T s x A := (rfl)
section
variable (k : IntKind) (n : Int) (b : Bool) (s : ByteArray) (p a : Option Addr) (l c : Nat) (r : Option Nat)
@[simp] theorem oneB_int : oneB (.int k n) = true := (rfl)
@[simp] theorem oneB_bool : oneB (.bool b) = true := (rfl)
@[simp] theorem oneB_str : oneB (.string s) = true := (rfl)
@[simp] theorem oneB_ptr : oneB (.pointer p) = true := (rfl)
@[simp] theorem oneB_slice : oneB (.slice a l c) = true := (rfl)
@[simp] theorem oneB_map : oneB (.map r) = true := (rfl)
@[simp] theorem oneB_nilFunc : oneB .nilFunc = true := (rfl)
@[simp] theorem oneB_func (f : Fn) (x y : Array Value) : oneB (.func f x y) = true := (rfl)
end
/-! Structs built, stores into known rows. -/
@[simp] theorem spl_nil' (cs : List Value) (o : Nat) : spl cs o [] = cs := spl_nil cs o
@[simp] theorem spl_cons_zero (c v : Value) (cs vs : List Value) : spl (c :: cs) 0 (v :: vs) = v :: spl cs 0 vs := by simp [spl]
@[simp] theorem spl_cons_succ (c : Value) (cs vs : List Value) (o : Nat) : spl (c :: cs) (o + 1) vs = c :: spl cs o vs := by
  simp [spl, Nat.add_right_comm]
def fillAt (q : Option (Nat × Nat)) (v : Value) (cs : List Value) (k : List Value → Option (List Value)) : Option (List Value) :=
  match q with
  | some (off, size) => if v.cells.size = size ∧ off + v.cells.size ≤ cs.length then k (spl cs off v.cells.toList) else none
  | none => none
@[simp] theorem fillAt_some (off size : Nat) (v : Value) (cs : List Value) (k : List Value → Option (List Value)) : fillAt (some (off, size)) v cs k = if v.cells.size = size ∧ off + v.cells.size ≤ cs.length then k (spl cs off v.cells.toList) else none := (rfl)
@[simp] theorem fillL_nil (pl : Nat → Option (Nat × Nat)) (cs : List Value) : fillL pl cs [] = some cs := by cases cs <;> rfl
@[simp] theorem fillL_cons (pl : Nat → Option (Nat × Nat)) (cs : List Value) (i : Nat) (v : Value) (rest : List (Nat × Value)) : fillL pl cs ((i, v) :: rest) = fillAt (pl i) v cs fun cs' => fillL pl cs' rest := by
  unfold fillAt
  rw [fillL]
  cases pl i <;> rfl
def plcOf (P : Program) (T : TypeId) : Option (List (Nat × Nat)) := match P.underlying T with | some (.struct fs) => places P fs.toList | _ => none
theorem aBuild_struct {T : TypeId} {pl : List (Nat × Nat)} {z : Value} (h1 : plcOf P T = some pl) (h2 : zeroOf P T = some z) (ps : List (Nat × Value)) : aBuild P T ps = (fillL (fun i => pl[i]?) z.cells.toList ps).map fun cs => .agg cs.toArray := by
  unfold plcOf at h1
  unfold aBuild
  split at h1
  · rename_i fs hf; rw [hf, h2]; simp only []; rw [h1]; rfl
  · cases h1
theorem aBuildSlice_eq {T e : TypeId} {s : Nat} {z : Value} (h1 : sliceElem P T = some e) (h2 : szOf P e = some s) (h3 : zeroOf P e = some z) (hz : z.cells.size = s) (len : Nat) (ps : List (Nat × Value)) (A : AH) : aBuildSlice P T len ps A = if len * s ≤ 16777216 then (fillL (fun i => some (i * s, s)) (zrep len z.cells.toList) ps).map (fun cs => (.slice (some ⟨A.next, 0, none⟩) len len, A.alloc (.row cs e false))) else none := by
  unfold aBuildSlice
  rw [h1]; simp only []; rw [h2, h3]; simp only [hz, and_true]
@[simp] theorem zrep_zero (z : List Value) : zrep 0 z = [] := (rfl)
@[simp] theorem zrep_succ (k : Nat) (z : List Value) : zrep (k + 1) z = z ++ zrep k z := by simp [zrep, List.replicate_succ]
/-! Comparisons. -/
def isIntT (P : Program) (T : TypeId) : Bool := match P.underlying T with | some (.int _) => true | _ => false
def isBoolT (P : Program) (T : TypeId) : Bool := match P.underlying T with | some .bool => true | _ => false
def isSliceT (P : Program) (T : TypeId) : Bool := match P.underlying T with | some (.slice _) => true | _ => false
def isPtrT (P : Program) (T : TypeId) : Bool := match P.underlying T with | some (.pointer e) => (match szOf P e with | some (_ + 1) => true | _ => false) | _ => false
def eqFs (P : Program) (T : TypeId) : Option (List (TypeId × Nat)) := match P.underlying T with | some (.struct fs) => if P.stoodInHeld T = false then some ((fs.toList.filter fun f => decide (f.name ≠ "_")).map fun f => (f.type, f.offset)) else none | _ => none
def eqL (P : Program) (A : AH) (k : Nat) (xs ys : List Value) : List (TypeId × Nat) → Option Bool
  | [] => some true
  | (t, o) :: l => (aPart P t xs o).bind fun a => (aPart P t ys o).bind fun b => (aEq P A k t a b).bind fun r => if r = true then eqL P A k xs ys l else some false
theorem aEq_int {T : TypeId} (h : isIntT P T = true) (A : AH) (k : Nat) (j : IntKind) (a b : Int) : aEq P A (k + 1) T (.int j a) (.int j b) = some (decide (a = b)) := by
  unfold isIntT at h; unfold aEq
  split at h
  · rename_i hf; rw [hf]; simp [BEq.beq]
  · cases h
theorem aEq_bool {T : TypeId} (h : isBoolT P T = true) (A : AH) (k : Nat) (a b : Bool) : aEq P A (k + 1) T (.bool a) (.bool b) = some (decide (a = b)) := by
  unfold isBoolT at h; unfold aEq
  split at h
  · rename_i hf; rw [hf]; cases a <;> cases b <;> rfl
  · cases h
theorem aEq_slice {T : TypeId} (h : isSliceT P T = true) (A : AH) (k : Nat) (a : Option Addr) (n c n' c' : Nat) : aEq P A (k + 1) T (.slice a n c) (.slice none n' c') = some (decide (a = none)) := by
  unfold isSliceT at h; unfold aEq
  split at h
  · rename_i hf; rw [hf]; cases a <;> rfl
  · cases h
theorem aEq_ptr {T : TypeId} (h : isPtrT P T = true) (A : AH) (k : Nat) (a : Option Addr) : aEq P A (k + 1) T (.pointer a) (.pointer none) = some (decide (a = none)) := by
  unfold isPtrT at h; unfold aEq
  split at h
  · rename_i e hf; rw [hf]; cases a <;> rfl
  · cases h
theorem aEq_fs {T : TypeId} {l : List (TypeId × Nat)} (h : eqFs P T = some l) (A : AH) (k : Nat) (xs ys : List Value) : aEq P A (k + 1) T (.agg ⟨xs⟩) (.agg ⟨ys⟩) = eqL P A k xs ys l := by
  unfold eqFs at h; unfold aEq
  split at h
  · rename_i fs hf
    rw [hf]
    split at h
    · rename_i hs
      injection h with h; subst h
      simp only [hs, if_true]
      generalize fs.toList = fl
      induction fl with
      | nil => rfl
      | cons f fl ih =>
        rw [List.filter_cons]
        by_cases hn : f.name ≠ "_"
        · simp only [aEqAll, decide_true, List.map_cons, eqL, ih, hn, not_false_eq_true, if_true, ne_eq]
          cases aPart P f.type xs f.offset with
          | none => rfl
          | some a => cases aPart P f.type ys f.offset with
            | none => rfl
            | some b => rfl
        · simp only [aEqAll, ih, hn, decide_false, Bool.false_eq_true, if_false]
    · cases h
  · cases h
@[simp] theorem ite_some_bool (p : Prop) [Decidable p] (x y : Bool) : (if p then some x else some y) = some (if p then x else y) := by split <;> rfl
@[simp] theorem eqL_nil (A : AH) (k : Nat) (xs ys : List Value) : eqL P A k xs ys [] = some true := (rfl)
@[simp] theorem eqL_cons (A : AH) (k : Nat) (xs ys : List Value) (t : TypeId) (o : Nat) (l : List (TypeId × Nat)) : eqL P A k xs ys ((t, o) :: l) = (aPart P t xs o).bind fun a => (aPart P t ys o).bind fun b => (aEq P A k t a b).bind fun r => if r = true then eqL P A k xs ys l else some false := (rfl)
section
variable (A : AH) (T : TypeId)
@[simp] theorem aBin_eql_agg (xs ys : Array Value) (h : P.eqGuardType P.depth T = false) : aBin P A .eql T (.agg xs) (.agg ys) = (aEq P A 20 T (.agg xs) (.agg ys)).map .bool := by simp [aBin, h]
@[simp] theorem aBin_neq_agg (xs ys : Array Value) (h : P.eqGuardType P.depth T = false) : aBin P A .neq T (.agg xs) (.agg ys) = (aEq P A 20 T (.agg xs) (.agg ys)).map fun r => .bool !r := by simp [aBin, h]
@[simp] theorem aBin_eql_bool (a b : Bool) : aBin P A .eql T (.bool a) (.bool b) = (aEq P A 20 T (.bool a) (.bool b)).map .bool := (rfl)
@[simp] theorem aBin_neq_bool (a b : Bool) : aBin P A .neq T (.bool a) (.bool b) = (aEq P A 20 T (.bool a) (.bool b)).map fun r => .bool !r := (rfl)
@[simp] theorem aBin_eql_ptr (a b : Option Addr) : aBin P A .eql T (.pointer a) (.pointer b) = (aEq P A 20 T (.pointer a) (.pointer b)).map .bool := (rfl)
@[simp] theorem aBin_neq_ptr (a b : Option Addr) : aBin P A .neq T (.pointer a) (.pointer b) = (aEq P A 20 T (.pointer a) (.pointer b)).map fun r => .bool !r := (rfl)
@[simp] theorem aBin_eql_slice (a b : Option Addr) (n c n' c' : Nat) : aBin P A .eql T (.slice a n c) (.slice b n' c') = (aEq P A 20 T (.slice a n c) (.slice b n' c')).map .bool := (rfl)
@[simp] theorem aBin_neq_slice (a b : Option Addr) (n c n' c' : Nat) : aBin P A .neq T (.slice a n c) (.slice b n' c') = (aEq P A 20 T (.slice a n c) (.slice b n' c')).map fun r => .bool !r := (rfl)
@[simp] theorem aBin_eql_map (a b : Option Nat) : aBin P A .eql T (.map a) (.map b) = (aEq P A 20 T (.map a) (.map b)).map .bool := (rfl)
@[simp] theorem aBin_neq_map (a b : Option Nat) : aBin P A .neq T (.map a) (.map b) = (aEq P A 20 T (.map a) (.map b)).map fun r => .bool !r := (rfl)
def partAt (cs : List Value) (off : Nat) (ag : Option Bool) (sz : Option Nat) : Option Value :=
  match ag with
  | some true => match sz with
    | some n => some (.agg ((cs.drop off).take n).toArray)
    | none => none
  | some false => cs[off]?
  | none => none
@[simp] theorem aPart_eq (cs : List Value) (off : Nat) : aPart P T cs off = partAt cs off (aggOf P T) (szOf P T) := (rfl)
@[simp] theorem partAt_one (cs : List Value) (off : Nat) (sz : Option Nat) : partAt cs off (some false) sz = cs[off]? := (rfl)
@[simp] theorem partAt_agg (cs : List Value) (off n : Nat) : partAt cs off (some true) (some n) = some (.agg ((cs.drop off).take n).toArray) := (rfl)
end
/-! Drawn regions. -/
section
variable (E : Env) (A : AH) (H : List (Nat × Op × Env × Value)) (K : Env → AH → Prop) (ps : List DI) (i : Nat) (held : List Nat) (flo : List RI) (keep : Bool)
@[simp ↓] theorem SD_nil : SD P [] H E A K = K E A := (rfl)
@[simp ↓] theorem SD_p (d : Nat) (o : Op) : SD P (⟨i, .p d o, held, flo, keep⟩ :: ps) H E A K = (floI P E A flo ∧ iS P o E A fun v A' => heldI P A' held H ∧ SD P ps (if keep then (i, o, E, v) :: H else H) (E.set d v) A' K) := (rfl)
@[simp ↓] theorem SD_n (o : Op) : SD P (⟨i, .n o, held, flo, keep⟩ :: ps) H E A K = (floI P E A flo ∧ iS P o E A fun v A' => heldI P A' held H ∧ SD P ps (if keep then (i, o, E, v) :: H else H) E A' K) := (rfl)
@[simp ↓] theorem SD_g (t : Nat) (b : Bool) (d : Nat) (o : Op) : SD P (⟨i, .g t b d o, held, flo, keep⟩ :: ps) H E A K = (floI P E A flo ∧ @gN (E.get t) b ⟨iS P o E A fun v A' => heldI P A' held H ∧ SD P ps (if keep then (i, o, E, v) :: H else H) (E.set d v) A' K⟩ ⟨SD P ps H (E.set d undef) A K⟩) := (rfl)
@[simp ↓] theorem SD_gn (t : Nat) (b : Bool) (o : Op) : SD P (⟨i, .gn t b o, held, flo, keep⟩ :: ps) H E A K = (floI P E A flo ∧ @gN (E.get t) b ⟨iS P o E A fun v A' => heldI P A' held H ∧ SD P ps (if keep then (i, o, E, v) :: H else H) E A' K⟩ ⟨SD P ps H E A K⟩) := (rfl)
@[simp ↓] theorem floI_nil : floI P E A [] = True := (rfl)
@[simp ↓] theorem floI_cons (r : RI) (rs : List RI) : floI P E A (r :: rs) = (ableI P E A r ∧ floI P E A rs) := (rfl)
@[simp ↓] theorem ableI_p (d : Nat) (o : Op) : ableI P E A (.p d o) = ((iOp P E o A).isSome = true) := (rfl)
@[simp ↓] theorem ableI_n (o : Op) : ableI P E A (.n o) = ((iOp P E o A).isSome = true) := (rfl)
@[simp ↓] theorem ableI_g (t : Nat) (b : Bool) (d : Nat) (o : Op) : ableI P E A (.g t b d o) = @gN (E.get t) b ⟨(iOp P E o A).isSome = true⟩ ⟨True⟩ := (rfl)
@[simp ↓] theorem ableI_gn (t : Nat) (b : Bool) (o : Op) : ableI P E A (.gn t b o) = @gN (E.get t) b ⟨(iOp P E o A).isSome = true⟩ ⟨True⟩ := (rfl)
@[simp ↓] theorem heldI_nil : heldI P A held [] = True := (rfl)
@[simp ↓] theorem heldI_none (r : List (Nat × Op × Env × Value)) : heldI P A [] r = True := by
  induction r with
  | nil => rfl
  | cons x xs ih => simp [heldI, ih]
@[simp ↓] theorem heldI_cons (o : Op) (v : Value) (rs : List (Nat × Op × Env × Value)) : heldI P A held ((i, o, E, v) :: rs) = ((if held.contains i = true then iOp P E o A = some (v, A) else True) ∧ heldI P A held rs) := (rfl)
@[simp ↓] theorem iOp_load (T : TypeId) (x : Operand) : iOp P E (.load T x) A = (aLoad P T (ev E x) A).map fun v => (v, A) := (rfl)
@[simp ↓] theorem iOp_move (x : Operand) : iOp P E (.move x) A = some (ev E x, A) := (rfl)
@[simp ↓] theorem iOp_alloc (T : TypeId) : iOp P E (.alloc T) A = aAlloc P T A := (rfl)
@[simp ↓] theorem iOp_box (T : TypeId) (x : Operand) : iOp P E (.box T x) A = some (aBox T (ev E x) A) := (rfl)
@[simp ↓] theorem iOp_bin (op : BinOp) (T Y : TypeId) (x y : Operand) : iOp P E (.binOp op T x y Y) A = (aBin P A op T (ev E x) (ev E y)).map fun v => (v, A) := (rfl)
@[simp ↓] theorem iOp_makeSlice (T : TypeId) (l c : Operand) : iOp P E (.makeSlice T l c) A = aMakeSlice P T (ev E l) (ev E c) A := (rfl)
@[simp ↓] theorem iOp_makeMap (T : TypeId) : iOp P E (.makeMap T none) A = some (aMakeMap A) := (rfl)
@[simp ↓] theorem iOp_buildSlice (T : TypeId) (n : Nat) (ps : Array (Nat × Operand)) : iOp P E (.buildSlice T n ps) A = if n < 1099511627776 then aBuildSlice P T n (ps.toList.map fun p => (p.1, ev E p.2)) A else none := (rfl)
@[simp ↓] theorem iOp_slice (T : TypeId) (x : Operand) (lo hi mx : Option Operand) : iOp P E (.slice T x lo hi mx) A = (aSlice P T (ev E x) (lo.map (ev E)) (hi.map (ev E)) (mx.map (ev E)) A).map fun v => (v, A) := (rfl)
@[simp ↓] theorem iOp_lookup (T : TypeId) (x i : Operand) (ok : Bool) : iOp P E (.lookup T x i ok) A = (aLookup P T (ev E x) (ev E i) ok A).map fun v => (v, A) := (rfl)
@[simp ↓] theorem iOp_builtin (b : Builtin) (xs : Array Operand) (Ts : Array TypeId) : iOp P E (.call ⟨.builtin b, xs, Ts⟩) A = aBuiltin P b Ts (xs.toList.map (ev E)) A := (rfl)
end
theorem AH.get_new (A : AH) (x : Blk) : (A.alloc x).get A.next = some x := by rw [AH.get_alloc, if_pos rfl]
/-- What was there is there, as it was. -/
def Ext (A A' : AH) : Prop := ∀ b, b < A.next → A'.get b = A.get b
theorem Ext.refl (A : AH) : Ext A A := fun _ _ => rfl
theorem Ext.trans {A B C : AH} (h : Ext A B) (hn : A.next ≤ B.next) (h' : Ext B C) : Ext A C := fun b hb => (h' b (by omega)).trans (h b hb)
theorem Ext.alloc (A : AH) (x : Blk) : Ext A (A.alloc x) := fun b hb => by rw [AH.get_alloc, if_neg (by omega)]
theorem Ext.app {A B : AH} (h : Ext A B) (hn : A.next ≤ B.next) (x : Blk) : Ext A (B.alloc x) := fun b hb => by rw [AH.get_alloc, if_neg (by omega)]; exact h b hb
theorem Ext.setnew {A B : AH} (h : Ext A B) {c : Nat} (hc : A.next ≤ c) (x : Blk) : Ext A (B.set c x) := fun b hb => by rw [AH.get_set, if_neg (by omega)]; exact h b hb
theorem Ext.killnew {A B : AH} (h : Ext A B) {c : Nat} (hc : A.next ≤ c) : Ext A (B.kill c) := fun b hb => by rw [AH.get_kill, if_neg (by omega)]; exact h b hb
theorem Ext.get {A B : AH} (h : Ext A B) (hw : A.wf) {b : Nat} {x : Blk} (hb : A.get b = some x) : B.get b = some x := (h b (hw b x hb)).trans hb
end Go.AI
/- AI3: slices of equal rows. -/
namespace Go.AI
open Go Go.RowKit
set_option linter.unusedVariables false
variable {P : Program}
theorem flat_at {α : Type} {z : Nat} : ∀ {L : List (List α)}, (∀ r ∈ L, r.length = z) → ∀ {i : Nat} (h : i < L.length), (L.flatten.drop (i * z)).take z = L[i]
  | [], _, i, h => by simp at h
  | r :: L, hr, 0, h => by
    have := hr r List.mem_cons_self
    rw [List.flatten_cons]; simp [← this]
  | r :: L, hr, i + 1, h => by
    have h0 := hr r List.mem_cons_self
    rw [List.flatten_cons, Nat.succ_mul, Nat.add_comm, List.drop_append, List.drop_eq_nil_of_le (by omega), List.nil_append]
    rw [show z + i * z - r.length = i * z from by omega]
    rw [flat_at (fun r h => hr r (List.mem_cons_of_mem _ h)) (by simpa using h)]
    rfl
theorem flat_len {α : Type} {z : Nat} : ∀ {L : List (List α)}, (∀ r ∈ L, r.length = z) → L.flatten.length = L.length * z
  | [], _ => by simp
  | r :: L, hr => by
    rw [List.flatten_cons, List.length_append, hr r List.mem_cons_self, flat_len (fun r h => hr r (List.mem_cons_of_mem _ h)), List.length_cons, Nat.succ_mul, Nat.add_comm]
theorem flat_take {α : Type} {z : Nat} : ∀ {L : List (List α)}, (∀ r ∈ L, r.length = z) → ∀ (i : Nat), L.flatten.take (i * z) = (L.take i).flatten
  | [], _, i => by simp
  | r :: L, hr, 0 => by simp
  | r :: L, hr, i + 1 => by
    have h0 := hr r List.mem_cons_self
    rw [List.flatten_cons, Nat.succ_mul, Nat.add_comm, List.take_append, List.take_of_length_le (by omega), show z + i * z - r.length = i * z from by omega, flat_take (fun r h => hr r (List.mem_cons_of_mem _ h)) i]
    simp
theorem flat_drop {α : Type} {z : Nat} : ∀ {L : List (List α)}, (∀ r ∈ L, r.length = z) → ∀ (i : Nat), L.flatten.drop (i * z) = (L.drop i).flatten
  | [], _, i => by simp
  | r :: L, hr, 0 => by simp
  | r :: L, hr, i + 1 => by
    have h0 := hr r List.mem_cons_self
    rw [List.flatten_cons, Nat.succ_mul, Nat.add_comm, List.drop_append, List.drop_eq_nil_of_le (by omega), List.nil_append, show z + i * z - r.length = i * z from by omega, flat_drop (fun r h => hr r (List.mem_cons_of_mem _ h)) i]
    simp
/-- Rows are right: z cells each, all single. -/
def Rw (z : Nat) (L : List (List Value)) : Prop := ∀ r ∈ L, r.length = z ∧ r.all oneB = true
theorem Rw.nil (z : Nat) : Rw z [] := fun r h => (List.not_mem_nil h).elim
theorem Rw.len {z : Nat} {L : List (List Value)} (h : Rw z L) : ∀ r ∈ L, r.length = z := fun r hr => (h r hr).1
theorem Rw.app {z : Nat} {L M : List (List Value)} (h : Rw z L) (h' : Rw z M) : Rw z (L ++ M) := fun r hr => (List.mem_append.1 hr).elim (h r) (h' r)
theorem Rw.cons {z : Nat} {r : List Value} {L : List (List Value)} (h1 : r.length = z ∧ r.all oneB = true) (h : Rw z L) : Rw z (r :: L) := fun x hx => (List.mem_cons.1 hx).elim (fun e => e ▸ h1) (h x)
theorem Rw.one {z : Nat} {r : List Value} (h : r.length = z ∧ r.all oneB = true) : Rw z [r] := Rw.cons h (Rw.nil z)
theorem Rw.sub {z : Nat} {L M : List (List Value)} (h : Rw z L) (hs : ∀ r ∈ M, r ∈ L) : Rw z M := fun r hr => h r (hs r hr)
theorem Rw.map {z : Nat} {α : Type} {f : α → List Value} (h : ∀ x, (f x).length = z ∧ (f x).all oneB = true) (l : List α) : Rw z (l.map f) := fun r hr => by obtain ⟨x, _, rfl⟩ := List.mem_map.1 hr; exact h x
theorem Rw.flat {z : Nat} {L : List (List Value)} (h : Rw z L) : L.flatten.all oneB = true := by
  rw [List.all_eq_true]
  intro v hv
  obtain ⟨r, hr, hv⟩ := List.mem_flatten.1 hv
  exact List.all_eq_true.1 (h r hr).2 v hv
/-- An address of the plain kind, or none. -/
def Pla (a : Option Addr) : Prop := ∀ x, a = some x → ∃ b o, x = ⟨b, o, none⟩
theorem Pla.no : Pla none := fun x h => by cases h
theorem Pla.yes (b o : Nat) : Pla (some ⟨b, o, none⟩) := fun x h => by injection h with h; exact ⟨b, o, h.symm⟩
/-- A slice's capacity: it is known, or the slice's array is of its own kind. -/
def CapOk (A : AH) (e : TypeId) (a : Option Addr) (n c : Nat) : Prop := (n ≤ c ∧ c < UNK) ∨ (c = UNK ∧ ∀ b o, a = some ⟨b, o, none⟩ → ∃ cs ro, A.get b = some (.row cs e ro))
theorem CapOk.kept {A A' : AH} {e : TypeId} {a : Option Addr} {n c : Nat} (h : CapOk A e a n c) (hk : ∀ b o x, a = some ⟨b, o, none⟩ → A.get b = some x → A'.get b = A.get b) : CapOk A' e a n c :=
  h.imp id fun ⟨h1, h2⟩ => ⟨h1, fun b o hb => by obtain ⟨cs, ro, h3⟩ := h2 b o hb; exact ⟨cs, ro, (hk b o _ hb h3).trans h3⟩⟩
theorem CapOk.ext {A A' : AH} {e : TypeId} {a : Option Addr} {n c : Nat} (h : CapOk A e a n c) (hw : A.wf) (hx : Ext A A') : CapOk A' e a n c := h.kept fun b o x hb hx' => hx b (hw b x hx')
/-- Rows of z cells each can be read at an address. -/
def Sl (A : AH) (e : TypeId) (z : Nat) (a : Option Addr) (L : List (List Value)) : Prop :=
  Rw z L ∧ Pla a ∧ (L ≠ [] → ∃ (b o : Nat) (cs : List Value) (q : TypeId × Bool), a = some ⟨b, o, none⟩ ∧ A.get b = some (.row cs q.1 q.2) ∧ o + L.length * z ≤ cs.length ∧ (cs.drop o).take (L.length * z) = L.flatten)
theorem Sl.nil {a : Option Addr} (h : Pla a) (A : AH) (e : TypeId) (z : Nat) : Sl A e z a [] := ⟨Rw.nil z, h, fun h => (h rfl).elim⟩
theorem Sl.ext {A A' : AH} {e : TypeId} {z : Nat} {a : Option Addr} {L : List (List Value)} (h : Sl A e z a L) (hw : A.wf) (hx : Ext A A') : Sl A' e z a L :=
  ⟨h.1, h.2.1, fun hn => by
    obtain ⟨b, o, cs, ro, h1, h2, h3, h4⟩ := h.2.2 hn
    exact ⟨b, o, cs, ro, h1, hx.get hw h2, h3, h4⟩⟩
theorem Sl.at {A : AH} {e : TypeId} {z : Nat} {a : Option Addr} {L : List (List Value)} (h : Sl A e z a L) {i : Nat} (hi : i < L.length) :
    ∃ (b o : Nat) (cs : List Value) (q : TypeId × Bool), a = some ⟨b, o, none⟩ ∧ A.get b = some (.row cs q.1 q.2) ∧ o + i * z + z ≤ cs.length ∧ (cs.drop (o + i * z)).take z = L[i] := by
  obtain ⟨b, o, cs, ro, h1, h2, h3, h4⟩ := h.2.2 (by intro e; rw [e] at hi; simp at hi)
  refine ⟨b, o, cs, ro, h1, h2, ?_, ?_⟩
  · have : (i + 1) * z ≤ L.length * z := Nat.mul_le_mul_right _ hi
    rw [Nat.succ_mul] at this; omega
  · rw [← flat_at h.1.len hi, ← h4, List.drop_take, List.take_take, List.drop_drop, Nat.min_eq_left]
    have : (i + 1) * z ≤ L.length * z := Nat.mul_le_mul_right _ hi
    rw [Nat.succ_mul] at this; omega
theorem Sl.one {A : AH} {e : TypeId} {a : Option Addr} {L : List (List Value)} (h : Sl A e 1 a L) {i : Nat} {v : Value} (hi : L[i]? = some [v]) :
    ∃ (b o : Nat) (cs : List Value) (q : TypeId × Bool), a = some ⟨b, o, none⟩ ∧ A.get b = some (.row cs q.1 q.2) ∧ cs[o + i]? = some v := by
  obtain ⟨hl, hv⟩ := List.getElem?_eq_some_iff.1 hi
  obtain ⟨b, o, cs, ro, h1, h2, h3, h4⟩ := h.at hl
  refine ⟨b, o, cs, ro, h1, h2, ?_⟩
  rw [hv, Nat.mul_one] at h4
  have : ((cs.drop (o + i)).take 1)[0]? = some v := by rw [h4]; rfl
  rw [List.getElem?_take, if_pos (by omega), List.getElem?_drop] at this
  simpa using this
theorem Sl.first {A : AH} {e : TypeId} {z : Nat} {a : Option Addr} {L : List (List Value)} (h : Sl A e z a L) (c : Nat) : firstOf A z L.length (.slice a L.length c) = some L.flatten := by
  cases L with
  | nil =>
    cases a with
    | none => rfl
    | some x => obtain ⟨b, o, rfl⟩ := h.2.1 x rfl; rfl
  | cons r L =>
    obtain ⟨b, o, cs, ro, rfl, h2, h3, h4⟩ := h.2.2 (by simp)
    unfold firstOf
    simp only [List.length_cons, Nat.add_one_ne_zero, if_false]
    rw [h2]
    simp only [List.length_cons] at h3 h4
    simp only []
    rw [if_pos h3, h4]
/-- Whole numbers as rows. -/
def ints (l : List Int) : List (List Value) := l.map fun n => [.int .i64 n]
@[simp] theorem ints_len (l : List Int) : (ints l).length = l.length := by simp [ints]
theorem ints_at {l : List Int} {i : Nat} (h : i < l.length) : (ints l)[i]? = some [.int .i64 l[i]] := by simp [ints, h]
theorem ints_rw (l : List Int) : Rw 1 (ints l) := Rw.map (f := fun n : Int => [Value.int .i64 n]) (fun _ => ⟨rfl, rfl⟩) l
theorem Sl.row {A : AH} {b : Nat} {cs : List Value} {e : TypeId} {ro : Bool} {z : Nat} {L : List (List Value)} (hr : Rw z L) (hb : A.get b = some (.row cs e ro)) (hc : cs = L.flatten) : Sl A e z (some ⟨b, 0, none⟩) L :=
  ⟨hr, Pla.yes _ _, fun _ => ⟨b, 0, cs, (e, ro), rfl, hb, by rw [hc, flat_len hr.len]; omega, by rw [hc, List.drop_zero, List.take_of_length_le (by rw [flat_len hr.len]; omega)]⟩⟩
theorem Sl.kept {A A' : AH} {e : TypeId} {z : Nat} {a : Option Addr} {L : List (List Value)} (h : Sl A e z a L) (hk : ∀ b o x, a = some ⟨b, o, none⟩ → A.get b = some x → A'.get b = A.get b) : Sl A' e z a L :=
  ⟨h.1, h.2.1, fun hn => by
    obtain ⟨b, o, cs, ro, h1, h2, h3, h4⟩ := h.2.2 hn
    exact ⟨b, o, cs, ro, h1, (hk b o _ h1 h2).trans h2, h3, h4⟩⟩
/-! What is appended to. -/
/-- A list of its own, made behind n0. -/
def Own (n0 : Nat) (A : AH) (e : TypeId) (z : Nat) (v : Value) (L : List (List Value)) : Prop :=
  Rw z L ∧ ((v = .slice none 0 0 ∧ L = []) ∨ ∃ b, v = .slice (some ⟨b, 0, none⟩) L.length UNK ∧ n0 ≤ b ∧ A.get b = some (.row L.flatten e false))
theorem Own.nil (n0 : Nat) (A : AH) (e : TypeId) (z : Nat) : Own n0 A e z (.slice none 0 0) [] := ⟨Rw.nil z, Or.inl ⟨rfl, rfl⟩⟩
theorem Own.sl {n0 : Nat} {A : AH} {e : TypeId} {z : Nat} {v : Value} {L : List (List Value)} (h : Own n0 A e z v L) : ∃ a c, v = .slice a L.length c ∧ Sl A e z a L := by
  rcases h.2 with ⟨rfl, rfl⟩ | ⟨b, rfl, _, hb⟩
  · exact ⟨none, 0, rfl, Sl.nil Pla.no A e z⟩
  · exact ⟨_, _, rfl, Sl.row h.1 hb rfl⟩
theorem Own.ext {n0 : Nat} {A A' : AH} {e : TypeId} {z : Nat} {v : Value} {L : List (List Value)} (h : Own n0 A e z v L) (hw : A.wf) (hx : Ext A A') : Own n0 A' e z v L :=
  ⟨h.1, h.2.imp id fun ⟨b, h1, h2, h3⟩ => ⟨b, h1, h2, hx.get hw h3⟩⟩
theorem Own.low {n0 n1 : Nat} {A : AH} {e : TypeId} {z : Nat} {v : Value} {L : List (List Value)} (h : Own n0 A e z v L) (hn : n1 ≤ n0) : Own n1 A e z v L :=
  ⟨h.1, h.2.imp id fun ⟨b, h1, h2, h3⟩ => ⟨b, h1, Nat.le_trans hn h2, h3⟩⟩
/-- Appending, for elements of a known size. -/
def appW (e z y : Nat) (s x : Value) (A : AH) : Option (Value × AH) :=
  match s, x with
  | .slice a l c, .slice a2 n c2 =>
    (firstOf A z n (.slice a2 n c2)).bind fun new =>
    if n = 0 then (if c = UNK ∨ l ≤ c then some (.slice a l c, A) else none) else
    if ¬ (l + n ≤ 1099511627776 ∧ (l + n) * y ≤ 17592186044416 ∧ y ≤ 1048576) then none else
    match a with
    | none => if l = 0 ∧ c = 0 then some (.slice (some ⟨A.next, 0, none⟩) n UNK, A.alloc (.row new e false)) else none
    | some ⟨b, o, none⟩ =>
      if c = UNK then
        match A.get b with
        | some (.row cs E false) =>
          if E = e ∧ new.all oneB = true ∧ 0 < z then
            if o + (l + n) * z ≤ cs.length then some (.slice a (l + n) UNK, A.set b (.row (spl cs (o + l * z) new) E false))
            else if o + l * z ≤ cs.length then some (.slice (some ⟨A.next, 0, none⟩) (l + n) UNK, (A.kill b).alloc (.row ((cs.drop o).take (l * z) ++ new) e false))
            else none
          else none
        | _ => none
      else if l + n ≤ c then
        match A.get b with
        | some (.row cs E false) => if o + (l + n) * z ≤ cs.length ∧ new.all oneB = true then some (.slice a (l + n) c, A.set b (.row (spl cs (o + l * z) new) E false)) else none
        | _ => none
      else (firstOf A z l (.slice a l c)).bind fun old => some (.slice (some ⟨A.next, 0, none⟩) (l + n) UNK, A.alloc (.row (old ++ new) e false))
    | _ => none
  | _, _ => none
theorem aAppend_eq {T X e : TypeId} {z y : Nat} {zv : Value} (h0 : notInt P X = true) (h1 : sliceElem P T = some e) (h2 : szOf P e = some z) (h3 : byOf P e = some y) (h4 : zeroOf P e = some zv) (h5 : zv.cells.size = z) (s x : Value) (A : AH) : aAppend P T X s x A = appW e z y s x A := by
  unfold aAppend appW
  split
  · rw [h0]; simp only [Bool.true_eq_false, if_false]
    rw [h1]; simp only []; rw [h2, h3, h4]; simp only [h5, and_true]; rfl
  · rename_i hne
    split
    · exact absurd rfl (hne _ _ _ _ _ _ rfl)
    · rfl
def appZ (e z y : Nat) (zc : List Value) (s x : Value) (A : AH) : Option (Value × AH) :=
  match s, x with
  | .slice a l c, .int _ i =>
    if 0 ≤ i ∧ l + i.toNat ≤ 1099511627776 ∧ (l + i.toNat) * y ≤ 17592186044416 ∧ y ≤ 1048576 ∧ c ≠ UNK ∧ c < l + i.toNat then
      (firstOf A z l (.slice a l c)).bind fun old => some (.slice (some ⟨A.next, 0, none⟩) (l + i.toNat) UNK, A.alloc (.row (old ++ zrep i.toNat zc) e false))
    else none
  | _, _ => none
def isIntX (P : Program) (X : TypeId) : Bool := match P.underlying X with | some (.int _) => true | _ => false
theorem aAppendZ_eq {T X e : TypeId} {z y : Nat} {zv : Value} (h0 : isIntX P X = true) (h1 : sliceElem P T = some e) (h2 : szOf P e = some z) (h3 : byOf P e = some y) (h4 : zeroOf P e = some zv) (h5 : zv.cells.size = z) (s x : Value) (A : AH) : aAppendZ P T X s x A = appZ e z y zv.cells.toList s x A := by
  unfold isIntX at h0
  split at h0
  · rename_i k hk
    unfold aAppendZ appZ
    split
    · have : notInt P X = false := by unfold notInt; rw [hk]
      rw [this]; simp only [Bool.false_eq_true, if_false]
      rw [hk]; simp only []; rw [h1]; simp only []; rw [h2, h3, h4]; simp only [h5, true_and]
    · rename_i hne
      split
      · exact absurd rfl (hne _ _ _ _ _ rfl)
      · rfl
  · cases h0
theorem appW_zero {e z y : Nat} {a a2 : Option Addr} {l c c2 : Nat} {A : AH} (h2 : Pla a2) (hc : c = UNK ∨ l ≤ c) : appW e z y (.slice a l c) (.slice a2 0 c2) A = some (.slice a l c, A) := by
  unfold appW
  have : firstOf A z 0 (.slice a2 0 c2) = some [] := by
    cases a2 with
    | none => rfl
    | some x => obtain ⟨b, o, rfl⟩ := h2 x rfl; rfl
  simp only [this, Option.bind_some, if_true]
  rw [if_pos hc]
/-- Something is appended to a list of its own. -/
theorem Own.app {n0 : Nat} {A : AH} {e z y : Nat} {v : Value} {L M : List (List Value)} {a : Option Addr} {c : Nat} (h : Own n0 A e z v L) (hn0 : n0 ≤ A.next) (hM : Sl A e z a M) (hz : 0 < z) (hy : y ≤ 1048576) (hl : L.length + M.length ≤ 1099511627776) (hl2 : (L.length + M.length) * y ≤ 17592186044416) :
    ∃ v' A', appW e z y v (.slice a M.length c) A = some (v', A') ∧ Own n0 A' e z v' (L ++ M) ∧ A.next ≤ A'.next ∧ (∀ A0 : AH, A0.next = n0 → Ext A0 A → Ext A0 A') := by
  by_cases hm : M = []
  · subst hm
    rcases h.2 with ⟨rfl, rfl⟩ | ⟨b, rfl, hb0, hb⟩
    · exact ⟨_, _, appW_zero hM.2.1 (Or.inr (Nat.zero_le _)), by simpa using h, Nat.le_refl _, fun _ _ hx => hx⟩
    · exact ⟨_, _, appW_zero hM.2.1 (Or.inl rfl), by simpa using h, Nat.le_refl _, fun _ _ hx => hx⟩
  · have hm0 : M.length ≠ 0 := fun e => hm (List.eq_nil_of_length_eq_zero e)
    unfold appW
    rcases h.2 with ⟨rfl, rfl⟩ | ⟨b, rfl, hb0, hb⟩
    · simp only [hM.first c, Option.bind_some, if_neg hm0]
      simp only [List.length_nil, Nat.zero_add] at hl hl2
      simp only [Nat.zero_add]
      rw [if_neg (by rw [Classical.not_not]; exact ⟨hl, hl2, hy⟩)]
      simp only [and_self, if_true]
      refine ⟨_, _, rfl, ⟨by simpa using hM.1, Or.inr ⟨A.next, by simp, hn0, by rw [AH.get_new]; simp⟩⟩, by simp, fun A0 h0 hx => hx.app (by omega) _⟩
    · simp only [hM.first c, Option.bind_some, if_neg hm0]
      rw [if_neg (by rw [Classical.not_not]; exact ⟨hl, hl2, hy⟩)]
      simp only [if_true]
      rw [hb]
      simp only []
      have hfl := flat_len h.1.len
      have hge : M.length * z ≠ 0 := by
        have : 0 < M.length * z := Nat.mul_pos (by omega) hz
        omega
      rw [if_pos ⟨trivial, hM.1.flat, hz⟩, if_neg (by rw [hfl, Nat.add_mul]; omega), if_pos (by rw [hfl]; omega)]
      refine ⟨_, _, rfl, ⟨h.1.app hM.1, Or.inr ⟨A.next, by simp, hn0, ?_⟩⟩, by simp, fun A0 h0 hx => ?_⟩
      · have := AH.get_new (A.kill b) (.row ((L.flatten.drop 0).take (L.length * z) ++ M.flatten) e false)
        rw [AH.next_kill] at this
        rw [this, List.drop_zero, List.take_of_length_le (by rw [hfl]; omega), List.flatten_append]
      · exact (hx.killnew (by omega)).app (by simp; omega) _
/-- All of something is appended to nothing that is something. -/
theorem appW_lit {e z y b o c : Nat} {A : AH} {a : Option Addr} {L : List (List Value)} (h : Sl A e z a L) (hb : b < A.next) (hy : y ≤ 1048576) (hl : L.length ≤ 1099511627776) (hl2 : L.length * y ≤ 17592186044416) :
    ∃ b' o' c' A', appW e z y (.slice (some ⟨b, o, none⟩) 0 0) (.slice a L.length c) A = some (.slice (some ⟨b', o', none⟩) L.length c', A') ∧ Sl A' e z (some ⟨b', o', none⟩) L ∧ Ext A A' ∧ A.next ≤ A'.next ∧ b ≤ b' ∧ CapOk A' e (some ⟨b', o', none⟩) L.length c' ∧ (L ≠ [] → o' = 0 ∧ A'.get b' = some (.row L.flatten e false)) := by
  by_cases hm : L = []
  · subst hm
    exact ⟨b, o, 0, A, appW_zero h.2.1 (Or.inr (Nat.le_refl _)), Sl.nil (Pla.yes _ _) A e z, Ext.refl A, Nat.le_refl _, Nat.le_refl _, Or.inl ⟨Nat.le_refl _, by unfold UNK; omega⟩, fun h => absurd rfl h⟩
  · have hm0 : L.length ≠ 0 := fun e => hm (List.eq_nil_of_length_eq_zero e)
    refine ⟨A.next, 0, UNK, A.alloc (.row L.flatten e false), ?_, Sl.row h.1 (AH.get_new _ _) rfl, Ext.alloc A _, by simp, by omega, Or.inr ⟨rfl, fun b o hb => by injection hb with hb; injection hb with hb; subst hb; exact ⟨_, _, AH.get_new _ _⟩⟩, fun _ => ⟨rfl, AH.get_new _ _⟩⟩
    unfold appW
    simp only [h.first c, Option.bind_some, if_neg hm0, Nat.zero_add]
    rw [if_neg (by rw [Classical.not_not]; exact ⟨hl, hl2, hy⟩), if_neg (by simp [UNK]), if_neg (by omega)]
    rfl
end Go.AI
/- AI4: capacities told. -/
namespace Go.AI
open Go Go.RowKit
set_option linter.unusedVariables false
variable {P : Program}
theorem pick_all {m : Mp} (a : Array Value) (h : ∀ v ∈ a, ∃ u, VRel m u v) : ∃ c : Array Value, c.size = a.size ∧ ∀ (i : Nat) (v v' : Value), c[i]? = some v → a[i]? = some v' → VRel m v v' := by
  classical
  refine ⟨a.attach.map fun x => Classical.choose (h x.1 x.2), by simp, fun i v v' e e' => ?_⟩
  simp only [Array.getElem?_map, Option.map_eq_some_iff] at e
  obtain ⟨x, hx, rfl⟩ := e
  have := Classical.choose_spec (h x.1 x.2)
  have hxv : x.1 = v' := by
    rw [Array.getElem?_eq_some_iff] at hx e'
    obtain ⟨h1, h2⟩ := hx
    obtain ⟨h3, h4⟩ := e'
    rw [← h2, ← h4]; simp
  subst hxv
  exact this
/-- Any value is borne by something. -/
theorem junk_ex (m : Mp) : ∀ (v' : Value), ∃ v, VRel m v v'
  | .bool b => ⟨_, .bool b⟩
  | .agg a => by
    obtain ⟨c, h1, h2⟩ := pick_all (m := m) a fun v hv => junk_ex m v
    exact ⟨.agg c, .agg c a h1 h2⟩
  | .tuple a => by
    obtain ⟨c, h1, h2⟩ := pick_all (m := m) a fun v hv => junk_ex m v
    exact ⟨.tuple c, .tuple c a h1 h2⟩
  | .int k n => ⟨_, .int k n⟩
  | .float k n => ⟨_, .float k n⟩
  | .complex _ _ _ => ⟨_, .junk _ rfl⟩
  | .string s => ⟨_, .string s⟩
  | .pointer _ => ⟨_, .junk _ rfl⟩
  | .slice _ _ _ => ⟨_, .junk _ rfl⟩
  | .map _ => ⟨_, .junk _ rfl⟩
  | .chan _ => ⟨_, .junk _ rfl⟩
  | .func _ _ _ => ⟨_, .junk _ rfl⟩
  | .nilFunc => ⟨_, .junk _ rfl⟩
  | .nilIface => ⟨_, .junk _ rfl⟩
  | .iface _ _ => ⟨_, .junk _ rfl⟩
termination_by v' => SizeOf.sizeOf v'
theorem junk_list (m : Mp) : ∀ (l : List Value), ∃ u, LRel m u l
  | [] => ⟨[], LRel.nil m⟩
  | v :: l => by
    obtain ⟨x, hx⟩ := junk_ex m v
    obtain ⟨u, hu⟩ := junk_list m l
    exact ⟨x :: u, LRel.cons hx hu⟩
theorem Step.seen {m m' : Mp} {A A' : AH} {w w' : World} {b : Nat} {cs ex : List Value} {e : TypeId} (hb : A.get b = some (.row cs e false)) (h : Step m (A.set b (.row (cs ++ ex) e false)) w m' A' w') : Step m A w m' A' w' := by
  have hin : ∀ k, In m A k → In m (A.set b (.row (cs ++ ex) e false)) k := by
    rintro k ⟨c, p, x, h1, h2, h3, h4⟩
    by_cases e : c = b
    · subst e; exact ⟨c, p, _, by rw [AH.get_set, if_pos rfl], rfl, h3, h4⟩
    · exact ⟨c, p, x, by rw [AH.get_set, if_neg e]; exact h1, h2, h3, h4⟩
  have hin' : ∀ k, In m (A.set b (.row (cs ++ ex) e false)) k → In m A k := by
    rintro k ⟨c, p, x, h1, h2, h3, h4⟩
    rw [AH.get_set] at h1
    by_cases e : c = b
    · subst e; exact ⟨c, p, _, hb, rfl, h3, h4⟩
    · rw [if_neg e] at h1; exact ⟨c, p, x, h1, h2, h3, h4⟩
  refine ⟨h.mono, h.nx, h.size, fun k hk hi => h.keep k hk fun hc => hi (hin' k hc), fun k hk hi => hin' k (h.img k hk hi), h.os, h.tape, h.output, h.old, fun c x hc hx => ?_⟩
  have := h.ros c x hc hx
  rw [AH.get_set] at this
  by_cases e : c = b
  · rw [if_pos e] at this; injection this with this; subst this; cases hx
  · rwa [if_neg e] at this
/-- What a capacity is can be told at a call. -/
theorem ACall.reveal {f : FuncId} {b n z : Nat} {e : TypeId} {cs : List Value} {args : List Value} {A : AH} {R : Value → AH → Prop} (hen : Enters P f) (hz : szOf P e = some z) (hb : A.get b = some (.row cs e false))
    (h : ∀ c ex, n ≤ c → c < UNK → c * z = cs.length + ex.length → ACall P f (.slice (some ⟨b, 0, none⟩) n c :: args) (A.set b (.row (cs ++ ex) e false)) R) : ACall P f (.slice (some ⟨b, 0, none⟩) n UNK :: args) A R := by
  refine ACall.enter hen fun m w args' hR hl => ?_
  obtain ⟨a0, l', hal⟩ : ∃ a0 l', args'.toList = a0 :: l' := by
    have := hl.1
    cases hx : args'.toList with
    | nil => rw [hx] at this; simp at this
    | cons a l => exact ⟨a, l, rfl⟩
  rw [hal] at hl
  have h0 : VRel m (.slice (some ⟨b, 0, none⟩) n UNK) a0 := hl.2 0 _ _ rfl rfl
  have ht : LRel m args l' := by simpa using hl.drop 1
  have key : ∀ (p : Pl) (c : Nat), m b = some p → n ≤ c → c < UNK → p.base + c * p.sz = p.tot → VRel m (.slice (some ⟨b, 0, none⟩) n c) a0 → Calls P f args' w (fun en w' => ∃ v v' A' m', en = .returned v' ∧ R v A' ∧ Rel P m' A' w' ∧ VRel m' v v' ∧ Step m A w m' A' w') := by
    intro p c hp hnc hcU htot hv
    obtain ⟨cur, fr, hg, ht2, hsz, hfr, hlen, hl2⟩ := held_row hR hb hp
    have hps := hsz z hz
    obtain ⟨ex, hex⟩ := junk_list m (cur.toList.drop (p.base + cs.length))
    have hexl : cs.length + ex.length = c * z := by
      have := hex.1
      simp at this
      rw [hps] at htot; omega
    have hR' : Rel P m (A.set b (.row (cs ++ ex) e false)) w := by
      refine ⟨fun k x hk => ?_, fun k j q r x y hk hj hro hq hr he => ?_, fun k hk => ?_, hR.low⟩
      · rw [AH.get_set] at hk
        split at hk
        · rename_i ek; subst ek; injection hk with hk; subst hk
          refine ⟨p, cur, fr, hp, hg, ht2, hsz, hfr, ?_, ?_⟩
          · rw [List.length_append, hexl, ← hps, htot, ht2]; exact Nat.le_refl _
          · have e1 : (cur.toList.drop p.base).take (cs ++ ex).length = (cur.toList.drop p.base).take cs.length ++ cur.toList.drop (p.base + cs.length) := by
              rw [List.take_of_length_le (by rw [List.length_drop, List.length_append, hexl, ← hps]; simp; omega)]
              rw [← List.drop_drop, List.take_append_drop]
            rw [e1]; exact hl2.append hex
        · exact hR.held k x hk
      · have f : ∀ j y, (A.set b (.row (cs ++ ex) e false)).get j = some y → ∃ y0, A.get j = some y0 ∧ y0.ro = y.ro := by
          intro j y hj
          rw [AH.get_set] at hj
          split at hj
          · rename_i ej; subst ej; rename_i hj'; injection hj' with hj'; subst hj'; exact ⟨_, hb, rfl⟩
          · exact ⟨y, hj, rfl⟩
        obtain ⟨x0, hx0, ex0⟩ := f k x hk
        obtain ⟨y0, hy0, ey0⟩ := f j y hj
        exact hR.apart k j q r x0 y0 hx0 hy0 (by rw [ex0, ey0]; exact hro) hq hr he
      · have hk' : A.next ≤ k := hk
        have hlt := hR.lt hb
        exact ⟨by rw [AH.get_set, if_neg (by omega)]; exact (hR.fresh k hk').1, (hR.fresh k hk').2⟩
    refine ((h c ex hnc hcU hexl.symm).entered hen hR' (by rw [hal]; exact LRel.cons hv ht)).mono ?_
    rintro en w' ⟨v, v', A', m', h1, h2, h3, h4, h5⟩
    exact ⟨v, v', A', m', h1, h2, h3, h4, h5.seen hb⟩
  cases h0 with
  | slice _ _ _ _ p hp hc => exact absurd rfl hc
  | sliceU _ _ _ c p hp hn ht hc => exact key p c hp hn hc (by rw [← ht]; simp) (.slice b 0 n c p hp (by omega))
  | sliceE _ _ o' p hp ht => exact key p 0 hp (Nat.le_refl _) (by simp [UNK]) (by rw [← ht]; simp) (.slice0 b 0 _ p hp)
/-- A list that is kept, and may have room behind it; ob: its block. -/
def Lst (A : AH) (e : TypeId) (z : Nat) (ob : Option Nat) (v : Value) (L : List (List Value)) : Prop :=
  Rw z L ∧ ((ob = none ∧ v = .slice none 0 0 ∧ L = []) ∨ ∃ b c rest, ob = some b ∧ v = .slice (some ⟨b, 0, none⟩) L.length c ∧ A.get b = some (.row (L.flatten ++ rest) e false) ∧ ((c = UNK ∧ rest = []) ∨ (c < UNK ∧ L.length ≤ c ∧ c * z = L.flatten.length + rest.length)))
theorem Lst.nil (A : AH) (e : TypeId) (z : Nat) : Lst A e z none (.slice none 0 0) [] := ⟨Rw.nil z, Or.inl ⟨rfl, rfl, rfl⟩⟩
theorem Lst.sl {A : AH} {e : TypeId} {z : Nat} {ob : Option Nat} {v : Value} {L : List (List Value)} (h : Lst A e z ob v L) : ∃ a c, v = .slice a L.length c ∧ Sl A e z a L ∧ (∀ b o, a = some ⟨b, o, none⟩ → ob = some b ∧ o = 0) := by
  rcases h.2 with ⟨_, rfl, rfl⟩ | ⟨b, c, rest, rfl, rfl, hb, _⟩
  · exact ⟨none, 0, rfl, Sl.nil Pla.no A e z, fun b o h => by cases h⟩
  · refine ⟨_, _, rfl, ⟨h.1, Pla.yes _ _, fun _ => ⟨b, 0, _, (e, false), rfl, hb, ?_, ?_⟩⟩, fun b' o h => by injection h with h; injection h with h1 h2; exact ⟨by rw [h1], h2.symm⟩⟩
    · rw [List.length_append, flat_len h.1.len]; omega
    · rw [List.drop_zero, ← flat_len h.1.len, List.take_left]
theorem Lst.kept {A A' : AH} {e : TypeId} {z : Nat} {ob : Option Nat} {v : Value} {L : List (List Value)} (h : Lst A e z ob v L) (hk : ∀ b, ob = some b → A'.get b = A.get b) : Lst A' e z ob v L :=
  ⟨h.1, h.2.imp id fun ⟨b, c, rest, h1, h2, h3, h4⟩ => ⟨b, c, rest, h1, h2, (hk b h1).trans h3, h4⟩⟩
theorem Lst.lt {A : AH} {e : TypeId} {z : Nat} {ob : Option Nat} {v : Value} {L : List (List Value)} (h : Lst A e z ob v L) (hw : A.wf) {b : Nat} (hb : ob = some b) : b < A.next := by
  rcases h.2 with ⟨h1, _⟩ | ⟨b', c, rest, h1, _, h3, _⟩
  · rw [h1] at hb; cases hb
  · rw [h1] at hb; injection hb with hb; subst hb; exact hw _ _ h3
end Go.AI
/- AI5: slices.overlaps, of two blocks. -/
namespace Go.AI
open Go Go.RowKit
set_option linter.unusedVariables false
variable {P : Program}
theorem frozen00 {w : World} {b : Nat} {cur : Array Value} {e : TypeId} (h : w.heap[b]? = some (.cells cur e (0, 0))) (o : Nat) : w.frozen? ⟨b, o, none⟩ = false := by
  simp [World.frozen?, h]
theorem slice_block {m : Mp} {b o n c : Nat} {x' : Value} (h : VRel m (.slice (some ⟨b, o, none⟩) n c) x') : (∃ p o' c', m b = some p ∧ x' = .slice (some ⟨p.b, o', none⟩) n c') ∨ (n = 0 ∧ ∃ a', x' = .slice (some a') 0 0) := by
  cases h with
  | slice _ _ _ _ p hp _ => exact Or.inl ⟨p, _, _, hp, rfl⟩
  | sliceU _ _ _ c' p hp _ _ _ => exact Or.inl ⟨p, _, c', hp, rfl⟩
  | sliceE _ _ o' p hp _ => exact Or.inl ⟨p, o', 0, hp, rfl⟩
  | slice0 _ _ a' p hp => exact Or.inr ⟨rfl, a', rfl⟩
theorem overlaps_apart {f : FuncId} {T R' e : TypeId} {size b1 o1 n1 c1 b2 o2 n2 c2 : Nat} {cs1 cs2 : List Value} {e1 e2 : TypeId} {A : AH} (ht : P.underlying T = some (.slice e)) (hz : ∀ w, (Go.sizeOf e).run P w = .ok size w)
    (hrun : ∀ args w v, (Extern.SlicesOverlaps.overlaps #[T, T] #[R'] args).run P w = .ok v w → (callFunc f args).run P w = .ok (.value v) w)
    (h1 : A.get b1 = some (.row cs1 e1 false)) (h2 : A.get b2 = some (.row cs2 e2 false)) (hne : b1 ≠ b2) (hc : cs2 ≠ []) (hn1 : n1 ≠ 0) (hn2 : n2 ≠ 0) :
    ACall P f [.slice (some ⟨b1, o1, none⟩) n1 c1, .slice (some ⟨b2, o2, none⟩) n2 c2] A fun v A' => v = .bool false ∧ A' = A := by
  intro m w args' hR hl
  obtain ⟨x, y, rfl⟩ : ∃ x y, args' = #[x, y] := by
    have := hl.1
    simp at this
    obtain ⟨l, hl'⟩ : ∃ l, args' = ⟨l⟩ := ⟨args'.toList, rfl⟩
    subst hl'
    match l, this with
    | [x, y], _ => exact ⟨x, y, rfl⟩
  have hx : VRel m _ x := hl.2 0 _ _ rfl rfl
  have hy : VRel m _ y := hl.2 1 _ _ rfl rfl
  obtain ⟨p, o', c', hp, rfl⟩ := (slice_block hx).resolve_right fun h => hn1 h.1
  obtain ⟨q, o2', c2', hq, rfl⟩ := (slice_block hy).resolve_right fun h => hn2 h.1
  obtain ⟨cur, fr, hg, _, _, hfr, _, _⟩ := held_row hR h1 hp
  obtain ⟨cur2, fr2, hg2, _, _, hfr2, hlen2, _⟩ := held_row hR h2 hq
  obtain rfl := hfr rfl
  obtain rfl := hfr2 rfl
  have hpq : p.b ≠ q.b := fun h => hne (hR.apart b1 b2 p q _ _ h1 h2 (Or.inl rfl) hp hq h)
  have hk : cur2.size ≠ 0 := by
    have : cs2.length ≠ 0 := fun h => hc (List.eq_nil_of_length_eq_zero h)
    omega
  refine Or.inr ⟨.bool false, w, hrun _ _ _ (Lib.run_overlaps_apart w T R' e ht size hz ⟨p.b, o', none⟩ ⟨q.b, o2', none⟩ n1 c' n2 c2' hpq e1 e2 cur.size cur2.size (by simp [World.shape?, hg]) (by simp [World.shape?, hg2]) hk (frozen00 hg _) (frozen00 hg _)), .bool false, A, m, ⟨rfl, rfl⟩, hR, .bool _, Step.refl _ _ _⟩
/-! Slices cut, copied, cleared: without the program. -/
@[simp] theorem aBnd_int (k : IntKind) (i : Int) (y : Nat) : aBnd (.int k i) y = if 0 ≤ i ∧ i ≤ y then some i.toNat else none := (rfl)
@[simp] theorem aBndO_some (v : Value) (y d : Nat) : aBndO (some v) y d = aBnd v y := (rfl)
@[simp] theorem aBndO_none (y d : Nat) : aBndO none y d = some d := (rfl)
def slW (P : Program) (z : Nat) (a : Option Addr) (n c : Nat) (lo hi mx : Option Value) (A : AH) : Option Value :=
  if n ≤ topOf n c then
    (aBounds n c lo hi mx).bind fun q =>
    match q.2.2 with
    | some k => if k - q.1 = UNK then none else some (.slice (cutA a k q.1 z) (q.2.1 - q.1) (k - q.1))
    | none =>
      if c = UNK then
        match a with
        | some ⟨b, o, none⟩ =>
          match A.get b with
          | some (.row _ E _) => if szOf P E = some z then some (.slice (some ⟨b, o + q.1 * z, none⟩) (q.2.1 - q.1) UNK) else none
          | _ => none
        | _ => none
      else if c - q.1 = UNK then none else some (.slice (cutA a c q.1 z) (q.2.1 - q.1) (c - q.1))
  else none
theorem aSlice_eq {T e : TypeId} {z : Nat} (h1 : sliceElem P T = some e) (h2 : szOf P e = some z) (a : Option Addr) (n c : Nat) (lo hi mx : Option Value) (A : AH) : aSlice P T (.slice a n c) lo hi mx A = slW P z a n c lo hi mx A := by
  unfold aSlice slW
  rw [h1]; simp only []; rw [h2]; rfl
theorem cutA_ne {b o m l s : Nat} (h : m ≠ l) : cutA (some ⟨b, o, none⟩) m l s = some ⟨b, o + l * s, none⟩ := by
  unfold cutA; rw [if_neg h, Option.map_some, add_spot _ rfl]
theorem slW_lo {z n c : Nat} {a : Option Addr} {i : Nat} {k : IntKind} {A : AH} (hi : i ≤ n) (hn : n ≤ c) (hc : c < UNK) : slW P z a n c (some (.int k i)) none none A = some (.slice (cutA a c i z) (n - i) (c - i)) := by
  unfold slW
  rw [if_pos (by unfold topOf; split <;> omega)]
  simp only [aBounds, aBndO_none, aBndO_some, aBnd_int, Option.bind_some]
  rw [if_pos ⟨by omega, by omega⟩]
  simp only [Option.map_some, Option.bind_some, Int.toNat_natCast]
  rw [if_neg (by omega), if_neg (by omega)]
theorem slW_hi {z n c : Nat} {a : Option Addr} {h : Nat} {k : IntKind} {A : AH} (hh : h ≤ c) (hn : n ≤ c) (hc : c < UNK) : slW P z a n c none (some (.int k h)) none A = some (.slice (cutA a c 0 z) h c) := by
  unfold slW
  rw [if_pos (by unfold topOf; split <;> omega)]
  have ht : topOf n c = c := by unfold topOf; rw [if_neg (by omega)]
  simp only [aBounds, aBndO_none, aBndO_some, aBnd_int, ht]
  rw [if_pos ⟨by omega, by omega⟩]
  simp only [Option.map_some, Option.bind_some, Int.toNat_natCast, Nat.sub_zero]
  rw [if_neg (by omega), if_neg (by omega)]
theorem slW_lohi {z n c : Nat} {a : Option Addr} {l h : Nat} {k k' : IntKind} {A : AH} (hl : l ≤ h) (hh : h ≤ c) (hn : n ≤ c) (hc : c < UNK) : slW P z a n c (some (.int k l)) (some (.int k' h)) none A = some (.slice (cutA a c l z) (h - l) (c - l)) := by
  unfold slW
  rw [if_pos (by unfold topOf; split <;> omega)]
  have ht : topOf n c = c := by unfold topOf; rw [if_neg (by omega)]
  simp only [aBounds, aBndO_some, aBnd_int, ht]
  rw [if_pos ⟨by omega, by omega⟩]
  simp only [Option.bind_some, Int.toNat_natCast]
  rw [if_pos ⟨by omega, by omega⟩]
  simp only [Option.map_some, Option.bind_some]
  rw [if_neg (by omega), if_neg (by omega)]
theorem cutA_zero (b o m s : Nat) : cutA (some ⟨b, o, none⟩) m 0 s = some ⟨b, o, none⟩ := by
  unfold cutA; split
  · rfl
  · simp [Addr.add]
def cpW (z : Nat) (dst src : Value) (A : AH) : Option (Value × AH) :=
  match dst, src with
  | .slice a dn _, .slice b sn sc =>
    (firstOf A z (min sn dn) (.slice b sn sc)).bind fun vs =>
    if min sn dn = 0 then some (goInt 0, A) else
    match a with
    | some ⟨d, o, none⟩ =>
      match A.get d with
      | some (.row cs E false) => if o + vs.length ≤ cs.length ∧ vs.all oneB = true then some (goInt (min sn dn : Nat), A.set d (.row (spl cs o vs) E false)) else none
      | _ => none
    | _ => none
  | _, _ => none
theorem aCopy_eq {T e : TypeId} {z : Nat} (h1 : sliceElem P T = some e) (h2 : szOf P e = some z) (d s : Value) (A : AH) : aCopy P T d s A = cpW z d s A := by
  unfold aCopy cpW
  split
  · rw [h1]; simp only []; rw [h2]
    rfl
  · rename_i hne
    split
    · exact absurd rfl (hne _ _ _ _ _ _ rfl)
    · rfl
def clW (zc : List Value) (x : Value) (A : AH) : Option AH :=
  match x with
  | .slice a n _ =>
    if n = 0 then some A else
    match a with
    | some ⟨d, o, none⟩ =>
      match A.get d with
      | some (.row cs E false) => if o + n * zc.length ≤ cs.length ∧ (zrep n zc).all oneB = true then some (A.set d (.row (spl cs o (zrep n zc)) E false)) else none
      | _ => none
    | _ => none
  | _ => none
theorem aClear_eq {T e : TypeId} {zv : Value} (h1 : sliceElem P T = some e) (h2 : zeroOf P e = some zv) (x : Value) (A : AH) : aClear P T x A = clW zv.cells.toList x A := by
  unfold aClear clW
  split
  · rw [h1]; simp only []; rw [h2]; rfl
  · rename_i hne
    split
    · exact absurd rfl (hne _ _ _)
    · rfl
theorem cpW_row {z d o dn dc sn sc : Nat} {b : Option Addr} {A : AH} {cs vs : List Value} {E : TypeId} (hf : firstOf A z (min sn dn) (.slice b sn sc) = some vs) (hm : min sn dn ≠ 0) (hd : A.get d = some (.row cs E false)) (ho : o + vs.length ≤ cs.length) (h1 : vs.all oneB = true) :
    cpW z (.slice (some ⟨d, o, none⟩) dn dc) (.slice b sn sc) A = some (.int .i64 (min sn dn : Nat), A.set d (.row (spl cs o vs) E false)) := by
  unfold cpW
  simp only [hf, Option.bind_some, if_neg hm]
  rw [hd]; simp only []
  rw [if_pos ⟨ho, h1⟩]; rfl
theorem firstOf_row {A : AH} {z n b o n' c : Nat} {cs : List Value} {E : TypeId} {ro : Bool} (hb : A.get b = some (.row cs E ro)) (h : o + n * z ≤ cs.length) : firstOf A z n (.slice (some ⟨b, o, none⟩) n' c) = some ((cs.drop o).take (n * z)) := by
  unfold firstOf
  split
  · rename_i e; cases e
  · rename_i b' o' _ _ e
    injection e with e1 _ _; injection e1 with e1; injection e1 with e1 e2; subst e1; subst e2
    split
    · rename_i h0; rw [h0, Nat.zero_mul, List.take_zero]
    · rw [hb]; simp only []; rw [if_pos h]
  · rename_i hne; exact absurd rfl (hne _ _ _ _)
theorem slU_lo {z n b o i : Nat} {k : IntKind} {cs : List Value} {E : TypeId} {ro : Bool} {A : AH} (hb : A.get b = some (.row cs E ro)) (hz : szOf P E = some z) (hi : i ≤ n) : slW P z (some ⟨b, o, none⟩) n UNK (some (.int k i)) none none A = some (.slice (some ⟨b, o + i * z, none⟩) (n - i) UNK) := by
  unfold slW
  rw [if_pos (by unfold topOf; rw [if_pos rfl]; exact Nat.le_refl _)]
  simp only [aBounds, aBndO_none, aBndO_some, aBnd_int, Option.bind_some]
  rw [if_pos ⟨by omega, by omega⟩]
  simp only [Option.map_some, Option.bind_some, Int.toNat_natCast, if_true]
  rw [hb]; simp only [hz, if_true]
theorem slU_hi {z n b o h : Nat} {k : IntKind} {cs : List Value} {E : TypeId} {ro : Bool} {A : AH} (hb : A.get b = some (.row cs E ro)) (hz : szOf P E = some z) (hh : h ≤ n) : slW P z (some ⟨b, o, none⟩) n UNK none (some (.int k h)) none A = some (.slice (some ⟨b, o, none⟩) h UNK) := by
  unfold slW
  rw [if_pos (by unfold topOf; rw [if_pos rfl]; exact Nat.le_refl _)]
  have ht : topOf n UNK = n := by unfold topOf; rw [if_pos rfl]
  simp only [aBounds, aBndO_none, aBndO_some, aBnd_int, ht]
  rw [if_pos ⟨by omega, by omega⟩]
  simp only [Option.map_some, Option.bind_some, Int.toNat_natCast, if_true, Nat.sub_zero, Nat.zero_mul, Nat.add_zero]
  rw [hb]; simp only [hz, if_true]
theorem spl_at (a b v : List Value) : spl (a ++ b) a.length v = a ++ (v ++ b.drop v.length) := by
  unfold spl
  rw [List.take_left, List.append_assoc, List.drop_append, List.drop_eq_nil_of_le (by omega), List.nil_append]
  congr 3; omega
theorem spl_at' {o : Nat} (a b v : List Value) (h : o = a.length) : spl (a ++ b) o v = a ++ (v ++ b.drop v.length) := by subst h; exact spl_at a b v
/-- What slices.Insert leaves: b is the list's block. -/
def InsP (e z b : Nat) (L' : List (List Value)) (A : AH) (v : Value) (A' : AH) : Prop :=
  ∃ b', Lst A' e z (some b') v L' ∧ (∀ k, k < A.next → k ≠ b → A'.get k = A.get k) ∧ (b' = b ∨ A.next ≤ b')
theorem take_flat {z : Nat} {L : List (List Value)} (h : Rw z L) (i : Nat) (rest : List Value) (hi : i ≤ L.length) : (L.flatten ++ rest).take (i * z) = (L.take i).flatten := by
  rw [List.take_append_of_le_length (by rw [flat_len h.len]; exact Nat.mul_le_mul_right _ hi), flat_take h.len]
theorem part_flat {z : Nat} {L : List (List Value)} (h : Rw z L) (i : Nat) (rest : List Value) (hi : i ≤ L.length) : ((L.flatten ++ rest).drop (i * z)).take ((L.length - i) * z) = (L.drop i).flatten := by
  have hl := flat_len h.len
  have : i * z ≤ L.length * z := Nat.mul_le_mul_right _ hi
  rw [List.drop_append_of_le_length (by omega), flat_drop h.len, List.take_append_of_le_length, List.take_of_length_le]
  · rw [flat_len (fun r hr => h.len r (List.mem_of_mem_drop hr)), List.length_drop]; exact Nat.le_refl _
  · rw [flat_len (fun r hr => h.len r (List.mem_of_mem_drop hr)), List.length_drop]; exact Nat.le_refl _
theorem appW_in {e z y b o l c n c2 : Nat} {a2 : Option Addr} {A : AH} {cs new : List Value} {E : TypeId} (hf : firstOf A z n (.slice a2 n c2) = some new) (hn : n ≠ 0) (h1 : l + n ≤ 1099511627776) (h2 : (l + n) * y ≤ 17592186044416) (h3 : y ≤ 1048576) (hc : c < UNK) (hle : l + n ≤ c) (hb : A.get b = some (.row cs E false)) (hfit : o + (l + n) * z ≤ cs.length) (hone : new.all oneB = true) :
    appW e z y (.slice (some ⟨b, o, none⟩) l c) (.slice a2 n c2) A = some (.slice (some ⟨b, o, none⟩) (l + n) c, A.set b (.row (spl cs (o + l * z) new) E false)) := by
  unfold appW
  simp only [hf, Option.bind_some, if_neg hn]
  rw [if_neg (by rw [Classical.not_not]; exact ⟨h1, h2, h3⟩), if_neg (by omega), if_pos hle, hb]
  simp only []
  rw [if_pos ⟨hfit, hone⟩]
theorem appW_out {e z y b o l c n c2 : Nat} {a2 : Option Addr} {A : AH} {old new : List Value} (hf : firstOf A z n (.slice a2 n c2) = some new) (hn : n ≠ 0) (h1 : l + n ≤ 1099511627776) (h2 : (l + n) * y ≤ 17592186044416) (h3 : y ≤ 1048576) (hc : c < UNK) (hle : c < l + n) (ho : firstOf A z l (.slice (some ⟨b, o, none⟩) l c) = some old) :
    appW e z y (.slice (some ⟨b, o, none⟩) l c) (.slice a2 n c2) A = some (.slice (some ⟨A.next, 0, none⟩) (l + n) UNK, A.alloc (.row (old ++ new) e false)) := by
  unfold appW
  simp only [hf, Option.bind_some, if_neg hn]
  rw [if_neg (by rw [Classical.not_not]; exact ⟨h1, h2, h3⟩), if_neg (by omega), if_neg (by omega), ho]
  rfl
theorem appZ_out {e z y b o l c n : Nat} {k : IntKind} {zc old : List Value} {A : AH} (h1 : l + n ≤ 1099511627776) (h2 : (l + n) * y ≤ 17592186044416) (h3 : y ≤ 1048576) (hc : c < UNK) (hle : c < l + n) (ho : firstOf A z l (.slice (some ⟨b, o, none⟩) l c) = some old) :
    appZ e z y zc (.slice (some ⟨b, o, none⟩) l c) (.int k n) A = some (.slice (some ⟨A.next, 0, none⟩) (l + n) UNK, A.alloc (.row (old ++ zrep n zc) e false)) := by
  unfold appZ
  simp only [Int.toNat_natCast]
  rw [if_pos ⟨by omega, h1, h2, h3, by omega, hle⟩, ho]; rfl
theorem aCap_exact {T e : TypeId} (h1 : sliceElem P T = some e) (a : Option Addr) (n c : Nat) (hc : c ≠ UNK) : aCap P T (.slice a n c) = some (.int .i64 c) := by
  unfold aCap; rw [sliceElem_spec h1]; simp only []
  simp [hc, goInt]
theorem shift_rows {z i : Nat} {L : List (List Value)} {r rest : List Value} (h : Rw z L) (hi : i ≤ L.length) (hr : r.length = z) (hrest : z ≤ rest.length) :
    spl (spl (L.flatten ++ rest) ((i + 1) * z) (L.drop i).flatten) (i * z) r = (L.take i ++ r :: L.drop i).flatten ++ rest.drop z := by
  have hl := flat_len h.len
  have hd : (L.drop i).flatten.length = (L.length - i) * z := by rw [flat_len (fun r hr => h.len r (List.mem_of_mem_drop hr)), List.length_drop]
  have hm : i * z ≤ L.length * z := Nat.mul_le_mul_right _ hi
  have e1 : (i + 1) * z = i * z + z := Nat.succ_mul i z
  have e2 : (i + 1) * z + (L.length - i) * z = L.length * z + z := by rw [e1, Nat.sub_mul]; omega
  have k1 : (L.flatten ++ rest).drop ((i + 1) * z + (L.drop i).flatten.length) = rest.drop z := by
    rw [hd, e2, List.drop_append, List.drop_eq_nil_of_le (by omega), List.nil_append]; congr 1; omega
  unfold spl
  rw [k1]
  have k2 : ((L.flatten ++ rest).take ((i + 1) * z)).length = (i + 1) * z := by rw [List.length_take, List.length_append]; omega
  rw [List.append_assoc ((L.flatten ++ rest).take ((i + 1) * z)), List.take_append_of_le_length (by omega), List.take_take, Nat.min_eq_left (by omega), take_flat h i rest hi]
  rw [List.drop_append_of_le_length (by omega), List.drop_eq_nil_of_le (by rw [k2, hr]; omega), List.nil_append]
  simp
theorem slW_3 {z n c l h k : Nat} {a : Option Addr} {k1 k2 k3 : IntKind} {A : AH} (hl : l ≤ h) (hh : h ≤ k) (hk : k ≤ c) (hn : n ≤ c) (hc : c < UNK) : slW P z a n c (some (.int k1 l)) (some (.int k2 h)) (some (.int k3 k)) A = some (.slice (cutA a k l z) (h - l) (k - l)) := by
  unfold slW
  rw [if_pos (by unfold topOf; split <;> omega)]
  have ht : topOf n c = c := by unfold topOf; rw [if_neg (by omega)]
  simp only [aBounds, aBndO_some, aBnd_int, ht]
  rw [if_pos ⟨by omega, by omega⟩]
  simp only [Option.bind_some, Int.toNat_natCast]
  rw [if_pos ⟨by omega, by omega⟩]
  simp only [Option.bind_some, Int.toNat_natCast]
  rw [if_pos ⟨by omega, by omega⟩]
  simp only [Option.map_some, Option.bind_some]
  rw [if_neg (by omega)]
theorem Pla.cut {a : Option Addr} (h : Pla a) (m l s : Nat) : Pla (cutA a m l s) := by
  unfold cutA
  split
  · exact h
  · intro x hx
    cases a with
    | none => cases hx
    | some y =>
      obtain ⟨b, o, rfl⟩ := h y rfl
      rw [Option.map_some, add_spot _ rfl] at hx
      injection hx with hx; exact ⟨_, _, hx.symm⟩
theorem clW_row {zc : List Value} {d o n c : Nat} {A : AH} {cs : List Value} {E : TypeId} (hn : n ≠ 0) (hd : A.get d = some (.row cs E false)) (ho : o + n * zc.length ≤ cs.length) (h1 : (zrep n zc).all oneB = true) : clW zc (.slice (some ⟨d, o, none⟩) n c) A = some (A.set d (.row (spl cs o (zrep n zc)) E false)) := by
  unfold clW
  simp only [if_neg hn]
  rw [hd]; simp only []
  rw [if_pos ⟨ho, h1⟩]
theorem del_rows {z i : Nat} {L : List (List Value)} {zc rest : List Value} (h : Rw z L) (hi : i < L.length) (hz : zc.length = z) :
    spl (spl (L.flatten ++ rest) (i * z) (L.drop (i + 1)).flatten) ((L.length - 1) * z) zc = (L.take i ++ L.drop (i + 1)).flatten ++ (zc ++ rest) := by
  have hl := flat_len h.len
  have ht : (L.take i).flatten.length = i * z := by rw [flat_len (fun r hr => h.len r (List.mem_of_mem_take hr)), List.length_take, Nat.min_eq_left (by omega)]
  have hd : (L.drop (i + 1)).flatten.length = (L.length - (i + 1)) * z := by rw [flat_len (fun r hr => h.len r (List.mem_of_mem_drop hr)), List.length_drop]
  obtain ⟨j, hj⟩ : ∃ j, L.length = i + 1 + j := ⟨L.length - (i + 1), by omega⟩
  have q1 : (L.length - (i + 1)) * z = j * z := by rw [hj]; congr 1; omega
  have q2 : (L.length - 1) * z = i * z + j * z := by rw [hj, ← Nat.add_mul]; congr 1; omega
  have q3 : L.length * z = i * z + j * z + z := by rw [hj, Nat.add_right_comm, Nat.add_mul, Nat.add_mul, Nat.one_mul]
  have k1 : ((L.flatten ++ rest).drop (i * z + (L.drop (i + 1)).flatten.length)).length = z + rest.length := by rw [List.length_drop, List.length_append, hd]; omega
  have k2 : ((L.flatten ++ rest).drop (i * z + (L.drop (i + 1)).flatten.length)).drop z = rest := by
    rw [List.drop_drop, List.drop_append, List.drop_eq_nil_of_le (by omega), List.nil_append, hd]
    rw [show i * z + (L.length - (i + 1)) * z + z - L.flatten.length = 0 by omega]; rfl
  have e : spl (L.flatten ++ rest) (i * z) (L.drop (i + 1)).flatten = (L.take i).flatten ++ (L.drop (i + 1)).flatten ++ (L.flatten ++ rest).drop (i * z + (L.drop (i + 1)).flatten.length) := by
    unfold spl; rw [take_flat h i rest (by omega)]
  rw [e, spl_at' _ _ _ (by rw [List.length_append, ht, hd]; omega), hz, k2]
  simp
end Go.AI
/- AI6: more of lists that are kept. -/
namespace Go.AI
open Go Go.RowKit
set_option linter.unusedVariables false
variable {P : Program}
theorem spl_row {z i : Nat} {L : List (List Value)} {r rest : List Value} (h : Rw z L) (hi : i < L.length) (hr : r.length = z) : spl (L.flatten ++ rest) (i * z) r = (L.take i ++ r :: L.drop (i + 1)).flatten ++ rest := by
  have hl := flat_len h.len
  have hm : (i + 1) * z ≤ L.length * z := Nat.mul_le_mul_right _ hi
  have e1 : (i + 1) * z = i * z + z := Nat.succ_mul i z
  unfold spl
  rw [take_flat h i rest (by omega), hr, ← e1, List.drop_append_of_le_length (by omega), flat_drop h.len]
  simp
theorem AH.wf_alloc {A : AH} (h : A.wf) (x : Blk) : (A.alloc x).wf := fun b y hb => by
  rw [AH.get_alloc] at hb
  show b < A.next + 1
  split at hb
  · omega
  · have := h b y hb; omega
theorem AH.wf_set {A : AH} (h : A.wf) {c : Nat} (hc : c < A.next) (x : Blk) : (A.set c x).wf := fun b y hb => by
  rw [AH.get_set] at hb
  show b < A.next
  split at hb
  · omega
  · exact h b y hb
@[simp] theorem spl_all {cs vs : List Value} (h : cs.length = vs.length) : spl cs 0 vs = vs := by simp [spl, List.drop_eq_nil_of_le (Nat.le_of_eq h)]
theorem Lst.form {A : AH} {e : TypeId} {z : Nat} {ob : Option Nat} {v : Value} {L : List (List Value)} (h : Lst A e z ob v L) : ∃ a n c, v = .slice a n c := by
  rcases h.2 with ⟨_, rfl, _⟩ | ⟨b, c, rest, _, rfl, _⟩
  · exact ⟨_, _, _, rfl⟩
  · exact ⟨_, _, _, rfl⟩
/-- A row of a kept list is written over. -/
theorem Lst.upd {A : AH} {e : TypeId} {z i : Nat} {ob : Option Nat} {v : Value} {L : List (List Value)} {r : List Value} (h : Lst A e z ob v L) (hi : i < L.length) (hr : r.length = z ∧ r.all oneB = true) :
    ∃ b c cs, ob = some b ∧ v = .slice (some ⟨b, 0, none⟩) L.length c ∧ A.get b = some (.row cs e false) ∧ i * z + z ≤ cs.length ∧ Lst (A.set b (.row (spl cs (i * z) r) e false)) e z ob v (L.take i ++ r :: L.drop (i + 1)) := by
  rcases h.2 with ⟨_, _, rfl⟩ | ⟨b, c, rest, h1, h2, h3, h4⟩
  · simp at hi
  · have hm : (i + 1) * z ≤ L.length * z := Nat.mul_le_mul_right _ hi
    rw [Nat.succ_mul] at hm
    have hl := flat_len h.1.len
    have hR : Rw z (L.take i ++ r :: L.drop (i + 1)) := (h.1.sub fun r hr => List.mem_of_mem_take hr).app (Rw.cons hr (h.1.sub fun r hr => List.mem_of_mem_drop hr))
    have hlen : (L.take i ++ r :: L.drop (i + 1)).length = L.length := by simp; omega
    refine ⟨b, c, _, h1, h2, h3, by rw [List.length_append]; omega, hR, Or.inr ⟨b, c, rest, h1, by rw [hlen]; exact h2, by rw [AH.get_set, if_pos rfl, spl_row h.1 hi hr.1], ?_⟩⟩
    rw [hlen, flat_len hR.len, hlen, ← hl]; exact h4
/-- Its block, if there is one, is new. -/
def Fresh (n0 : Nat) (ob : Option Nat) : Prop := ∀ b, ob = some b → n0 ≤ b
theorem Fresh.no (n0 : Nat) : Fresh n0 none := fun b h => by cases h
theorem Fresh.yes {n0 b : Nat} (h : n0 ≤ b) : Fresh n0 (some b) := fun b' e => by injection e with e; omega
/-- Something is appended to a kept list. -/
theorem Lst.app {A : AH} {e : TypeId} {z y : Nat} {ob : Option Nat} {v : Value} {L M : List (List Value)} {a : Option Addr} {c : Nat} (h : Lst A e z ob v L) (hM : Sl A e z a M) (hz : 0 < z) (hy : y ≤ 1048576) (hl : L.length + M.length ≤ 1099511627776) (hl2 : (L.length + M.length) * y ≤ 17592186044416) :
    ∃ v' A' ob', appW e z y v (.slice a M.length c) A = some (v', A') ∧ Lst A' e z ob' v' (L ++ M) ∧ (∀ k, k < A.next → ob ≠ some k → A'.get k = A.get k) ∧ (ob' = ob ∨ ob' = some A.next) ∧ A.next ≤ A'.next := by
  by_cases hm : M = []
  · subst hm
    rcases h.2 with ⟨rfl, rfl, rfl⟩ | ⟨b, c', rest, rfl, rfl, hb, hc⟩
    · exact ⟨_, _, none, appW_zero hM.2.1 (Or.inr (Nat.zero_le _)), by simpa using h, fun _ _ _ => rfl, Or.inl rfl, Nat.le_refl _⟩
    · exact ⟨_, _, some b, appW_zero hM.2.1 (hc.imp (fun h => h.1) fun h => h.2.1), by simpa using h, fun _ _ _ => rfl, Or.inl rfl, Nat.le_refl _⟩
  · have hm0 : M.length ≠ 0 := fun e => hm (List.eq_nil_of_length_eq_zero e)
    have hf := hM.first c
    have hMf := hM.1.flat
    have hMl := flat_len hM.1.len
    have hR := h.1.app hM.1
    have hRl := flat_len hR.len
    rw [List.length_append, List.flatten_append, List.length_append] at hRl
    rcases h.2 with ⟨rfl, rfl, rfl⟩ | ⟨b, c', rest, rfl, rfl, hb, hc⟩
    · simp only [List.length_nil, Nat.zero_add] at hl hl2
      refine ⟨.slice (some ⟨A.next, 0, none⟩) M.length UNK, A.alloc (.row M.flatten e false), some A.next, ?_, ⟨by simpa using hM.1, Or.inr ⟨A.next, UNK, [], rfl, by simp, by rw [AH.get_new]; simp, Or.inl ⟨rfl, rfl⟩⟩⟩, fun k hk _ => by rw [AH.get_alloc, if_neg (by omega)], Or.inr rfl, by simp⟩
      unfold appW
      simp only [hf, Option.bind_some, if_neg hm0, Nat.zero_add]
      rw [if_neg (by rw [Classical.not_not]; exact ⟨hl, hl2, hy⟩)]
      simp only [and_self, if_true]
    · have hfl := flat_len h.1.len
      have hge : M.length * z ≠ 0 := by
        have : 0 < M.length * z := Nat.mul_pos (by omega) hz
        omega
      rcases hc with ⟨rfl, rfl⟩ | ⟨h1, h2, h3⟩
      · refine ⟨.slice (some ⟨A.next, 0, none⟩) (L.length + M.length) UNK, (A.kill b).alloc (.row (L.flatten ++ M.flatten) e false), some A.next, ?_, ⟨hR, Or.inr ⟨A.next, UNK, [], rfl, by simp, ?_, Or.inl ⟨rfl, rfl⟩⟩⟩, fun k hk hkb => by rw [AH.get_alloc, if_neg (by simp; omega), AH.get_kill, if_neg (fun e => hkb (by rw [e]))], Or.inr rfl, by simp⟩
        · unfold appW
          simp only [hf, Option.bind_some, if_neg hm0]
          rw [if_neg (by rw [Classical.not_not]; exact ⟨hl, hl2, hy⟩)]
          simp only [if_true]
          rw [hb]
          simp only [List.append_nil]
          rw [if_pos ⟨trivial, hMf, hz⟩, if_neg (by rw [hfl, Nat.add_mul]; omega), if_pos (by rw [hfl]; omega)]
          rw [List.drop_zero, List.take_of_length_le (by rw [hfl]; omega)]
        · have := AH.get_new (A.kill b) (.row (L.flatten ++ M.flatten) e false)
          rw [AH.next_kill] at this
          rw [this, List.flatten_append, List.append_nil]
      · by_cases hle : L.length + M.length ≤ c'
        · have hap := appW_in (e := e) (y := y) (o := 0) hf hm0 hl hl2 hy h1 hle hb (by
            have : (L.length + M.length) * z ≤ c' * z := Nat.mul_le_mul_right _ hle
            rw [List.length_append]; omega) hMf
          rw [Nat.zero_add, spl_at' _ _ _ hfl.symm] at hap
          refine ⟨_, _, some b, hap, ⟨hR, Or.inr ⟨b, c', rest.drop M.flatten.length, rfl, by simp, by rw [AH.get_set, if_pos rfl, List.flatten_append, List.append_assoc], Or.inr ⟨h1, by simpa using hle, ?_⟩⟩⟩, fun k hk hkb => by rw [AH.get_set, if_neg (fun e => hkb (by rw [e]))], Or.inl rfl, by simp⟩
          have : (L.length + M.length) * z ≤ c' * z := Nat.mul_le_mul_right _ hle
          rw [List.length_drop, List.flatten_append, List.length_append]; omega
        · have hap := appW_out (e := e) (y := y) (b := b) (o := 0) hf hm0 hl hl2 hy h1 (by omega) (firstOf_row hb (by rw [List.length_append]; omega))
          rw [List.drop_zero, take_flat h.1 _ _ (Nat.le_refl _), List.take_length] at hap
          exact ⟨_, _, some A.next, hap, ⟨hR, Or.inr ⟨A.next, UNK, [], rfl, by simp, by rw [AH.get_new, List.flatten_append]; simp, Or.inl ⟨rfl, rfl⟩⟩⟩, fun k hk hkb => by rw [AH.get_alloc, if_neg (by omega)], Or.inr rfl, by simp⟩
end Go.AI
namespace Go.AI
theorem Tab.put_put {α : Type} (x y : Option α) : ∀ (fu : Nat) (t : Tab α) (n : Nat), n < fu → Tab.put fu (Tab.put fu t n x) n y = Tab.put fu t n y := by
  intro fu
  induction fu with
  | zero => intro t n h; omega
  | succ fu ih =>
    intro t n h
    cases t with
    | lf =>
      simp only [Tab.put]
      by_cases h0 : n = 0
      · simp [h0, Tab.put]
      · by_cases h1 : n % 2 = 1
        · simp only [if_neg h0, if_pos h1, Tab.put]; rw [ih _ _ (by omega)]
        · simp only [if_neg h0, if_neg h1, Tab.put]; rw [ih _ _ (by omega)]
    | nd v l r =>
      simp only [Tab.put]
      by_cases h0 : n = 0
      · simp [h0, Tab.put]
      · by_cases h1 : n % 2 = 1
        · simp only [if_neg h0, if_pos h1, Tab.put]; rw [ih _ _ (by omega)]
        · simp only [if_neg h0, if_neg h1, Tab.put]; rw [ih _ _ (by omega)]
@[simp ↓] theorem AH.alloc_set (A : AH) (x y : Blk) : (A.alloc x).set A.next y = A.alloc y := by
  simp only [AH.alloc, AH.set, AH.put, Tab.put_put _ _ _ _ _ (Nat.lt_succ_self _)]
@[simp ↓] theorem AH.set_set (A : AH) (b : Nat) (x y : Blk) : (A.set b x).set b y = A.set b y := by
  simp only [AH.set, AH.put, Tab.put_put _ _ _ _ _ (Nat.lt_succ_self _)]
end Go.AI
namespace Go.AI
open Go Go.RowKit
/-- One row, just made, is appended to a kept list. -/
theorem Lst.push {A : AH} {e : TypeId} {z y : Nat} {ob : Option Nat} {v : Value} {L : List (List Value)} {r : List Value} (h : Lst A e z ob v L) (hw : A.wf) (hr : r.length = z ∧ r.all oneB = true) (hz : 0 < z) (hy : y ≤ 1048576) (hl : L.length + 1 ≤ 1099511627776) (hl2 : (L.length + 1) * y ≤ 17592186044416) :
    ∃ v' A' ob', appW e z y v (.slice (some ⟨A.next, 0, none⟩) 1 1) (A.alloc (.row r e false)) = some (v', A') ∧ Lst A' e z ob' v' (L ++ [r]) ∧ (∀ k, k < A.next → ob ≠ some k → A'.get k = A.get k) ∧ (ob' = ob ∨ ob' = some (A.next + 1)) ∧ A.next + 1 ≤ A'.next := by
  have h' : Lst (A.alloc (.row r e false)) e z ob v L := h.kept fun b e => by have := h.lt hw e; rw [AH.get_alloc, if_neg (by omega)]
  obtain ⟨v', A', ob', p1, p2, p3, p4, p5⟩ := Lst.app (y := y) (c := 1) h' (Sl.row (Rw.one hr) (AH.get_new A _) (by simp)) hz hy hl hl2
  exact ⟨v', A', ob', p1, p2, fun k hk hkb => by rw [p3 k (by show k < A.next + 1; omega) hkb, AH.get_alloc, if_neg (by omega)], p4, p5⟩
end Go.AI
namespace Go.AI
open Go Go.RowKit
theorem at_cell {cs row : List Value} {p z i : Nat} (h : (cs.drop p).take z = row) (hi : i < z) : cs[p + i]? = row[i]? := by
  rw [← h, List.getElem?_take, if_pos hi, List.getElem?_drop]
theorem at_part {cs row : List Value} {p z i n : Nat} (h : (cs.drop p).take z = row) (hi : i + n ≤ z) : (cs.drop (p + i)).take n = (row.drop i).take n := by
  rw [← h, List.drop_take, List.take_take, List.drop_drop, Nat.min_eq_left (by omega)]
end Go.AI
namespace Go.AI
end Go.AI
namespace Go.AI
open Go
@[simp] theorem aConv_int (P : Program) (s d : TypeId) (j : IntKind) (n : Int) : aConv P s d (.int j n) = if (P.underlying s).isSome then (intKind P d).map fun k => .int k (k.wrap n) else none := (rfl)
end Go.AI
namespace Go.AI
open Go Go.RowKit
theorem Lst.slm {A : AH} {e : TypeId} {z : Nat} {ob : Option Nat} {v : Value} {α : Type} {f : α → List Value} {M : List α} (h : Lst A e z ob v (M.map f)) : ∃ a c, v = .slice a M.length c ∧ Sl A e z a (M.map f) := by
  obtain ⟨a, c, h1, h2, -⟩ := h.sl
  exact ⟨a, c, by rw [h1, List.length_map], h2⟩
end Go.AI
namespace Go.AI
open Go Go.RowKit
theorem at_head {cs row : List Value} {p z n : Nat} (h : (cs.drop p).take z = row) (hi : n ≤ z) : (cs.drop p).take n = row.take n := by
  rw [← h, List.take_take, Nat.min_eq_left hi]
end Go.AI
namespace Go.AI
@[simp] theorem ne_up2 (n : Nat) : (n = n + 1 + 1) = False := by apply eq_false; omega
@[simp] theorem ne_dn2 (n : Nat) : (n + 1 + 1 = n) = False := by apply eq_false; omega
@[simp] theorem ne_up3 (n : Nat) : (n = n + 1 + 1 + 1) = False := by apply eq_false; omega
@[simp] theorem ne_dn3 (n : Nat) : (n + 1 + 1 + 1 = n) = False := by apply eq_false; omega
@[simp] theorem ne_up4 (n : Nat) : (n = n + 1 + 1 + 1 + 1) = False := by apply eq_false; omega
@[simp] theorem ne_dn4 (n : Nat) : (n + 1 + 1 + 1 + 1 = n) = False := by apply eq_false; omega
@[simp] theorem ne_up5 (n : Nat) : (n = n + 1 + 1 + 1 + 1 + 1) = False := by apply eq_false; omega
@[simp] theorem ne_dn5 (n : Nat) : (n + 1 + 1 + 1 + 1 + 1 = n) = False := by apply eq_false; omega
@[simp] theorem ne_up6 (n : Nat) : (n = n + 1 + 1 + 1 + 1 + 1 + 1) = False := by apply eq_false; omega
@[simp] theorem ne_dn6 (n : Nat) : (n + 1 + 1 + 1 + 1 + 1 + 1 = n) = False := by apply eq_false; omega
@[simp] theorem ne_up7 (n : Nat) : (n = n + 1 + 1 + 1 + 1 + 1 + 1 + 1) = False := by apply eq_false; omega
@[simp] theorem ne_dn7 (n : Nat) : (n + 1 + 1 + 1 + 1 + 1 + 1 + 1 = n) = False := by apply eq_false; omega
@[simp] theorem ne_up8 (n : Nat) : (n = n + 1 + 1 + 1 + 1 + 1 + 1 + 1 + 1) = False := by apply eq_false; omega
@[simp] theorem ne_dn8 (n : Nat) : (n + 1 + 1 + 1 + 1 + 1 + 1 + 1 + 1 = n) = False := by apply eq_false; omega
@[simp] theorem ne_up9 (n : Nat) : (n = n + 1 + 1 + 1 + 1 + 1 + 1 + 1 + 1 + 1) = False := by apply eq_false; omega
@[simp] theorem ne_dn9 (n : Nat) : (n + 1 + 1 + 1 + 1 + 1 + 1 + 1 + 1 + 1 = n) = False := by apply eq_false; omega
@[simp] theorem ne_up10 (n : Nat) : (n = n + 1 + 1 + 1 + 1 + 1 + 1 + 1 + 1 + 1 + 1) = False := by apply eq_false; omega
@[simp] theorem ne_dn10 (n : Nat) : (n + 1 + 1 + 1 + 1 + 1 + 1 + 1 + 1 + 1 + 1 = n) = False := by apply eq_false; omega
@[simp] theorem ne_up11 (n : Nat) : (n = n + 1 + 1 + 1 + 1 + 1 + 1 + 1 + 1 + 1 + 1 + 1) = False := by apply eq_false; omega
@[simp] theorem ne_dn11 (n : Nat) : (n + 1 + 1 + 1 + 1 + 1 + 1 + 1 + 1 + 1 + 1 + 1 = n) = False := by apply eq_false; omega
@[simp] theorem ne_up12 (n : Nat) : (n = n + 1 + 1 + 1 + 1 + 1 + 1 + 1 + 1 + 1 + 1 + 1 + 1) = False := by apply eq_false; omega
@[simp] theorem ne_dn12 (n : Nat) : (n + 1 + 1 + 1 + 1 + 1 + 1 + 1 + 1 + 1 + 1 + 1 + 1 = n) = False := by apply eq_false; omega
end Go.AI
namespace Go.AI
open Go Go.RowKit
theorem AH.wf_kill {A : AH} (h : A.wf) (c : Nat) : (A.kill c).wf := fun b y hb => by
  rw [AH.get_kill] at hb
  split at hb
  · cases hb
  · exact h b y hb
theorem appW_wf {e z y : Nat} {s x v : Value} {A A' : AH} (h : appW e z y s x A = some (v, A')) (hw : A.wf) : A'.wf := by
  unfold appW at h
  split at h
  · obtain ⟨new, _, h⟩ := Option.bind_eq_some_iff.1 h
    split at h
    · split at h
      · injection h with h; injection h with _ h; subst h; exact hw
      · cases h
    · split at h
      · cases h
      · split at h
        · split at h
          · injection h with h; injection h with _ h; subst h; exact AH.wf_alloc hw _
          · cases h
        · rename_i b o
          split at h
          · split at h
            · rename_i cs E hb
              split at h
              · split at h
                · injection h with h; injection h with _ h; subst h; exact AH.wf_set hw (hw _ _ hb) _
                · split at h
                  · injection h with h; injection h with _ h; subst h; exact AH.wf_alloc (AH.wf_kill hw _) _
                  · cases h
              · cases h
            · cases h
          · split at h
            · split at h
              · rename_i cs E hb
                split at h
                · injection h with h; injection h with _ h; subst h; exact AH.wf_set hw (hw _ _ hb) _
                · cases h
              · cases h
            · obtain ⟨old, _, h⟩ := Option.bind_eq_some_iff.1 h
              injection h with h; injection h with _ h; subst h; exact AH.wf_alloc hw _
        · cases h
  · cases h
end Go.AI
/- AI7: any world, and what is read of it as data, as a heap of blocks that nothing writes. -/
namespace Go.AI
open Go Go.RowKit Go.ChangeShapes Go.WideShapes Go.Deep
set_option linter.unusedVariables false
variable {P : Program}
/-- Each block of cells bears its own number. -/
def mapW (P : Program) (W : World) : Mp := fun b => match W.heap[b]? with | some (.cells cur e _) => some ⟨b, 0, cur.size, (szOf P e).getD 0⟩ | _ => none
theorem mapW_cells {W : World} {b : Nat} {cur : Array Value} {e : TypeId} {fr : Nat × Nat} (h : W.heap[b]? = some (.cells cur e fr)) : mapW P W b = some ⟨b, 0, cur.size, (szOf P e).getD 0⟩ := by
  simp only [mapW, h]
def keepB (m : Mp) : Value → Bool
  | .bool _ | .int _ _ | .float _ _ | .string _ | .pointer none | .nilFunc | .nilIface | .map none => true
  | .pointer (some ⟨b, _, none⟩) => (m b).isSome
  | .slice none _ c => decide (c ≠ UNK)
  | .slice (some ⟨b, _, none⟩) _ c => (m b).isSome && decide (c ≠ UNK)
  | _ => false
/-- A cell of a world, as it is spoken of. -/
noncomputable def absC (m : Mp) (b0 : Nat) (v : Value) : Value := if keepB m v = true then v else match v with | .slice (some _) 0 0 => .slice (some ⟨b0, 0, none⟩) 0 0 | v => Classical.choose (junk_ex m v)
theorem absC_keep {m : Mp} {b0 : Nat} {v : Value} (h : keepB m v = true) : absC m b0 v = v := by unfold absC; rw [if_pos h]
theorem absC_rel {W : World} {b0 : Nat} {v : Value} (h : ∀ a, v = .slice (some a) 0 0 → keepB (mapW P W) v = true ∨ (mapW P W b0).isSome = true) : VRel (mapW P W) (absC (mapW P W) b0 v) v := by
  unfold absC
  split
  · rename_i hk
    have base0 : ∀ b p, mapW P W b = some p → p.b = b ∧ p.base = 0 := by
      intro b p hp
      unfold mapW at hp
      split at hp
      · injection hp with hp; rw [← hp]; exact ⟨rfl, rfl⟩
      · cases hp
    unfold keepB at hk
    split at hk
    · exact .bool _
    · exact .int _ _
    · exact .float _ _
    · exact .string _
    · exact .pnil
    · exact .nilFunc
    · exact .nilIface
    · exact .mnil
    · rename_i b o
      obtain ⟨p, hp⟩ := Option.isSome_iff_exists.1 hk
      have := VRel.ptr b o p hp
      rw [(base0 b p hp).1, (base0 b p hp).2, Nat.zero_add] at this; exact this
    · exact .snil _ _ (of_decide_eq_true hk)
    · rename_i b o n c
      rw [Bool.and_eq_true] at hk
      obtain ⟨p, hp⟩ := Option.isSome_iff_exists.1 hk.1
      have := VRel.slice b o n c p hp (of_decide_eq_true hk.2)
      rw [(base0 b p hp).1, (base0 b p hp).2, Nat.zero_add] at this; exact this
    · cases hk
  · rename_i hk
    split
    · rename_i a
      rcases h a rfl with h | h
      · exact absurd h hk
      · obtain ⟨p, hp⟩ := Option.isSome_iff_exists.1 h
        exact .slice0 b0 0 a p hp
    · exact Classical.choose_spec (junk_ex (mapW P W) v)
noncomputable def blkW (P : Program) (W : World) (b : Nat) : Option Blk := match W.heap[b]? with | some (.cells cur e _) => some (.row (cur.toList.map (absC (mapW P W) b)) e true) | _ => none
noncomputable def absH (P : Program) (W : World) : Nat → AH
  | 0 => ⟨0, .lf⟩
  | n + 1 => match blkW P W n with | some x => (absH P W n).alloc x | none => ⟨(absH P W n).next + 1, (absH P W n).tab⟩
theorem absH_next (W : World) : ∀ n, (absH P W n).next = n
  | 0 => rfl
  | n + 1 => by
    unfold absH
    split
    · show (absH P W n).next + 1 = n + 1; rw [absH_next W n]
    · show (absH P W n).next + 1 = n + 1; rw [absH_next W n]
theorem absH_get (W : World) : ∀ n b, (absH P W n).get b = if b < n then blkW P W b else none
  | 0, b => by simp [absH, AH.get, Tab.get]
  | n + 1, b => by
    have ih := absH_get W n b
    unfold absH
    split
    · rename_i x hx
      rw [AH.get_alloc, absH_next, ih]
      by_cases e : b = n
      · subst e; simp [hx]
      · rw [if_neg e]
        by_cases h : b < n
        · rw [if_pos h, if_pos (by omega)]
        · rw [if_neg h, if_neg (by omega)]
    · rename_i hx
      show (absH P W n).get b = _
      rw [ih]
      by_cases e : b = n
      · subst e; simp [hx]
      · by_cases h : b < n
        · rw [if_pos h, if_pos (by omega)]
        · rw [if_neg h, if_neg (by omega)]
/-- The heap of a world. -/
noncomputable def heapW (P : Program) (W : World) : AH := absH P W W.heap.size
theorem heapW_next (W : World) : (heapW P W).next = W.heap.size := absH_next W _
theorem heapW_get (W : World) (b : Nat) : (heapW P W).get b = blkW P W b := by
  unfold heapW
  rw [absH_get]
  split
  · rfl
  · rename_i h
    unfold blkW
    rw [Array.getElem?_eq_none (by omega)]
theorem heapW_cells {W : World} {b : Nat} {cur : Array Value} {e : TypeId} {fr : Nat × Nat} (h : W.heap[b]? = some (.cells cur e fr)) : (heapW P W).get b = some (.row (cur.toList.map (absC (mapW P W) b)) e true) := by
  rw [heapW_get]; unfold blkW; rw [h]
theorem heapW_inv {W : World} {b : Nat} {x : Blk} (h : (heapW P W).get b = some x) : ∃ cur e fr, W.heap[b]? = some (.cells cur e fr) ∧ x = .row (cur.toList.map (absC (mapW P W) b)) e true := by
  rw [heapW_get] at h
  unfold blkW at h
  split at h
  · rename_i cur e fr hb
    injection h with h
    exact ⟨cur, e, fr, hb, h.symm⟩
  · cases h
theorem heapW_ro {W : World} : ∀ b x, (heapW P W).get b = some x → x.ro = true := by
  intro b x h
  obtain ⟨cur, e, fr, _, rfl⟩ := heapW_inv h
  rfl
theorem heapW_rel (W : World) : Rel P (mapW P W) (heapW P W) W := by
  refine ⟨fun b x h => ?_, fun b c p q x y h1 h2 h3 => ?_, fun b hb => ?_, fun b p hp => ?_⟩
  · obtain ⟨cur, e, fr, hb, rfl⟩ := heapW_inv h
    have hm := mapW_cells (P := P) hb
    refine ⟨_, cur, fr, hm, hb, rfl, fun n hn => (by rw [hn]; rfl), fun h => (by cases h), by simp, ?_⟩
    refine ⟨by simp, ?_⟩
    · intro i v v' h1 h2
      rw [List.getElem?_map] at h1
      simp only [List.length_map] at h2
      rw [List.drop_zero, List.getElem?_take] at h2
      split at h2
      · rw [h2] at h1
        simp only [Option.map_some, Option.some.injEq] at h1
        subst h1
        exact absC_rel fun a _ => Or.inr (by rw [hm]; rfl)
      · cases h2
  · rw [heapW_ro b x h1, heapW_ro c y h2] at h3
    rcases h3 with h3 | h3 <;> cases h3
  · rw [heapW_next] at hb
    have : W.heap[b]? = none := Array.getElem?_eq_none hb
    exact ⟨by rw [heapW_get]; unfold blkW; rw [this], by unfold mapW; rw [this]⟩
  · unfold mapW at hp
    split at hp
    · rename_i cur e fr hb
      injection hp with hp; rw [← hp]
      exact (Array.getElem?_eq_some_iff.1 hb).1
    · cases hp
/-- What is read of it as data of a type. -/
def Rd (P : Program) (A : AH) : Nat → TypeId → List Value → Prop
  | 0, _, _ => False
  | n + 1, t, cs =>
    match P.underlying t with
    | some .bool => ∃ b, cs = [.bool b]
    | some (.int k) => ∃ i, cs = [.int k i] ∧ (Lit.int k i).wf = true
    | some .string => ∃ s : ByteArray, cs = [.string s] ∧ s.size ≤ reachBytes
    | some (.struct fs) => cs.length = P.cellsOf t ∧ ∀ f ∈ fs.toList, Rd P A n f.type ((cs.drop f.offset).take (P.cellsOf f.type))
    | some (.array k e) => cs.length = P.cellsOf t ∧ ∀ i, i < k → Rd P A n e ((cs.drop (i * P.cellsOf e)).take (P.cellsOf e))
    | some (.slice e) => P.cellsOf e = 0 ∨ cs = [.slice none 0 0] ∨ ∃ b o len cap, cs = [.slice (some ⟨b, o, none⟩) len cap] ∧ len ≤ cap ∧ cap < UNK ∧ len * P.bytesOf e ≤ reachBytes ∧
        (0 < len → ∃ X E ro, A.get b = some (.row X E ro) ∧ o + len * P.cellsOf e ≤ X.length ∧ ∀ i, i < len → Rd P A n e ((X.drop (o + i * P.cellsOf e)).take (P.cellsOf e)))
    | _ => True
section
variable {H : Type} {enc : TypeId × Value → H} {W : World}
theorem cells_in {a : Addr} {z : Nat} {cs : List Value} (h : W.cells? 0 a z = some cs) (hz : 0 < z) : ∃ cur e fr, a.spot = none ∧ W.heap[a.block]? = some (.cells cur e fr) ∧ a.off + z ≤ cur.size ∧ cs = (cur.toList.drop a.off).take z := by
  obtain ⟨_, hl, hc⟩ := World.cells?_some h
  have one : ∀ (a : Addr) v, W.cell? a = some v → ∃ cur e fr, a.spot = none ∧ W.heap[a.block]? = some (.cells cur e fr) ∧ cur[a.off]? = some v := by
    intro a v h1
    unfold World.cell? at h1
    split at h1
    · rename_i cur e fr hb
      split at h1
      · cases h1
      · rename_i hs
        exact ⟨cur, e, fr, by simpa using hs, hb, h1⟩
    · cases h1
  have hsp : a.spot = none := by
    have h1 := hc 0 hz
    rw [List.getElem?_eq_getElem (by omega)] at h1
    obtain ⟨_, _, _, h2, _⟩ := one _ _ h1
    simpa [Addr.add] using h2
  have key : ∀ i, i < z → ∃ cur e fr v, a.spot = none ∧ W.heap[a.block]? = some (.cells cur e fr) ∧ cur[a.off + i]? = some v ∧ cs[i]? = some v := by
    intro i hi
    have h1 := hc i hi
    rw [List.getElem?_eq_getElem (by omega), add_spot i hsp] at h1
    obtain ⟨cur, e, fr, _, h2, h3⟩ := one _ _ h1
    exact ⟨cur, e, fr, _, hsp, h2, h3, by rw [List.getElem?_eq_getElem (by omega)]⟩
  obtain ⟨cur, e, fr, _, h1, h2, h3, _⟩ := key (z - 1) (by omega)
  have h4 := (Array.getElem?_eq_some_iff.1 h3).1
  refine ⟨cur, e, fr, h1, h2, by omega, ?_⟩
  apply List.ext_getElem?
  intro i
  by_cases hi : i < z
  · obtain ⟨cur', e', fr', v, _, g2, g3, g4⟩ := key i hi
    rw [h2] at g2; injection g2 with g2; injection g2 with g2 _ _; subst g2
    rw [g4, List.getElem?_take, if_pos hi, List.getElem?_drop, ← g3]; simp
  · rw [List.getElem?_eq_none (by omega), List.getElem?_eq_none (by simp; omega)]
theorem weights_all {e : TypeId} : ∀ {l : List (DataW H)} {d : DataW H}, d ∈ l → ∀ n ∈ d.weights P e, n ∈ DataW.weightsAll P e l
  | d0 :: l, d, h, n, hn => by
    simp only [DataW.weightsAll, List.mem_append]
    rcases List.mem_cons.1 h with rfl | h
    · exact Or.inl hn
    · exact Or.inr (weights_all h n hn)
theorem trod_rd : ∀ (fuel : Nat) (t : TypeId) (cs : List Value) (x : DataW H × List MemPlace) (b0 : Nat), DataW.trod enc P W 0 (fun _ => true) true fuel t cs = some x → (∀ k ∈ x.1.weights P t, k ≤ reachBytes) →
    (∀ v ∈ cs, ∀ a, v = .slice (some a) 0 0 → keepB (mapW P W) v = true ∨ (mapW P W b0).isSome = true) → Rd P (heapW P W) fuel t (cs.map (absC (mapW P W) b0)) := by
  intro fuel
  induction fuel with
  | zero => intro t cs x b0 h; simp [DataW.trod] at h
  | succ n ih =>
    intro t cs x b0 h hz hw
    unfold Rd
    split
    · rename_i ht
      obtain ⟨b, rfl, _⟩ := DataW.trod_bool ht h
      exact ⟨b, by simp [absC_keep (m := mapW P W) (b0 := b0) (v := .bool b) rfl]⟩
    · rename_i k ht
      obtain ⟨i, rfl, _, hwf⟩ := DataW.trod_int ht h
      exact ⟨i, by simp [absC_keep (m := mapW P W) (b0 := b0) (v := .int k i) rfl], hwf⟩
    · rename_i ht
      obtain ⟨s, rfl, rfl, hs⟩ := DataW.trod_string ht h
      exact ⟨s, by simp [absC_keep (m := mapW P W) (b0 := b0) (v := .string s) rfl], by have := hz s.data.toList.length (by simp [DataW.weights]); simpa using this⟩
    · rename_i fs ht
      obtain ⟨xs, n', e, rfl, hl, hlx, hf⟩ := DataW.trod_struct ht h
      obtain rfl : n = n' := by omega
      refine ⟨by simpa using hl, fun f hfm => ?_⟩
      obtain ⟨j, hj, rfl⟩ := List.getElem_of_mem hfm
      have hj' : j < fs.size := by simpa using hj
      have h1 := hf j fs[j] (by simp [hj'])
      rw [List.getElem?_eq_getElem (by omega)] at h1
      rw [← List.map_drop, ← List.map_take]
      simp only [Array.getElem_toList] at h1 ⊢
      refine ih _ _ _ b0 h1 (fun k hk => hz k ?_) fun v hv => hw v (List.mem_of_mem_drop (List.mem_of_mem_take hv))
      simp only [DataW.weights, ht]
      exact DataW.weights_mem_each (j := j) (t := fs[j].type) (d := xs[j].1) (by simp [hj']) (by simp [hlx, hj']) k hk
    · rename_i k e ht
      obtain ⟨xs, n', e0, rfl, hl, hlx, hf⟩ := DataW.trod_array ht h
      obtain rfl : n = n' := by omega
      refine ⟨by simpa using hl, fun i hi => ?_⟩
      have h1 := hf i hi
      rw [List.getElem?_eq_getElem (by omega)] at h1
      rw [← List.map_drop, ← List.map_take]
      refine ih _ _ _ b0 h1 (fun q hq => hz q ?_) fun v hv => hw v (List.mem_of_mem_drop (List.mem_of_mem_take hv))
      simp only [DataW.weights, ht]
      exact weights_all (d := (xs[i]).1) (List.mem_map_of_mem (List.getElem_mem _)) q hq
    · rename_i e ht
      obtain ⟨d, q⟩ := x
      rcases DataW.trod_slice ht h with ⟨rfl, _⟩ | ⟨a, len, cap, elems, rest, n', e0, rfl, hx, hb, hlc, hcm, hel, he1, he2, _⟩
      · exact Or.inr (Or.inl (by simp [absC_keep (m := mapW P W) (b0 := b0) (v := .slice none 0 0) (by simp [keepB, UNK])]))
      obtain rfl : n = n' := by omega
      injection hx with hd hq
      subst hd
      obtain ⟨hr1, hr2⟩ := he2 rfl
      rcases Nat.eq_zero_or_pos (P.cellsOf e) with hz0 | hzp
      · exact Or.inl hz0
      refine Or.inr (Or.inr ?_)
      have hmax : maxLen < UNK := by decide
      have hby : len * P.bytesOf e ≤ reachBytes := by
        have := hz ((elems.length + rest.length) * P.bytesOf e) (by simp [DataW.weights, ht])
        have h2 : len * P.bytesOf e ≤ (elems.length + rest.length) * P.bytesOf e := Nat.mul_le_mul_right _ (by omega)
        omega
      rcases Nat.eq_zero_or_pos cap with hc0 | hcp
      · subst hc0
        obtain rfl : len = 0 := by omega
        by_cases hk : keepB (mapW P W) (.slice (some a) 0 0) = true
        · rw [List.map_singleton, absC_keep hk]
          obtain ⟨b, o, sp⟩ := a
          cases sp with
          | some k => simp [keepB] at hk
          | none => exact ⟨b, o, 0, 0, rfl, Nat.le_refl _, by decide, hby, fun h => absurd h (Nat.lt_irrefl _)⟩
        · refine ⟨b0, 0, 0, 0, ?_, Nat.le_refl _, by decide, hby, fun h => absurd h (Nat.lt_irrefl _)⟩
          rw [List.map_singleton]; unfold absC; rw [if_neg hk]; rfl
      · have first : ∃ cs', W.cells? 0 a (P.cellsOf e) = some cs' := by
          have e00 : a.add (0 * P.cellsOf e) = a := by simp [Addr.add]
          rcases Nat.eq_zero_or_pos len with hl0 | hlp
          · have := hr2 0 (by omega)
            rw [List.getElem?_eq_getElem (by omega)] at this
            obtain ⟨cs', h1, _⟩ := Option.bind_eq_some_iff.1 this
            rw [hl0, Nat.add_zero, e00] at h1
            exact ⟨cs', h1⟩
          · have := he1 0 hlp
            rw [List.getElem?_eq_getElem (by omega)] at this
            obtain ⟨cs', h1, _⟩ := Option.bind_eq_some_iff.1 this
            rw [e00] at h1
            exact ⟨cs', h1⟩
        obtain ⟨cs', hcs⟩ := first
        obtain ⟨cur, E, fr, hsp, hhp, _, _⟩ := cells_in hcs hzp
        obtain ⟨b, o, sp⟩ := a
        simp only at hsp hhp
        subst hsp
        have hm := mapW_cells (P := P) hhp
        have hk : keepB (mapW P W) (.slice (some ⟨b, o, none⟩) len cap) = true := by simp only [keepB, hm]; simp; omega
        rw [List.map_singleton, absC_keep hk]
        refine ⟨b, o, len, cap, rfl, hlc, by omega, hby, fun hlp => ⟨_, E, true, heapW_cells hhp, ?_, fun i hi => ?_⟩⟩
        · have := he1 (len - 1) (by omega)
          rw [List.getElem?_eq_getElem (by omega)] at this
          obtain ⟨cs2, h1, _⟩ := Option.bind_eq_some_iff.1 this
          rw [add_spot _ rfl] at h1
          obtain ⟨cur2, _, _, _, g2, g3, _⟩ := cells_in h1 hzp
          simp only at g2 g3
          rw [hhp] at g2; injection g2 with g2; injection g2 with g2 _ _; subst g2
          have : len * P.cellsOf e = (len - 1) * P.cellsOf e + P.cellsOf e := by rw [← Nat.succ_mul]; congr 1; omega
          simp; omega
        · have := he1 i hi
          rw [List.getElem?_eq_getElem (by omega)] at this
          obtain ⟨cs2, h1, h2⟩ := Option.bind_eq_some_iff.1 this
          rw [add_spot _ rfl] at h1
          obtain ⟨cur2, _, _, _, g2, g3, g4⟩ := cells_in h1 hzp
          simp only at g2 g3 g4
          rw [hhp] at g2; injection g2 with g2; injection g2 with g2 _ _; subst g2
          rw [← List.map_drop, ← List.map_take, ← g4]
          refine ih _ _ _ b h2 (fun k hk => hz k ?_) fun v hv a _ => Or.inr (by rw [hm]; rfl)
          simp only [DataW.weights, ht, List.mem_cons, List.mem_append]
          exact Or.inr (Or.inl (weights_all (d := (elems[i]).1) (List.mem_map_of_mem (List.getElem_mem _)) k hk))
    · trivial
/-- An argument, as it is spoken of. -/
noncomputable def absA (m : Mp) (v : Value) : Value := match v with | .agg cs => .agg (cs.map (absC m 0)) | v => absC m 0 v
theorem cell_keep {r : Reach} {base : Nat} {u : TypeId} {a : Addr} {n c : Nat} (h : Cell.okWide P W r base u (.slice (some a) n c)) : keepB (mapW P W) (.slice (some a) n c) = true := by
  unfold Cell.okWide at h
  have key : Cell.ok P W r base u (.slice (some a) n c) → keepB (mapW P W) (.slice (some a) n c) = true := by
    intro h
    unfold Cell.ok at h
    split at h
    all_goals (try contradiction)
    all_goals rename_i e1 e2
    all_goals (try (cases e2; done))
    injection e2 with e2 e3 e4
    injection e2 with e2
    subst e2; subst e3; subst e4
    obtain ⟨h1, h2, h3⟩ := h
    obtain ⟨_, h4, row, cells, h5, _⟩ := h3
    obtain ⟨b, o, sp⟩ := a
    simp only at h4 h5
    subst h4
    unfold World.shape? at h5
    split at h5
    · rename_i cur E fr hb
      have hmx : IntKind.i64.max = 9223372036854775807 := rfl
      rw [hmx] at h2
      have hcU : c ≠ UNK := by unfold UNK; omega
      simp only [keepB, mapW_cells (P := P) hb]
      simp [hcU]
    · cases h5
  split at h
  all_goals first | exact key h | (rename_i e; cases e) | (rename_i _ e; cases e) | skip
theorem arg_ok {r : Reach} {base : Nat} {t : TypeId} {v : Value} {d : DataW H} {p : List MemPlace} (hv : Value.okWide P W r base t v) (h : DataW.Trod enc P W 0 (fun _ => true) true t v d p) (hz : ∀ k ∈ d.weights P t, k ≤ reachBytes) :
    VRel (mapW P W) (absA (mapW P W) v) v ∧ ∃ n, Rd P (heapW P W) n t (absA (mapW P W) v).cells.toList := by
  obtain ⟨n, hn⟩ := h
  have single : Cell.okWide P W r base t v → v.cells = #[v] → (∀ cs, v ≠ .agg cs) → VRel (mapW P W) (absA (mapW P W) v) v ∧ ∃ n, Rd P (heapW P W) n t (absA (mapW P W) v).cells.toList := by
    intro h1 h2 h3
    have hw : ∀ a, v = .slice (some a) 0 0 → keepB (mapW P W) v = true := fun a e => by subst e; exact cell_keep h1
    have e1 : absA (mapW P W) v = absC (mapW P W) 0 v := by
      unfold absA
      split
      · rename_i cs; exact absurd rfl (h3 cs)
      · rfl
    rw [e1]
    have hr := absC_rel (P := P) (W := W) (b0 := 0) (v := v) fun a e => Or.inl (hw a e)
    refine ⟨hr, n, ?_⟩
    rw [h2] at hn
    have := trod_rd n t [v] (d, p) 0 hn hz fun u hu a e => by rw [List.mem_singleton.1 hu] at e ⊢; exact Or.inl (hw a e)
    have e2 : (absC (mapW P W) 0 v).cells = #[absC (mapW P W) 0 v] := by
      clear this e1 hw
      generalize absC (mapW P W) 0 v = u at hr
      cases hr <;> first | rfl | (exact absurd rfl (h3 _)) | (simp [Value.cells] at h2)
    rw [e2]; exact this
  have whole : (∃ cs : Array Value, v = .agg cs ∧ cs.size = P.cellsOf t ∧ Row.okWide P W r base t cs) → VRel (mapW P W) (absA (mapW P W) v) v ∧ ∃ n, Rd P (heapW P W) n t (absA (mapW P W) v).cells.toList := by
    rintro ⟨cs, rfl, hl, ts, _, _, hc⟩
    have hw : ∀ u ∈ cs.toList, ∀ a, u = .slice (some a) 0 0 → keepB (mapW P W) u = true := by
      intro u hu a e
      obtain ⟨i, hi, rfl⟩ := List.getElem_of_mem hu
      obtain ⟨q, _, hq⟩ := hc i cs.toList[i] (by simp at hi ⊢)
      rw [e] at hq ⊢
      exact cell_keep hq
    constructor
    · refine .agg _ _ (by simp) fun i v v' h1 h2 => ?_
      rw [Array.getElem?_map, h2] at h1
      simp only [Option.map_some, Option.some.injEq] at h1
      subst h1
      exact absC_rel fun a e => Or.inl (hw v' (Array.mem_toList_iff.2 (Array.mem_of_getElem? h2)) a e)
    · refine ⟨n, ?_⟩
      have hn' : DataW.trod enc P W 0 (fun _ => true) true n t cs.toList = some (d, p) := by simpa [Value.cells] using hn
      have := trod_rd n t cs.toList (d, p) 0 hn' hz fun u hu a e => Or.inl (hw u hu a e)
      simpa [absA, Value.cells] using this
  unfold Value.okWide at hv
  split at hv
  · exact whole hv
  · exact whole hv
  · rename_i hs ha
    have hna : ∀ cs, v ≠ .agg cs := by
      rintro cs rfl
      unfold Cell.okWide at hv
      split at hv
      all_goals first | (rename_i e1 e2; cases e2; done) | skip
      unfold Cell.ok at hv
      split at hv <;> first | (rename_i e1 e2; cases e2; done) | exact hv
    refine single hv ?_ hna
    cases v <;> first | rfl | exact absurd rfl (hna _) | skip
end
end Go.AI
namespace Go.AI
open Go Go.RowKit
variable {P : Program}
section
variable {A : AH} {n : Nat} {t : TypeId} {cs : List Value}
theorem Rd_bool (ht : P.underlying t = some .bool) (h : Rd P A n t cs) : ∃ b, cs = [.bool b] := by
  cases n with
  | zero => exact h.elim
  | succ n => unfold Rd at h; rw [ht] at h; exact h
theorem Rd_int {k : IntKind} (ht : P.underlying t = some (.int k)) (h : Rd P A n t cs) : ∃ i, cs = [.int k i] ∧ (Lit.int k i).wf = true := by
  cases n with
  | zero => exact h.elim
  | succ n => unfold Rd at h; rw [ht] at h; exact h
/-- A struct's cells, part by part. -/
def RdS (P : Program) (A : AH) (n : Nat) : List Field → List Value → Prop
  | [], cs => cs = []
  | f :: fs, cs => ∃ p q, cs = p ++ q ∧ Rd P A n f.type p ∧ RdS P A n fs q
def contig (P : Program) : Nat → List Field → Nat → Bool
  | k, [], n => k == n
  | k, f :: fs, n => f.offset == k && contig P (k + P.cellsOf f.type) fs n
theorem RdS_of {N : Nat} {cs : List Value} : ∀ (fs : List Field) (k : Nat), contig P k fs cs.length = true → (∀ f ∈ fs, Rd P A N f.type ((cs.drop f.offset).take (P.cellsOf f.type))) → RdS P A N fs (cs.drop k)
  | [], k, h, _ => by
    simp only [contig, beq_iff_eq] at h
    simp only [RdS, h, List.drop_length]
  | f :: fs, k, h, hf => by
    simp only [contig, Bool.and_eq_true, beq_iff_eq] at h
    obtain ⟨h1, h2⟩ := h
    refine ⟨_, _, ?_, hf f List.mem_cons_self, RdS_of fs _ h2 fun g hg => hf g (List.mem_cons_of_mem _ hg)⟩
    rw [h1, ← List.drop_drop, List.take_append_drop]
theorem Rd_struct {fs : Array Field} (ht : P.underlying t = some (.struct fs)) (hc : contig P 0 fs.toList (P.cellsOf t) = true) (h : Rd P A n t cs) : ∃ n', RdS P A n' fs.toList cs := by
  cases n with
  | zero => exact h.elim
  | succ n =>
    unfold Rd at h
    rw [ht] at h
    obtain ⟨h1, h2⟩ := h
    exact ⟨n, by simpa using RdS_of (cs := cs) fs.toList 0 (by rw [h1]; exact hc) h2⟩
theorem pick_list {α : Type} {Q : Nat → α → Prop} : ∀ {len : Nat}, (∀ i, i < len → ∃ x, Q i x) → ∃ L : List α, L.length = len ∧ ∀ i (h : i < L.length), Q i L[i]
  | 0, _ => ⟨[], rfl, fun i h => by simp at h⟩
  | len + 1, h => by
    obtain ⟨L, h1, h2⟩ := pick_list (len := len) fun i hi => h i (by omega)
    obtain ⟨x, hx⟩ := h len (by omega)
    refine ⟨L ++ [x], by simp [h1], fun i hi => ?_⟩
    by_cases e : i < L.length
    · rw [List.getElem_append_left e]; exact h2 i e
    · have : i = L.length := by simp at hi; omega
      subst this
      simp [h1, hx]
theorem flat_rows {α : Type} {X : List α} {z : Nat} : ∀ {rows : List (List α)} {o : Nat}, (∀ i (h : i < rows.length), (X.drop (o + i * z)).take z = rows[i]) → (X.drop o).take (rows.length * z) = rows.flatten
  | [], o, _ => by simp
  | r :: rows, o, h => by
    have h0 := h 0 (by simp)
    simp only [Nat.zero_mul, Nat.add_zero, List.getElem_cons_zero] at h0
    have ih := flat_rows (rows := rows) (o := o + z) fun i hi => by
      have := h (i + 1) (by simp; omega)
      rw [List.getElem_cons_succ] at this
      rw [← this]; congr 2; rw [Nat.succ_mul]; omega
    rw [List.flatten_cons, ← ih, ← h0, List.length_cons, Nat.succ_mul, Nat.add_comm (rows.length * z) z, List.take_add, List.drop_drop]
/-- A slice's rows. -/
theorem Rd_slice {α : Type} {e : TypeId} {z : Nat} {f : α → List Value} {Q : α → Prop} (ht : P.underlying t = some (.slice e)) (hz : P.cellsOf e = z) (hzp : 0 < z) (hf : ∀ x, (f x).length = z ∧ (f x).all oneB = true)
    (hd : ∀ n cs, Rd P A n e cs → ∃ x, cs = f x ∧ Q x) (h : Rd P A n t cs) : ∃ (a : Option Addr) (c : Nat) (L : List α), cs = [.slice a L.length c] ∧ Sl A e z a (L.map f) ∧ CapOk A e a L.length c ∧ L.length * P.bytesOf e ≤ reachBytes ∧ ∀ x ∈ L, Q x := by
  cases n with
  | zero => exact h.elim
  | succ n =>
    unfold Rd at h
    rw [ht] at h
    simp only [hz] at h
    rcases h with h | rfl | ⟨b, o, len, cap, rfl, h1, h2, h3, h4⟩
    · omega
    · exact ⟨none, 0, [], rfl, Sl.nil Pla.no A e z, Or.inl ⟨Nat.le_refl _, by unfold UNK; omega⟩, by simp, fun x h => by simp at h⟩
    · rcases Nat.eq_zero_or_pos len with rfl | hl
      · exact ⟨some ⟨b, o, none⟩, cap, [], rfl, Sl.nil (Pla.yes _ _) A e z, Or.inl ⟨Nat.zero_le _, h2⟩, by simp, fun x h => by simp at h⟩
      · obtain ⟨X, E, ro, g1, g2, g3⟩ := h4 hl
        obtain ⟨L, hL, hQ⟩ := pick_list (Q := fun i x => (X.drop (o + i * z)).take z = f x ∧ Q x) fun i hi => hd n _ (g3 i hi)
        have hrows : (X.drop o).take ((L.map f).length * z) = (L.map f).flatten := flat_rows fun i hi => by
          have hi' : i < L.length := by simpa using hi
          rw [(hQ i hi').1]; simp
        refine ⟨some ⟨b, o, none⟩, cap, L, by rw [hL], ⟨Rw.map hf L, Pla.yes _ _, fun _ => ⟨b, o, X, (E, ro), rfl, g1, by simp [hL, g2], hrows⟩⟩, Or.inl ⟨by omega, h2⟩, by rw [hL]; exact h3, fun x hx => ?_⟩
        obtain ⟨i, hi, rfl⟩ := List.getElem_of_mem hx
        exact (hQ i hi).2
end
end Go.AI
namespace Go.AI
open Go Go.RowKit
variable {P : Program}
section
variable {H : Type} {enc : TypeId × Value → H} {W : World}
theorem arg_agg {r : Reach} {base : Nat} {t : TypeId} {v : Value} {d : DataW H} {p : List MemPlace} (ht : aggOf P t = some true) (hv : Value.okWide P W r base t v) (h : DataW.Trod enc P W 0 (fun _ => true) true t v d p) (hz : ∀ k ∈ d.weights P t, k ≤ reachBytes) :
    VRel (mapW P W) (absA (mapW P W) v) v ∧ ∃ n cs, absA (mapW P W) v = .agg cs ∧ Rd P (heapW P W) n t cs.toList := by
  obtain ⟨h1, n, h2⟩ := arg_ok hv h hz
  unfold aggOf at ht
  have hag : ∃ cs, v = .agg cs := by
    unfold Value.okWide at hv
    split at hv
    · exact ⟨_, hv.choose_spec.1⟩
    · exact ⟨_, hv.choose_spec.1⟩
    · rename_i q1 q2
      cases hu : P.underlying t with
      | none => rw [hu] at ht; cases ht
      | some u =>
        rw [hu] at ht
        cases u <;> first | exact (q1 _ hu).elim | exact (q2 _ _ hu).elim | (simp at ht)
  obtain ⟨cs, rfl⟩ := hag
  exact ⟨h1, n, _, rfl, by simpa [absA, Value.cells] using h2⟩
end
end Go.AI
/- AI9: lists that are kept and shortened. -/
namespace Go.AI
open Go Go.RowKit
set_option linter.unusedVariables false
variable {P : Program}
/-- A list that is kept, whose rows behind its end may still lie there. -/
def Lq (A : AH) (e : TypeId) (z : Nat) (ob : Option Nat) (v : Value) (L : List (List Value)) : Prop :=
  Rw z L ∧ ((ob = none ∧ v = .slice none 0 0 ∧ L = []) ∨ ∃ b c rest, ob = some b ∧ v = .slice (some ⟨b, 0, none⟩) L.length c ∧ A.get b = some (.row (L.flatten ++ rest) e false) ∧ ((c = UNK ∧ ∃ k, rest.length = k * z) ∨ (c < UNK ∧ L.length ≤ c ∧ c * z = L.flatten.length + rest.length)))
section
variable {A : AH} {e : TypeId} {z y : Nat} {ob : Option Nat} {v : Value} {L : List (List Value)} {r : List Value}
theorem Lq.nil (A : AH) (e : TypeId) (z : Nat) : Lq A e z none (.slice none 0 0) [] := ⟨Rw.nil z, Or.inl ⟨rfl, rfl, rfl⟩⟩
theorem Lq.kept {A' : AH} (h : Lq A e z ob v L) (hk : ∀ b, ob = some b → A'.get b = A.get b) : Lq A' e z ob v L :=
  ⟨h.1, h.2.imp id fun ⟨b, c, rest, h1, h2, h3, h4⟩ => ⟨b, c, rest, h1, h2, (hk b h1).trans h3, h4⟩⟩
theorem Lq.lt (h : Lq A e z ob v L) (hw : A.wf) {b : Nat} (hb : ob = some b) : b < A.next := by
  rcases h.2 with ⟨h1, _⟩ | ⟨b', c, rest, h1, _, h3, _⟩
  · rw [h1] at hb; cases hb
  · rw [h1] at hb; injection hb with hb; subst hb; exact hw _ _ h3
theorem Lq.sl (h : Lq A e z ob v L) : ∃ a c, v = .slice a L.length c ∧ Sl A e z a L ∧ (∀ b o, a = some ⟨b, o, none⟩ → ob = some b ∧ o = 0) := by
  rcases h.2 with ⟨_, rfl, rfl⟩ | ⟨b, c, rest, rfl, rfl, hb, _⟩
  · exact ⟨none, 0, rfl, Sl.nil Pla.no A e z, fun b o h => by cases h⟩
  · refine ⟨_, _, rfl, ⟨h.1, Pla.yes _ _, fun _ => ⟨b, 0, _, (e, false), rfl, hb, ?_, ?_⟩⟩, fun b' o h => by injection h with h; injection h with h1 h2; exact ⟨by rw [h1], h2.symm⟩⟩
    · rw [List.length_append, flat_len h.1.len]; omega
    · rw [List.drop_zero, ← flat_len h.1.len, List.take_left]
/-- A row is read. -/
theorem Lq.at (h : Lq A e z ob v L) {i : Nat} (hi : i < L.length) : ∃ b c cs, ob = some b ∧ v = .slice (some ⟨b, 0, none⟩) L.length c ∧ A.get b = some (.row cs e false) ∧ i * z + z ≤ cs.length ∧ (cs.drop (i * z)).take z = L[i] := by
  rcases h.2 with ⟨_, _, rfl⟩ | ⟨b, c, rest, h1, h2, h3, h4⟩
  · simp at hi
  · have hm : (i + 1) * z ≤ L.length * z := Nat.mul_le_mul_right _ hi
    rw [Nat.succ_mul] at hm
    have hl := flat_len h.1.len
    refine ⟨b, c, _, h1, h2, h3, by rw [List.length_append]; omega, ?_⟩
    rw [← flat_at h.1.len hi, List.drop_append_of_le_length (by omega), List.take_append_of_le_length (by rw [List.length_drop]; omega)]
/-- A row is written over. -/
theorem Lq.upd {i : Nat} (h : Lq A e z ob v L) (hi : i < L.length) (hr : r.length = z ∧ r.all oneB = true) :
    ∃ b c cs, ob = some b ∧ v = .slice (some ⟨b, 0, none⟩) L.length c ∧ A.get b = some (.row cs e false) ∧ i * z + z ≤ cs.length ∧ Lq (A.set b (.row (spl cs (i * z) r) e false)) e z ob v (L.set i r) := by
  rcases h.2 with ⟨_, _, rfl⟩ | ⟨b, c, rest, h1, h2, h3, h4⟩
  · simp at hi
  · have hm : (i + 1) * z ≤ L.length * z := Nat.mul_le_mul_right _ hi
    rw [Nat.succ_mul] at hm
    have hl := flat_len h.1.len
    have hR : Rw z (L.take i ++ r :: L.drop (i + 1)) := (h.1.sub fun r hr => List.mem_of_mem_take hr).app (Rw.cons hr (h.1.sub fun r hr => List.mem_of_mem_drop hr))
    have hset : L.set i r = L.take i ++ r :: L.drop (i + 1) := List.set_eq_take_append_cons_drop.trans (if_pos hi)
    have hlen : (L.take i ++ r :: L.drop (i + 1)).length = L.length := by simp; omega
    rw [hset]
    refine ⟨b, c, _, h1, h2, h3, by rw [List.length_append]; omega, hR, Or.inr ⟨b, c, rest, h1, by rw [hlen]; exact h2, by rw [AH.get_set, if_pos rfl, spl_row h.1 hi hr.1], ?_⟩⟩
    rw [hlen, flat_len hR.len, hlen, ← hl]; exact h4
/-- One row, just made, is appended. -/
theorem Lq.push (h : Lq A e z ob v L) (hw : A.wf) (hr : r.length = z ∧ r.all oneB = true) (hz : 0 < z) (hy : y ≤ 1048576) (hl : L.length + 1 ≤ 1099511627776) (hl2 : (L.length + 1) * y ≤ 17592186044416) :
    ∃ v' A' ob', appW e z y v (.slice (some ⟨A.next, 0, none⟩) 1 1) (A.alloc (.row r e false)) = some (v', A') ∧ Lq A' e z ob' v' (L ++ [r]) ∧ (∀ k, k < A.next → ob ≠ some k → A'.get k = A.get k) ∧ (ob' = ob ∨ ob' = some (A.next + 1)) ∧ A.next + 1 ≤ A'.next := by
  have strong : ∀ (hL : Lst A e z ob v L), ∃ v' A' ob', appW e z y v (.slice (some ⟨A.next, 0, none⟩) 1 1) (A.alloc (.row r e false)) = some (v', A') ∧ Lq A' e z ob' v' (L ++ [r]) ∧ (∀ k, k < A.next → ob ≠ some k → A'.get k = A.get k) ∧ (ob' = ob ∨ ob' = some (A.next + 1)) ∧ A.next + 1 ≤ A'.next := by
    intro hL
    obtain ⟨v', A', ob', p1, p2, p3, p4, p5⟩ := hL.push hw hr hz hy hl hl2
    exact ⟨v', A', ob', p1, ⟨p2.1, p2.2.imp id fun ⟨b, c, rest, q1, q2, q3, q4⟩ => ⟨b, c, rest, q1, q2, q3, q4.imp (fun h => ⟨h.1, 0, by rw [h.2]; simp⟩) id⟩⟩, p3, p4, p5⟩
  rcases h.2 with hn | ⟨b, c, rest, h1, h2, h3, ⟨rfl, k, hk⟩ | h4⟩
  · exact strong ⟨h.1, Or.inl hn⟩
  · cases k with
    | zero =>
      refine strong ⟨h.1, Or.inr ⟨b, UNK, rest, h1, h2, h3, Or.inl ⟨rfl, ?_⟩⟩⟩
      exact List.eq_nil_of_length_eq_zero (by simpa using hk)
    | succ k =>
      have hbl : b < A.next := hw _ _ h3
      have hR := h.1.app (Rw.one hr)
      have hfl := flat_len h.1.len
      rw [Nat.succ_mul] at hk
      subst h2
      have hf : firstOf (A.alloc (.row r e false)) z 1 (.slice (some ⟨A.next, 0, none⟩) 1 1) = some r := by
        have := (Sl.row (A := A.alloc (.row r e false)) (b := A.next) (Rw.one hr) (AH.get_new A _) (by simp)).first (c := 1)
        simpa using this
      refine ⟨.slice (some ⟨b, 0, none⟩) (L.length + 1) UNK, (A.alloc (.row r e false)).set b (.row (spl (L.flatten ++ rest) (0 + L.length * z) r) e false), ob, ?_, ⟨hR, Or.inr ⟨b, UNK, rest.drop z, h1, by simp, ?_, Or.inl ⟨rfl, k, by rw [List.length_drop]; omega⟩⟩⟩, ?_, Or.inl rfl, by simp⟩
      · unfold appW
        simp only [hf, Option.bind_some]
        rw [if_neg (by omega), if_neg (by rw [Classical.not_not]; exact ⟨hl, hl2, hy⟩)]
        simp only [if_true]
        rw [AH.get_alloc, if_neg (by omega), h3]
        simp only []
        rw [if_pos ⟨trivial, hr.2, hz⟩, if_pos (by rw [List.length_append, hfl, Nat.zero_add, Nat.succ_mul]; omega)]
      · rw [AH.get_set, if_pos rfl, Nat.zero_add, spl_at' _ _ _ hfl.symm, hr.1]; simp
      · intro k' hk' hne
        rw [AH.get_set, if_neg (fun e => hne (by rw [h1, e])), AH.get_alloc, if_neg (by omega)]
  · exact strong ⟨h.1, Or.inr ⟨b, c, rest, h1, h2, h3, Or.inr h4⟩⟩
/-- The last row goes. -/
theorem Lq.pop (h : Lq A e z ob v (L ++ [r])) (hz : szOf P e = some z) {k : IntKind} :
    ∃ a c, v = .slice a (L.length + 1) c ∧ slW P z a (L.length + 1) c none (some (.int k (L.length : Nat))) none A = some (.slice a L.length c) ∧ Lq A e z ob (.slice a L.length c) L := by
  rcases h.2 with ⟨_, _, hn⟩ | ⟨b, c, rest, h1, h2, h3, h4⟩
  · simp at hn
  · have hrz := (h.1 r (by simp)).1
    refine ⟨some ⟨b, 0, none⟩, c, by simpa using h2, ?_, h.1.sub fun r hr => by simp [hr], Or.inr ⟨b, c, r ++ rest, h1, rfl, by rw [h3]; simp, ?_⟩⟩
    · rcases h4 with ⟨rfl, _⟩ | ⟨h4, h5, _⟩
      · exact slU_hi h3 hz (by omega)
      · rw [slW_hi (by simp at h5; omega) (by simpa using h5) h4]
        congr 2
        exact cutA_zero b 0 c z
    · rcases h4 with ⟨rfl, q, hq⟩ | ⟨h4, h5, h6⟩
      · exact Or.inl ⟨rfl, q + 1, by rw [List.length_append, hrz, hq, Nat.succ_mul]; omega⟩
      · refine Or.inr ⟨h4, by simp at h5; omega, ?_⟩
        rw [h6]; simp; omega
/-- All that a walk needs of two rows: to read them, to write one, to change them over. -/
theorem Lq.open2 (h : Lq A e z ob v L) {i j : Nat} (hi : i < L.length) (hj : j < L.length) : ∃ b c cs, ob = some b ∧ v = .slice (some ⟨b, 0, none⟩) L.length c ∧ A.get b = some (.row cs e false) ∧ i * z + z ≤ cs.length ∧ j * z + z ≤ cs.length ∧
    (cs.drop (i * z)).take z = L[i] ∧ (cs.drop (j * z)).take z = L[j] ∧ L[i].length = z ∧ L[j].length = z ∧ L[i].all oneB = true ∧ L[j].all oneB = true ∧
    Lq (A.set b (.row (spl (spl cs (i * z) L[j]) (j * z) L[i]) e false)) e z ob v ((L.set i L[j]).set j L[i]) := by
  obtain ⟨b, c, cs, h1, h2, h3, h4, h5⟩ := h.at hi
  obtain ⟨b', c', cs', g1, g2, g3, g4, g5⟩ := h.at hj
  rw [h1] at g1; injection g1 with g1; subst g1
  rw [h3] at g3; injection g3 with g3; injection g3 with g3 _ _; subst g3
  have hri := h.1 L[i] (List.getElem_mem hi)
  have hrj := h.1 L[j] (List.getElem_mem hj)
  obtain ⟨b', c', cs', g1, g2, g3, g4, g6⟩ := h.upd hi hrj
  rw [h1] at g1; injection g1 with g1; subst g1
  rw [h3] at g3; injection g3 with g3; injection g3 with g3 _ _; subst g3
  obtain ⟨b', c', cs', k1, k2, k3, k4, k6⟩ := g6.upd (i := j) (by simpa using hj) hri
  rw [h1] at k1; injection k1 with k1; subst k1
  rw [AH.get_set, if_pos rfl] at k3; injection k3 with k3; injection k3 with k3 _ _; subst k3
  refine ⟨b, c, cs, h1, h2, h3, h4, by assumption, h5, g5, hri.1, hrj.1, hri.2, hrj.2, k6.kept fun b' hb' => ?_⟩
  rw [h1] at hb'; injection hb' with hb'; subst hb'
  simp [AH.get_set]
end
end Go.AI
