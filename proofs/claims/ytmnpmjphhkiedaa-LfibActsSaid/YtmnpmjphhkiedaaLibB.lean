import Derived.Test.YtmnpmjphhkiedaaLib
import Derived.Test.YtmnpmjphhkiedaaWWords
namespace Go.Proofs.Ytmnpmjphhkiedaa.Lib
open Go.RowKit Go.Proofs.YtmnpmjphhkiedaaW.PrintWords

/-- The cells of elements that are flat. -/
def cellsOf {α : Type} (enc : α → List Value) (L : List α) : List Value := L.flatMap enc
section
variable {α : Type} {enc : α → List Value} {k : Nat}
theorem cellsOf_length (hk : ∀ x, (enc x).length = k) (L : List α) : (cellsOf enc L).length = L.length * k := by
  induction L with
  | nil => simp [cellsOf]
  | cons r L ih => simp only [cellsOf, List.flatMap_cons, List.length_append] at ih ⊢; rw [ih, hk, List.length_cons, Nat.add_mul]; omega
theorem cellsOf_take (hk : ∀ x, (enc x).length = k) (L : List α) (i : Nat) : (cellsOf enc L).take (i * k) = cellsOf enc (L.take i) := by
  induction L generalizing i with
  | nil => simp [cellsOf]
  | cons r L ih =>
    cases i with
    | zero => simp [cellsOf]
    | succ i =>
      have := ih i
      simp only [cellsOf, List.flatMap_cons, List.take_succ_cons] at this ⊢
      rw [show (i + 1) * k = (enc r).length + i * k by rw [hk, Nat.add_mul]; omega, List.take_length_add_append, this]
theorem cellsOf_drop (hk : ∀ x, (enc x).length = k) (L : List α) (i : Nat) : (cellsOf enc L).drop (i * k) = cellsOf enc (L.drop i) := by
  induction L generalizing i with
  | nil => simp [cellsOf]
  | cons r L ih =>
    cases i with
    | zero => simp
    | succ i =>
      have := ih i
      simp only [cellsOf, List.flatMap_cons, List.drop_succ_cons] at this ⊢
      rw [show (i + 1) * k = (enc r).length + i * k by rw [hk, Nat.add_mul]; omega, List.drop_length_add_append, this]
theorem cellsOf_append (L M : List α) : cellsOf enc (L ++ M) = cellsOf enc L ++ cellsOf enc M := by simp [cellsOf]
theorem cellsOf_get (hk : ∀ x, (enc x).length = k) (L : List α) (i j : Nat) (hi : i < L.length) (hj : j < k) : (cellsOf enc L)[i * k + j]? = (enc L[i])[j]? := by
  have h2 : (cellsOf enc L)[i * k + j]? = ((cellsOf enc L).drop (i * k))[j]? := by rw [List.getElem?_drop]
  rw [h2, cellsOf_drop hk, List.drop_eq_getElem_cons hi]
  simp only [cellsOf, List.flatMap_cons]
  rw [List.getElem?_append_left (by rw [hk]; exact hj)]
theorem cellsOf_one (h1 : ∀ x, ∀ u ∈ enc x, u.oneCell' = true) (L : List α) : ∀ u ∈ cellsOf enc L, u.oneCell' = true := by
  intro u hu
  simp only [cellsOf, List.mem_flatMap] at hu
  obtain ⟨r, _, hu⟩ := hu
  exact h1 r u hu
theorem cellsOf_set (hk : ∀ x, (enc x).length = k) (L : List α) (i j : Nat) (hi : i < L.length) (hj : j < k) (u : Value) (y : α) (hy : (enc L[i]).set j u = enc y) : (cellsOf enc L).set (i * k + j) u = cellsOf enc (L.set i y) := by
  induction L generalizing i with
  | nil => simp at hi
  | cons r L ih =>
    cases i with
    | zero =>
      simp only [cellsOf, List.flatMap_cons, List.set_cons_zero, Nat.zero_mul, Nat.zero_add] at hy ⊢
      rw [List.set_append_left _ _ (by rw [hk]; exact hj)]
      simp only [List.getElem_cons_zero] at hy
      rw [hy]
    | succ i =>
      have := ih i (by simpa using hi) (by simpa using hy)
      simp only [cellsOf, List.flatMap_cons, List.set_cons_succ] at this ⊢
      rw [← this, show (i + 1) * k + j = (enc r).length + (i * k + j) by rw [hk, Nat.add_mul]; omega, List.set_append_right _ _ (by omega), Nat.add_sub_cancel_left]

/-- A block known whole: its cells and marks. -/
theorem blk2 {w : World} {g t : Nat} {a b : Value} (h : w.heap[g]? = some (.cells #[a, b] t (0, 0))) :
    w.cell? ⟨g, 0, none⟩ = some a ∧ w.cell? ⟨g, 1, none⟩ = some b ∧ w.frozen? ⟨g, 0, none⟩ = false ∧ w.frozen? ⟨g, 1, none⟩ = false :=
  ⟨(blk_cell h 0).trans rfl, (blk_cell h 1).trans rfl, blk_frozen h 0, blk_frozen h 1⟩
theorem blk3 {w : World} {g t : Nat} {a b c : Value} (h : w.heap[g]? = some (.cells #[a, b, c] t (0, 0))) :
    w.cell? ⟨g, 0, none⟩ = some a ∧ w.cell? ⟨g, 1, none⟩ = some b ∧ w.cell? ⟨g, 2, none⟩ = some c ∧ w.frozen? ⟨g, 0, none⟩ = false ∧ w.frozen? ⟨g, 1, none⟩ = false ∧ w.frozen? ⟨g, 2, none⟩ = false :=
  ⟨(blk_cell h 0).trans rfl, (blk_cell h 1).trans rfl, (blk_cell h 2).trans rfl, blk_frozen h 0, blk_frozen h 1, blk_frozen h 2⟩
theorem blk4 {w : World} {g t : Nat} {a b c d : Value} (h : w.heap[g]? = some (.cells #[a, b, c, d] t (0, 0))) :
    w.cell? ⟨g, 0, none⟩ = some a ∧ w.cell? ⟨g, 1, none⟩ = some b ∧ w.cell? ⟨g, 2, none⟩ = some c ∧ w.cell? ⟨g, 3, none⟩ = some d ∧ w.frozen? ⟨g, 0, none⟩ = false ∧ w.frozen? ⟨g, 1, none⟩ = false ∧ w.frozen? ⟨g, 2, none⟩ = false ∧ w.frozen? ⟨g, 3, none⟩ = false :=
  ⟨(blk_cell h 0).trans rfl, (blk_cell h 1).trans rfl, (blk_cell h 2).trans rfl, (blk_cell h 3).trans rfl, blk_frozen h 0, blk_frozen h 1, blk_frozen h 2, blk_frozen h 3⟩
theorem blk_kept {S : Nat → Prop} {a b : World} (h : Chg S a b) {g : Nat} {o : Obj} (ho : a.heap[g]? = some o) (hn : ¬ S g) : b.heap[g]? = some o := h.obj ho hn
/-- Results: a number, a struct, a number. -/
theorem results_tct {P : Program} {fn : Func} {p u v : Tmp} {ty : TypeId} (h : fn.results = #[.tmp u, .cell p ty, .tmp v]) (tmps : Array Value) (w : World) (g : Nat) (t : TypeId) (cs : Array Value) (fr : Nat × Nat) (d : TypeDesc)
    (hp : tmps.getD p undef = .pointer (some ⟨g, 0, none⟩)) (hg : w.heap[g]? = some (.cells cs t fr))
    (hu : P.underlying ty = some d) (hd : (match d with | .struct _ | .array _ _ => true | _ => false) = true) (hi : (P.info? ty).map (·.size) = some cs.size) :
    (results fn tmps).run P w = .ok (.tuple #[tmps.getD u undef, .agg cs, tmps.getD v undef]) w := by
  have hp' : tmps[p]?.getD undef = .pointer (some ⟨g, 0, none⟩) := by simpa using hp
  simp [results, h, hp', asAddr, run_loadVar_row w g t ty cs fr d hg hu hd hi]

/-- A row of flat elements that is read, behind a change elsewhere. -/
theorem C_kept {β : Type} {d : Kd β} (hK : ∀ (w w' : World) x cs, d.K w x cs → d.K w' x cs) {S : Nat → Prop} {a b : World} (h : Chg S a b) {A : Option Addr} {n : Nat} {xs : List β} (hc : Kd.C d a A n xs) (hA : ∀ x, A = some x → ¬ S x.block) : Kd.C d b A n xs := by
  refine ⟨hc.1, hc.2.1, fun hn => ?_⟩
  obtain ⟨ad, e, hcell⟩ := hc.2.2 hn
  refine ⟨ad, e, fun j p hj => ?_⟩
  obtain ⟨c, h1, h2, h3⟩ := hcell j p hj
  refine ⟨c, h1, hK _ _ _ _ h2, fun i u hu => ?_⟩
  have e2 : (ad.add (j * d.sz + i)).block = ad.block := by unfold Addr.add; split <;> rfl
  exact h.cell (h3 i u hu) (by rw [e2]; exact hA ad e)

/-- What is owned can be read. -/
theorem own_readC {d : Kd α} (hk : ∀ x, (enc x).length = k) (hsz : d.sz = k) (hd : ∀ w x, d.K w x (enc x)) {w : World} {b e : Nat} {v : Value} {L : List α} (h : w.ownsRow b e k v L.length (cellsOf enc L)) :
    ∃ A c, v = .slice A L.length c ∧ L.length ≤ c ∧ c ≤ maxLen ∧ Kd.C d w A L.length L := by
  rcases h.2 with ⟨rfl, h0⟩ | ⟨g, cap, cur, rfl, _, hg, hnc, hcm, hcs, htk⟩
  · have : L = [] := List.eq_nil_of_length_eq_zero h0
    subst this
    exact ⟨none, 0, rfl, Nat.le_refl _, by simp [maxLen], Kd.C_nil d w⟩
  · refine ⟨_, cap, rfl, hnc, hcm, ⟨rfl, by simp only [maxLen] at hcm; omega, fun _ => ⟨_, rfl, fun j p hj => ?_⟩⟩⟩
    obtain ⟨hj1, hj2⟩ := List.getElem?_eq_some_iff.1 hj
    refine ⟨enc p, by rw [hk, hsz], hd w p, fun i u hu => ?_⟩
    have hi : i < k := by have := (List.getElem?_eq_some_iff.1 hu).1; rwa [hk] at this
    rw [Addr.add_lit, Nat.zero_add, blk_cell hg, hsz]
    have := cellsOf_get hk L j i hj1 hi
    rw [hj2, hu, ← htk, List.getElem?_take] at this
    split at this
    · simpa using this
    · cases this
/-- The cells of a row that is read. -/
theorem cells_of_C {d : Kd α} (hk : ∀ x, (enc x).length = k) (hsz : d.sz = k) (hd : ∀ w x cs, d.K w x cs → cs = enc x) (hpos : 0 < k) {w : World} {A : Option Addr} {L : List α} {ad : Addr} (h : Kd.C d w A L.length L) (hA : A = some ad) :
    ∀ j u, (cellsOf enc L)[j]? = some u → w.cell? (ad.add j) = some u := by
  intro j u hu
  have hj : j < L.length * k := by have := (List.getElem?_eq_some_iff.1 hu).1; rwa [cellsOf_length hk] at this
  have h0 : 0 < L.length := by
    rcases Nat.eq_zero_or_pos L.length with h | h
    · rw [h, Nat.zero_mul] at hj; omega
    · exact h
  obtain ⟨ad', e, hc⟩ := h.2.2 h0
  rw [hA] at e
  injection e with e
  subst e
  have hq : j / k < L.length := Nat.div_lt_of_lt_mul (by rw [Nat.mul_comm]; exact hj)
  have hr : j % k < k := Nat.mod_lt _ hpos
  have hjj : j = (j / k) * k + j % k := by rw [Nat.mul_comm]; exact (Nat.div_add_mod j k).symm
  obtain ⟨c, hcl, hK, hcell⟩ := hc (j / k) L[j / k] (List.getElem?_eq_getElem hq)
  have hce := hd _ _ _ hK
  rw [hjj, cellsOf_get hk L _ _ hq hr, ← hce] at hu
  have := hcell (j % k) u hu
  rw [hsz, ← hjj] at this
  exact this
end
end Go.Proofs.Ytmnpmjphhkiedaa.Lib
