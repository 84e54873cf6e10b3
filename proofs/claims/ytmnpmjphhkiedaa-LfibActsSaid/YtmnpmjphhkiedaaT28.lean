import Derived.Test.YtmnpmjphhkiedaaT27
namespace Go.Proofs.Ytmnpmjphhkiedaa.LF
open Go.RowKit Go.Proofs.YtmnpmjphhkiedaaW.PrintWords Go.Proofs.YtmnpmjphhkiedaaW.PrintLast Go.Proofs.YtmnpmjphhkiedaaW.PrintMore Go.Proofs.Ytmnpmjphhkiedaa.PLfibActs Go.Proofs.Ytmnpmjphhkiedaa.Lib

theorem ownC' {w : World} {A : Option Addr} {n c : Nat} {L : List S95} (h : Own w (.slice A n c) L) : Kd.C k95 w A L.length L ∧ n = L.length := by
  obtain ⟨A', c', e, _, _, hC⟩ := h.read
  injection e with e1 e2 e3
  subst e1 e2
  exact ⟨hC, rfl⟩
theorem Own.below' {a b : World} {v : Value} {L : List S95} (h : Own a v L) (hb : Below a.heap.size a b) : Own b v L := h.kept (S := fun _ => False) (.of_below hb) (fun _ _ h => h)
/-- A table's footprint, no wider than it must be. -/
theorem Tab.tight' {w : World} {tb : Nat} {F : Nat → Prop} {most : Int} {L T : List S95} (t : Tab w tb F most L T) : ∃ G, Tab w tb G most L T ∧ ∀ k, G k → F k ∧ k < w.heap.size := by
  obtain ⟨⟨vl, vt, h1, h2, h3, h4, h5⟩, f, a1, a2, a3, a4, a5, a6⟩ := t
  refine ⟨fun k => k = tb ∨ vl.ownBlock = some k ∨ vt.ownBlock = some k, ⟨⟨vl, vt, h1, h2, h3, fun k hk => ⟨.inr (.inl hk), (h4 k hk).2⟩, fun k hk => .inr (.inr hk)⟩, .inl rfl, a1, a2, a3, a4, a5, a6⟩, fun k hk => ?_⟩
  rcases hk with rfl | hk | hk
  · exact ⟨f, blk_lt h1⟩
  · exact ⟨(h4 k hk).1, h2.lt hk⟩
  · exact ⟨h5 k hk, h3.lt hk⟩

theorem chg_of_kept {S : Nat → Prop} {B : Nat} {w W W' : World} (h1 : Below B w W) (h2 : Below B w W') (k : Kept W W' S) : Chg S W W' :=
  ⟨h2.os.trans h1.os.symm, h2.tape.trans h1.tape.symm, h2.output.trans h1.output.symm, k.1, k.2⟩
theorem R_kept2 {α : Type} {d : Kd α} {e : Nat} {S : Nat → Prop} {W W' : World} {b : Nat} {ok : Nat → Prop} {V : Value} {xs : List α} (h : d.R e W b ok V xs) (hc : Chg S W W') (hn : ∀ k, ok k → ¬ S k) : d.R e W' b ok V xs :=
  Kd.R_step h (fun k ho hlt => hc.block k hlt (hn k ho))

/-- The document's table in memory: block g; its rows are apart from each other, from g and from F. -/
def RefAt (w W : World) (g : Nat) (F : Nat → Prop) (most : Int) (V1 V2 : Value) (L T : List S95) : Prop :=
  W.heap[g]? = some (.cells #[V1, V2, .int .i64 most] 101 (0, 0)) ∧ Kd.R k144 144 W w.heap.size (fun k => some k = V1.ownBlock) V1 (L.map toR) ∧ Kd.R k144 144 W w.heap.size (fun k => some k = V2.ownBlock) V2 (T.map toR) ∧
    (∀ k, V1.ownBlock = some k → V2.ownBlock ≠ some k) ∧ (∀ k, V1.ownBlock = some k ∨ V2.ownBlock = some k → ¬ F k ∧ k ≠ g)
/-- Both tables, ours with L and T, the document's with L0 and T0. -/
structure Both (w W : World) (tb g : Nat) (F : Nat → Prop) (most : Int) (V1 V2 : Value) (L T L0 T0 : List S95) : Prop where
  tab : Tab W tb F most L T
  bel : Below w.heap.size w W
  far : ∀ k, F k → w.heap.size ≤ k ∧ k ≠ g ∧ k < W.heap.size
  gl : w.heap.size ≤ g
  ref : RefAt w W g F most V1 V2 L0 T0
theorem Both.tight {w W : World} {tb g : Nat} {F : Nat → Prop} {most : Int} {V1 V2 : Value} {L T L0 T0 : List S95} (t : Tab W tb F most L T) (b : Below w.heap.size w W) (hF : ∀ k, F k → w.heap.size ≤ k ∧ k ≠ g) (gl : w.heap.size ≤ g) (r : RefAt w W g F most V1 V2 L0 T0) :
    ∃ G, Both w W tb g G most V1 V2 L T L0 T0 := by
  obtain ⟨G, h1, h2⟩ := t.tight'
  exact ⟨G, h1, b, fun k hk => ⟨(hF k (h2 k hk).1).1, (hF k (h2 k hk).1).2, (h2 k hk).2⟩, gl, r.1, r.2.1, r.2.2.1, r.2.2.2.1, fun k hk => ⟨fun hg => (r.2.2.2.2 k hk).1 (h2 k hg).1, (r.2.2.2.2 k hk).2⟩⟩
theorem Both.below {w W W' : World} {tb g : Nat} {F : Nat → Prop} {most : Int} {V1 V2 : Value} {L T L0 T0 : List S95} (h : Both w W tb g F most V1 V2 L T L0 T0) (hb : Below W.heap.size W W') : Both w W' tb g F most V1 V2 L T L0 T0 :=
  ⟨h.tab.below hb, below_step h.bel hb, fun k hk => ⟨(h.far k hk).1, (h.far k hk).2.1, Nat.lt_of_lt_of_le (h.far k hk).2.2 hb.size⟩, h.gl, blk_below h.ref.1 hb, Kd.R_below h.ref.2.1 hb, Kd.R_below h.ref.2.2.1 hb, h.ref.2.2.2.1, h.ref.2.2.2.2⟩
/-- A call of ours. -/
theorem Both.ours {w W W' : World} {tb g : Nat} {F : Nat → Prop} {most c : Int} {V1 V2 : Value} {L T L0 T0 L' T' : List S95} {e : Ending} (h : Both w W tb g F most V1 V2 L T L0 T0) (p : TabPost tb F most L' T' c W e W') :
    e = .returned (.int .i64 c) ∧ ∃ G, Both w W' tb g G most V1 V2 L' T' L0 T0 := by
  obtain ⟨F', rfl, t', hc, hF'⟩ := p
  have hsz := h.bel.size
  have hg := blk_lt h.ref.1
  have hgF : ¬ F g := fun hk => (h.far g hk).2.1 rfl
  have l1 : ∀ k, V1.ownBlock = some k → k < W.heap.size := fun k hk => by
    have := (Kd.R_bound h.ref.2.1).1 k hk
    exact this.2.2.1
  have l2 : ∀ k, V2.ownBlock = some k → k < W.heap.size := fun k hk => by
    have := (Kd.R_bound h.ref.2.2.1).1 k hk
    exact this.2.2.1
  refine ⟨rfl, Both.tight t' (h.bel.trans (hc.below h.bel.size (fun k hk => (h.far k hk).1))) (fun k hk => ?_) h.gl ⟨hc.obj h.ref.1 hgF, R_kept2 h.ref.2.1 hc (fun k hk => (h.ref.2.2.2.2 k (.inl hk.symm)).1), R_kept2 h.ref.2.2.1 hc (fun k hk => (h.ref.2.2.2.2 k (.inr hk.symm)).1), h.ref.2.2.2.1, fun k hk => ⟨fun hf => ?_, (h.ref.2.2.2.2 k hk).2⟩⟩⟩
  · rcases hF' k hk with h' | h'
    · exact ⟨(h.far k h').1, (h.far k h').2.1⟩
    · exact ⟨by omega, by omega⟩
  · rcases hF' k hf with h' | h'
    · exact (h.ref.2.2.2.2 k hk).1 h'
    · rcases hk with hk | hk
      · have := l1 k hk; omega
      · have := l2 k hk; omega
/-- A call of the document's, and its answer stored. -/
theorem Both.refs {w W W' : World} {tb g : Nat} {F : Nat → Prop} {most : Int} {V1 V2 v0 v1 : Value} {L T L0 T0 L1 T1 : List S95} (h : Both w W tb g F most V1 V2 L T L0 T0)
    (h0 : Kd.R k144 144 W' w.heap.size (fun k => ((some k = V1.ownBlock ∨ some k = V2.ownBlock) ∨ W.heap.size ≤ k) ∧ some k ≠ v1.ownBlock) v0 (L1.map toR))
    (h1 : Kd.R k144 144 W' w.heap.size (fun k => ((some k = V1.ownBlock ∨ some k = V2.ownBlock) ∨ W.heap.size ≤ k) ∧ some k ≠ v0.ownBlock) v1 (T1.map toR))
    (hb : Below w.heap.size w W') (hk : Kept W W' (fun k => some k = V1.ownBlock ∨ some k = V2.ownBlock)) :
    Both w (((W'.setCell ⟨g, 0, none⟩ v0).setCell ⟨g, 1, none⟩ v1).setCell ⟨g, 2, none⟩ (.int .i64 most)) tb g F most v0 v1 L T L1 T1 := by
  have hc := chg_of_kept h.bel hb hk
  have hg := blk_lt h.ref.1
  have hnS : ∀ k, F k → ¬ (some k = V1.ownBlock ∨ some k = V2.ownBlock) := fun k hf hk => (h.ref.2.2.2.2 k (hk.imp Eq.symm Eq.symm)).1 hf
  have hgS : ¬ (some g = V1.ownBlock ∨ some g = V2.ownBlock) := fun hk => (h.ref.2.2.2.2 g (hk.imp Eq.symm Eq.symm)).2 rfl
  have hch : Chg (fun k => k = g) W' (((W'.setCell ⟨g, 0, none⟩ v0).setCell ⟨g, 1, none⟩ v1).setCell ⟨g, 2, none⟩ (.int .i64 most)) := ((Chg.one W' g 0 v0).put g 1 (.inl rfl) v1).put g 2 (.inl rfl) _
  have n0 : ∀ k, v0.ownBlock = some k → ¬ F k ∧ k ≠ g := fun k hk0 => by
    rcases (h0.1 k hk0).1 with h' | h'
    · exact h.ref.2.2.2.2 k (h'.imp Eq.symm Eq.symm)
    · exact ⟨fun hf => by have := (h.far k hf).2.2; omega, by omega⟩
  have n1 : ∀ k, v1.ownBlock = some k → ¬ F k ∧ k ≠ g := fun k hk0 => by
    rcases (h1.1 k hk0).1 with h' | h'
    · exact h.ref.2.2.2.2 k (h'.imp Eq.symm Eq.symm)
    · exact ⟨fun hf => by have := (h.far k hf).2.2; omega, by omega⟩
  refine ⟨(h.tab.kept hc hnS).kept hch (fun k hf e => (h.far k hf).2.1 e), hb.trans (hch.below hb.size (fun k hk => by have := h.gl; omega)), fun k hf => ⟨(h.far k hf).1, (h.far k hf).2.1, ?_⟩, h.gl, ?_, ?_, ?_, fun k hk hk2 => (h0.1 k hk).2 hk2.symm, fun k hk => hk.elim (n0 k) (n1 k)⟩
  · exact Nat.lt_of_lt_of_le (h.far k hf).2.2 (Nat.le_trans hk.1 hch.size)
  · have := blk_set (blk_set (blk_set (hc.obj h.ref.1 hgS) 0 v0) 1 v1) 2 (.int .i64 most)
    simpa using this
  · exact R_kept2 (Kd.R_tight rfl h0) hch (fun k hk e => (n0 k hk.symm).2 e)
  · exact R_kept2 (Kd.R_tight rfl h1) hch (fun k hk e => (n1 k hk.symm).2 e)
theorem outs_drop {L : List S95} {t : Int} (h : OutsOk L) : OutsOk (dropL L t).1 := by
  unfold dropL
  split
  · intro r hr
    exact h r ((List.mem_filter.1 hr).1)
  · exact h
end Go.Proofs.Ytmnpmjphhkiedaa.LF
