import Derived.Test.YtmnpmjphhkiedaaT7
import Derived.Test.YtmnpmjphhkiedaaLibB
namespace Go.Proofs.Ytmnpmjphhkiedaa.LF
open Go.RowKit Go.Proofs.YtmnpmjphhkiedaaW.PrintWords Go.Proofs.YtmnpmjphhkiedaaW.PrintLast Go.Proofs.YtmnpmjphhkiedaaW.PrintMore Go.Proofs.Ytmnpmjphhkiedaa.PLfibActs Go.Proofs.Ytmnpmjphhkiedaa.Lib

def c118 (r : S118) : List Value := [.int .i64 r.f0, .int .i64 r.f1, .int .i64 r.f2]
theorem c118_len (r : S118) : (c118 r).length = 3 := rfl
theorem c118_one (r : S118) : ∀ u ∈ c118 r, u.oneCell' = true := by intro u hu; simp [c118] at hu; rcases hu with rfl | rfl | rfl <;> rfl
/-- Entries that the call has made. -/
def Own118 (w : World) (b : Nat) (v : Value) (L : List S118) : Prop := w.ownsRow b 118 3 v L.length (cellsOf c118 L)
theorem Own118.read {w : World} {b : Nat} {v : Value} {L : List S118} (h : Own118 w b v L) : ∃ A c, v = .slice A L.length c ∧ L.length ≤ c ∧ c ≤ maxLen ∧ Kd.C k118 w A L.length L :=
  own_readC c118_len rfl k118_mk h

def PopPost (L : List S118) (w : World) (e : Ending) (w' : World) : Prop :=
  match L with
  | [] => e = .returned (.tuple #[.agg #[.int .i64 0, .int .i64 0, .int .i64 0], .slice none 0 0, .int .i64 8]) ∧ Below w.heap.size w w'
  | x :: t => ∃ v, e = .returned (.tuple #[.agg #[.int .i64 x.f0, .int .i64 x.f1, .int .i64 x.f2], v, .int .i64 0]) ∧ Below w.heap.size w w' ∧ Own118 w' w.heap.size v t

set_option maxRecDepth 100000 in
set_option maxHeartbeats 1000000 in
theorem pop_nil (A : Option Addr) (c : Nat) (w : World) :
    Calls Try.prog 61 #[.slice A 0 c] w (PopPost [] w) := by
  go_enter Try.func61, Try.ntmps61
  go_wp2
  exact bodyPost_ret (results_ctt rfl _ _ w.heap.size 118 #[.int .i64 0, .int .i64 0, .int .i64 0] (0, 0) _ rfl (blk_new w _) Try.underlying118 rfl (by kernel_rfl)) rfl ⟨rfl, (Below.refl _ _).alloc (Nat.le_refl _) _⟩

theorem pop_end {N : Nat} {w1 : World} {g cap : Nat} {y : S118} {t : List S118} (ho : w1.ownsRow N 118 3 (.slice (some ⟨g, 0, none⟩) (0 + (t.length + 1)) cap) (0 + (t.length + 1)) ([] ++ cellsOf c118 (y :: t))) (hg : g ≠ N) (a b c : Value) :
    Own118 (((w1.setCell ⟨N, 0, none⟩ a).setCell ⟨N, 1, none⟩ b).setCell ⟨N, 2, none⟩ c) N (.slice (some ⟨g, 0, none⟩) (t.length + 1) cap) (y :: t) := by
  rw [Nat.zero_add, List.nil_append] at ho
  have hch : Chg (fun k => k = N) w1 (((w1.setCell ⟨N, 0, none⟩ a).setCell ⟨N, 1, none⟩ b).setCell ⟨N, 2, none⟩ c) :=
    ((Chg.one w1 N 0 a).put N 1 (.inl rfl) b).put N 2 (.inl rfl) c
  exact own_kept hch ho (fun k hk e => hg (by simp only [Value.ownBlock] at hk; injection hk with hk; omega))

theorem info118' : (Try.prog.info? 118).map (fun i => (i.zero, i.size, i.bytes)) = some (some (.agg #[(.int .i64 0), (.int .i64 0), (.int .i64 0)]), 3, 24) := by kernel_rfl

set_option maxRecDepth 100000 in
set_option maxHeartbeats 2000000 in
theorem pop_cons (A : Option Addr) (c : Nat) (x : S118) (t : List S118) (w : World) (hr : Kd.C k118 w A (x :: t).length (x :: t)) (hc : (x :: t).length ≤ c) (hn : t.length ≤ 1000) :
    Calls Try.prog 61 #[.slice A (x :: t).length c] w (PopPost (x :: t) w) := by
  obtain ⟨i0, hi, hz0, hz1, hz2⟩ := info_parts info118'
  obtain ⟨ad, e, c0, c1, c2⟩ := at118 hr (Below.refl _ _) 0 (by simp)
  subst e
  have hx : r118 (x :: t) 0 = x := rfl
  simp only [Nat.zero_mul, Addr.add_zero', List.length_cons, hx] at c0 c1 c2 hc ⊢
  have hbl := World.block_lt_of_cell? w _ c0
  obtain ⟨w0, hw0⟩ : ∃ w0, w0 = w.alloc (.cells #[.int .i64 0, .int .i64 0, .int .i64 0] 118) := ⟨_, rfl⟩
  have hb0 : Below w.heap.size w w0 := by rw [hw0]; exact (Below.refl _ _).alloc (Nat.le_refl _) _
  have HX : Aside0 (w0.heap[w.heap.size]? = some (.cells #[.int .i64 0, .int .i64 0, .int .i64 0] 118 (0, 0))) := ⟨by rw [hw0]; exact blk_new w _⟩
  have d0 := (hb0.cell hbl).trans c0
  have d1 := (hb0.cell (p := ⟨ad.block, ad.off + 1, none⟩) hbl).trans c1
  have d2 := (hb0.cell (p := ⟨ad.block, ad.off + 2, none⟩) hbl).trans c2
  have x0 : w0.cell? ⟨w.heap.size, 0, none⟩ = some (.int .i64 0) := (blk_cell HX.out 0).trans rfl
  have x1 : w0.cell? ⟨w.heap.size, 1, none⟩ = some (.int .i64 0) := (blk_cell HX.out 1).trans rfl
  have x2 : w0.cell? ⟨w.heap.size, 2, none⟩ = some (.int .i64 0) := (blk_cell HX.out 2).trans rfl
  have z0 := blk_frozen HX.out 0
  have z1 := blk_frozen HX.out 1
  have z2 := blk_frozen HX.out 2
  have HR := Aside0.mk hr
  have hcells := cells_of_C (enc := c118) c118_len rfl (fun w x cs h => k118_open h) (by omega) hr rfl
  have HB0 := Aside0.mk hb0
  clear hr c0 c1 c2 hb0
  cases t with
  | nil =>
    clear hcells
    go_enter Try.func61, Try.ntmps61
    go_wp2_with fail
    rw [← hw0]
    clear hw0
    have hap : ∀ (B : Option Addr) cc (W : World) ty, (Builtin.append_ #[23, 23] ty #[.slice none 0 0, .slice B 0 cc]).run Try.prog W = .ok (.slice none 0 0) W := by
      intro B cc W ty
      cases B <;> simp [Builtin.append_, run_underlying Try.underlying23, sizeOf, typeInfo, hi, Builtin.lenOf, Builtin.firstCells, loadCells, loadCellsFrom]
    go_region_law (refine step_append_run rfl _ _ 23 23 rfl _ _ (by rfl) (by rfl) (hap _ _ _ _) ?_)
    all_goals go_wp2
    all_goals
      refine bodyPost_ret (results_ctt rfl _ _ w.heap.size 118 #[.int .i64 x.f0, .int .i64 x.f1, .int .i64 x.f2] (0, 0) _ rfl (blk_set (blk_set (blk_set HX.out 0 _) 1 _) 2 _) Try.underlying118 rfl (by kernel_rfl)) rfl ?_
      exact ⟨.slice none 0 0, rfl, below_set (below_set (below_set HB0.out.drew (Nat.le_refl _)) (Nat.le_refl _)) (Nat.le_refl _), World.ownsRow_nil _ _ _ _⟩
  | cons y t =>
    have hc1 : ¬ c = 1 := by simp at hc; omega
    have hc0 : 1 ≤ c := by omega
    obtain ⟨news, hnews⟩ : ∃ news, news = cellsOf c118 (y :: t) := ⟨_, rfl⟩
    have HNL : Aside0 (news.length = (t.length + 1) * 3) := ⟨by rw [hnews, cellsOf_length c118_len]; rfl⟩
    have HN1 : Aside0 (∀ u ∈ news, u.oneCell' = true) := ⟨by rw [hnews]; exact cellsOf_one c118_one _⟩
    have HNC : Aside0 (∀ j u, news[j]? = some u → w0.drew.cell? ((⟨ad.block, ad.off + 3, none⟩ : Addr).add j) = some u) := ⟨fun j u hj => by
      have h1 := hcells (3 + j) u (by
        have e : cellsOf c118 (x :: y :: t) = c118 x ++ news := by rw [hnews]; rfl
        rw [e, List.getElem?_append_right (by simp [c118])]
        simpa [c118] using hj)
      rw [Addr.add_lit]
      have e : ad.add (3 + j) = ⟨ad.block, ad.off + 3 + j, none⟩ := by rw [Nat.add_comm 3 j, Addr.add_succ' ad (j + 2)]; congr 1; omega
      rw [e] at h1
      exact (HB0.out.cell (p := ⟨ad.block, ad.off + 3 + j, none⟩) hbl).trans h1⟩
    have HNN := Aside0.mk hnews
    have HS : Aside0 (w.heap.size ≤ w0.drew.heap.size) := ⟨HB0.out.size⟩
    have HM1 : Aside0 (0 + (t.length + 1) ≤ maxLen) := ⟨by simp at hn; unfold maxLen; omega⟩
    have HM2 : Aside0 ((0 + (t.length + 1)) * 24 ≤ 140737488355328) := ⟨by simp at hn; omega⟩
    have HM0 : Aside0 (0 < t.length + 1) := ⟨by omega⟩
    have hn' : t.length + 1 ≤ 1000 := by simpa using hn
    have hcc : t.length + 1 + 1 ≤ c := by simpa using hc
    have hp0 : (0 : Int) < (t.length : Int) + 1 + 1 := by omega
    have hp1 : (1 : Int) ≤ (t.length : Int) + 1 + 1 := by omega
    clear hcells hnews hn hc
    go_enter Try.func61, Try.ntmps61
    go_wp2_with fail
    rw [← hw0]
    clear hw0
    go_region_law (refine step_append_lies _ (by rfl) _ _ _ (by rfl) w.heap.size 118 i0 _ 3 24 Try.underlying23 hi hz0 hz1 hz2 rfl (by omega) (.slice none 0 0) 0 [] (by rfl) (World.ownsRow_nil _ _ _ _) ⟨ad.block, ad.off + 3, none⟩ (t.length + 1) (c - 1) news (by rfl) HNL.out HNC.out HN1.out HM0.out HM1.out HM2.out HS.out _ rfl ?_; intro g cap w1 hown hgrow hat _; have HAT := Aside0.mk hat; clear hat; have HO := Aside0.mk hown; have HG := Aside0.mk hgrow; have HX1 := Aside0.mk (blk_grown (w := w0.drew) HX.out hgrow (by simp [Value.ownBlock])); have y0 := (blk_cell HX1.out 0).trans rfl; have y1 := (blk_cell HX1.out 1).trans rfl; have y2 := (blk_cell HX1.out 2).trans rfl; have r0 := World.grownBy.cell (w := w0.drew) hgrow d0 (by simp [Value.ownBlock]); have r1 := World.grownBy.cell (w := w0.drew) hgrow d1 (by simp [Value.ownBlock]); have r2 := World.grownBy.cell (w := w0.drew) hgrow d2 (by simp [Value.ownBlock]); have q0 := blk_frozen HX1.out 0; have q1 := blk_frozen HX1.out 1; have q2 := blk_frozen HX1.out 2; clear hown hgrow)
    all_goals go_wp2
    all_goals
      refine bodyPost_ret (results_ctt rfl _ _ w.heap.size 118 #[.int .i64 x.f0, .int .i64 x.f1, .int .i64 x.f2] (0, 0) _ rfl (blk_set (blk_set (blk_set HX1.out 0 _) 1 _) 2 _) Try.underlying118 rfl (by kernel_rfl)) rfl ?_
      have hb1 : Below w.heap.size w w1 := HB0.out.drew.grown HG.out HS.out (fun k hk => by simp [Value.ownBlock] at hk)
      refine ⟨.slice (some ⟨g, 0, none⟩) (t.length + 1) cap, rfl, below_set (below_set (below_set hb1 (Nat.le_refl _)) (Nat.le_refl _)) (Nat.le_refl _), ?_⟩
      have ho := HO.out
      rw [HNN.out] at ho
      have hg : g ≠ w.heap.size := by
        rcases HAT.out with h | h
        · simp [Value.ownBlock] at h
        · have := blk_lt HX.out; have : w0.drew.heap.size = w0.heap.size := rfl; omega
      exact pop_end ho hg _ _ _
end Go.Proofs.Ytmnpmjphhkiedaa.LF
