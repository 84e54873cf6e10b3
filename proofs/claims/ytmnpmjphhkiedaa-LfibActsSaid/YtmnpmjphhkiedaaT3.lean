import Derived.Test.YtmnpmjphhkiedaaT2
import Derived.Test.YtmnpmjphhkiedaaLib
namespace Go.Proofs.Ytmnpmjphhkiedaa.LF
open Go.RowKit Go.Proofs.YtmnpmjphhkiedaaW.PrintWords Go.Proofs.YtmnpmjphhkiedaaW.PrintLast Go.Proofs.YtmnpmjphhkiedaaW.PrintMore Go.Proofs.Ytmnpmjphhkiedaa.PLfibActs Go.Proofs.Ytmnpmjphhkiedaa.Lib

theorem info95 : (Try.prog.info? 95).map (fun i => (i.zero, i.size, i.bytes)) = some (some (.agg #[(.int .i64 0), (.int .i64 0), (.int .i64 0)]), 3, 24) := by kernel_rfl

/-- What an insertion of one element leaves. -/
def InsPost (v : Value) (ys : List Value) (n : Nat) (w : World) (e : Ending) (w' : World) : Prop :=
  ∃ v', e = .returned v' ∧ w'.ownsRow 0 95 3 v' (n + 1) ys ∧ w.grownBy w' v.ownBlock ∧ (v'.ownBlock = v.ownBlock ∨ ∃ g, v'.ownBlock = some g ∧ w.heap.size ≤ g)

set_option maxRecDepth 100000 in
set_option maxHeartbeats 1000000 in
theorem insert_end (v : Value) (n vb vc : Nat) (xs vs : List Value) (w : World) (ho : w.ownsRow 0 95 3 v n xs) (hn : n ≤ 64) (hl : vs.length = 3) (hvs : ∀ j u, vs[j]? = some u → w.cell? ⟨vb, j, none⟩ = some u) (h1 : ∀ u ∈ vs, u.oneCell' = true) :
    Calls Try.prog 95 #[v, .int .i64 n, .slice (some ⟨vb, 0, none⟩) 1 vc] w (InsPost v (xs ++ vs) n w) := by
  obtain ⟨i0, hi, hz0, hz1, hz2⟩ := info_parts info95
  have HO := Aside0.mk ho
  have HV : Aside0 (∀ j u, vs[j]? = some u → w.cell? ((⟨vb, 0, none⟩ : Addr).add j) = some u) := ⟨fun j u hj => by rw [Addr.add_lit, Nat.zero_add]; exact hvs j u hj⟩
  have H1 := Aside0.mk h1
  have HL := Aside0.mk hl
  clear hvs h1 hl
  have B1 : Aside0 (n + 1 ≤ maxLen) := ⟨by unfold maxLen; omega⟩
  have B2 : Aside0 ((n + 1) * 24 ≤ 140737488355328) := ⟨by omega⟩
  obtain ⟨A, c, hv, hnil⟩ : ∃ A c, v = .slice A n c ∧ ((A = none ∧ n = 0 ∧ c = 0) ∨ ∃ g, A = some ⟨g, 0, none⟩ ∧ n ≤ c ∧ c ≤ maxLen) := by
    rcases ho.2 with ⟨h, h2⟩ | ⟨g, cap, cur, h, _, _, h1, h2, _⟩
    · subst h2; exact ⟨_, _, h, .inl ⟨rfl, rfl, rfl⟩⟩
    · exact ⟨_, _, h, .inr ⟨g, rfl, h1, h2⟩⟩
  subst hv
  clear ho
  rcases hnil with ⟨rfl, rfl, rfl⟩ | ⟨g, rfl, hnc, hcm⟩
  · go_enter Try.func95, Try.ntmps95
    go_wp2_with (at_builtin; refine wpList_append_own_at _ rfl (.tmp 23) (.tmp 24) 91 rfl 0 95 i0 _ 3 24 Try.underlying91 hi hz0 hz1 hz2 rfl (by decide) (.slice none 0 0) 0 xs rfl HO.out ⟨vb, 0, none⟩ 1 vc vs rfl HL.out HV.out H1.out B1.out B2.out (Nat.zero_le _) ?_; intro v' w1 hown hgr _ hat; have HN := Aside0.mk hown; have HG := Aside0.mk hgr; have HA := Aside0.mk hat; clear hown hgr hat)
    go_ret
    exact ⟨v', rfl, HN.out, HG.out, HA.out.imp_right fun h => ⟨_, h, Nat.le_refl _⟩⟩
  · unfold maxLen at hcm
    go_enter Try.func95, Try.ntmps95
    go_wp2_with (at_builtin; refine wpList_append_own_at _ rfl (.tmp 23) (.tmp 24) 91 rfl 0 95 i0 _ 3 24 Try.underlying91 hi hz0 hz1 hz2 rfl (by decide) (.slice (some ⟨g, 0, none⟩) n c) n xs rfl HO.out ⟨vb, 0, none⟩ 1 vc vs rfl HL.out HV.out H1.out B1.out B2.out (Nat.zero_le _) ?_; intro v' w1 hown hgr _ hat; have HN := Aside0.mk hown; have HG := Aside0.mk hgr; have HA := Aside0.mk hat; clear hown hgr hat)
    all_goals
      go_ret
      exact ⟨v', rfl, HN.out, HG.out, HA.out.imp_right fun h => ⟨_, h, Nat.le_refl _⟩⟩

/-- The lists of a shift. -/
theorem shift_list {α : Type} (cur vs : List α) (n i k : Nat) (hin : i < n) (hc : (n + 1) * k ≤ cur.length) (hl : vs.length = k) :
    (((cur.take ((i + 1) * k) ++ (cur.drop (i * k)).take ((n - i) * k) ++ cur.drop ((i + 1) * k + ((cur.drop (i * k)).take ((n - i) * k)).length)).take (i * k) ++ vs ++
      (cur.take ((i + 1) * k) ++ (cur.drop (i * k)).take ((n - i) * k) ++ cur.drop ((i + 1) * k + ((cur.drop (i * k)).take ((n - i) * k)).length)).drop (i * k + vs.length)).take ((n + 1) * k)) =
      (cur.take (n * k)).take (i * k) ++ vs ++ (cur.take (n * k)).drop (i * k) := by
  have e1 : (i + 1) * k = i * k + k := Nat.succ_mul i k
  have e2 : (n + 1) * k = n * k + k := Nat.succ_mul n k
  have e3 : i * k + (n - i) * k = n * k := by rw [← Nat.add_mul]; congr 1; omega
  have e4 : i * k + k ≤ n * k := by rw [← e1]; exact Nat.mul_le_mul_right k hin
  rw [e2] at hc
  rw [e1, e2]
  clear e1 e2
  generalize (n - i) * k = d at *
  generalize i * k = a at *
  generalize n * k = b at *
  have hd : ((cur.drop a).take d).length = d := by simp; omega
  rw [hd, hl]
  have ht : (cur.take (a + k) ++ (cur.drop a).take d ++ cur.drop (a + k + d)).take a = cur.take a := by
    rw [List.append_assoc, List.take_append_of_le_length (by simp; omega), List.take_take, Nat.min_eq_left (by omega)]
  have hdr : (cur.take (a + k) ++ (cur.drop a).take d ++ cur.drop (a + k + d)).drop (a + k) = (cur.drop a).take d ++ cur.drop (a + k + d) := by
    rw [List.append_assoc, List.drop_left' (by simp; omega)]
  rw [ht, hdr]
  have e5 : (cur.take b).drop a = (cur.drop a).take d := by rw [List.drop_take]; congr 1; omega
  rw [e5, List.take_take, Nat.min_eq_left (by omega)]
  rw [← List.append_assoc, List.take_append_of_le_length (by simp [hl]; omega), List.take_of_length_le (by simp [hl]; omega)]

set_option maxRecDepth 100000 in
set_option maxHeartbeats 1000000 in
theorem insert_shift (g n c i vb vc : Nat) (cur : Array Value) (vs : List Value) (w : World) (hg : w.heap[g]? = some (.cells cur 95 (0, 0))) (hcur : cur.size = c * 3) (h1c : ∀ u ∈ cur.toList.take (n * 3), u.oneCell' = true) (hin : i < n) (hnc : n + 1 ≤ c) (hcm : c ≤ 9223372036854775807) (hn : n ≤ 64) (hl : vs.length = 3) (hvb : w.heap[vb]? = some (.cells vs.toArray 95 (0, 0))) (hne : vb ≠ g) (h1 : ∀ u ∈ vs, u.oneCell' = true) :
    Calls Try.prog 95 #[.slice (some ⟨g, 0, none⟩) n c, .int .i64 i, .slice (some ⟨vb, 0, none⟩) 1 vc] w (InsPost (.slice (some ⟨g, 0, none⟩) n c) ((cur.toList.take (n * 3)).take (i * 3) ++ vs ++ (cur.toList.take (n * 3)).drop (i * 3)) n w) := by
  have hz2 : ¬ ((i : Int) = (n : Int)) := by omega
  have hb2 : ¬ (c = i + 1) := by omega
  have hb4 : ¬ (c = i) := by omega
  have hkB : cur.size ≠ 0 := by omega
  have hsz : (Try.prog.info? 95).map (·.size) = some 3 := by kernel_rfl
  have hov : ∀ lb cb, (callFunc 111 #[.slice (some ⟨vb, 0, none⟩) 1 vc, .slice (some ⟨g, (i + 1) * 3, none⟩) lb cb]).run Try.prog w = .ok (.value (.bool false)) w := fun lb cb => by
    rw [run_callFunc_extern Try.func111 (by kernel_rfl) (by kernel_rfl) (by kernel_rfl) (e := Extern.SlicesOverlaps.overlaps #[91, 91] #[4]) (by kernel_rfl),
      Lib.run_overlaps_apart w 91 4 95 Try.underlying91 3 (by intro w; kernel_rfl) ⟨vb, 0, none⟩ ⟨g, (i + 1) * 3, none⟩ 1 vc lb cb hne 95 95 vs.toArray.size cur.size (by simp [World.shape?, hvb]) (by simp [World.shape?, hg]) hkB (blk_frozen hvb 0) (blk_frozen hvb _)]
    rfl
  obtain ⟨cs, hcs⟩ : ∃ cs, cs = (cur.toList.drop (i * 3)).take ((n - i) * 3) := ⟨_, rfl⟩
  have hcl : cs.length = (n - i) * 3 := by rw [hcs]; simp; omega
  obtain ⟨C1, hC1⟩ : ∃ C1, C1 = (cur.toList.take ((i + 1) * 3) ++ cs ++ cur.toList.drop ((i + 1) * 3 + cs.length)) := ⟨_, rfl⟩
  have hC1l : C1.length = c * 3 := by rw [hC1]; simp [hcl]; omega
  have hcp1 : ∀ ty dc sc, (Builtin.copy_ #[91, 91] ty #[.slice (some ⟨g, (i + 1) * 3, none⟩) (n - i) dc, .slice (some ⟨g, i * 3, none⟩) (n + 1 - i) sc]).run Try.prog w.drew = .ok (goInt ((n - i : Nat) : Int)) (w.drew.setRow g C1.toArray) := fun ty dc sc => by
    rw [hC1]
    exact run_copyk w.drew 91 91 ty 95 3 g ((i + 1) * 3) (n - i) dc ⟨g, i * 3, none⟩ (n + 1 - i) sc cur 95 cs Try.underlying91 hsz hg (n - i) (by simp only [Nat.min_def]; split <;> omega) hcl
      (fun j v hj => by
        rw [Addr.add_lit, blk_cell (w := w.drew) hg]
        rw [hcs, List.getElem?_take] at hj
        split at hj
        · rw [List.getElem?_drop] at hj; simpa using hj
        · cases hj)
      (by rw [hcl]; omega) (fun v hv => h1c v (by rw [hcs] at hv; have e : (cur.toList.take (n * 3)).drop (i * 3) = (cur.toList.drop (i * 3)).take ((n - i) * 3) := (by rw [List.drop_take]; congr 1; omega); rw [← e] at hv; exact List.mem_of_mem_drop hv))
  obtain ⟨W1, hW1⟩ : ∃ W1, W1 = w.drew.setRow g C1.toArray := ⟨_, rfl⟩
  have hg1 : W1.heap[g]? = some (.cells C1.toArray 95 (0, 0)) := by rw [hW1]; exact setRow_heap w.drew g cur _ 95 _ hg
  have hv1 : W1.heap[vb]? = some (.cells vs.toArray 95 (0, 0)) := by rw [hW1]; exact (setRow_other w.drew g vb _ hne).trans hvb
  obtain ⟨C2, hC2⟩ : ∃ C2, C2 = (C1.take (i * 3) ++ vs ++ C1.drop (i * 3 + vs.length)) := ⟨_, rfl⟩
  have hcp2 : ∀ ty dc, (Builtin.copy_ #[91, 91] ty #[.slice (some ⟨g, i * 3, none⟩) (n + 1 - i) dc, .slice (some ⟨vb, 0, none⟩) 1 vc]).run Try.prog W1 = .ok (goInt 1) (W1.setRow g C2.toArray) := fun ty dc => by
    rw [hC2]
    exact run_copyk W1 91 91 ty 95 3 g (i * 3) (n + 1 - i) dc ⟨vb, 0, none⟩ 1 vc C1.toArray 95 vs Try.underlying91 hsz hg1 1 (by simp only [Nat.min_def]; split <;> omega) (by omega)
      (fun j v hj => by rw [Addr.add_lit, blk_cell hv1]; simpa using hj)
      (by simp [hC1l, hl]; omega) h1
  rw [← hW1] at hcp1
  have hw1 : IntKind.i64.wrap ((i : Int) + 1) = (i : Int) + 1 := by rw [IntKind.wrap_i64]; omega
  have hb1 : (0 : Int) ≤ (i : Int) + 1 := by omega
  have htn : ((i : Int) + 1).toNat = i + 1 := by omega
  have hb3 : (i : Int) ≤ (n : Int) + 1 := by omega
  have hb5 : (i : Int) + 1 ≤ (n : Int) + 1 := by omega
  obtain ⟨ys, hys⟩ : ∃ ys, ys = (cur.toList.take (n * 3)).take (i * 3) ++ vs ++ (cur.toList.take (n * 3)).drop (i * 3) := ⟨_, rfl⟩
  rw [← hys]
  have HY := Aside0.mk hys
  clear hys
  have HW := Aside0.mk hW1; have HG1 := Aside0.mk hg1; have HC := Aside0.mk hcs; have HC1 := Aside0.mk hC1; have HC2 := Aside0.mk hC2
  clear hW1 hg1 hcs hC1 hC2 hv1
  go_enter Try.func95, Try.ntmps95
  go_wp2_with (simp only [hov])
  go_region_law (refine step_copy_runI rfl _ _ 91 91 rfl _ _ (by simp [Act.eval, Act.put]) (by simp [Act.eval, Act.put]) (hcp1 _ _ _) ?_)
  go_wp2_with (at_builtin; refine wpList_copy_runI _ rfl _ _ 91 91 rfl _ _ rfl rfl (hcp2 _ _) ?_)
  go_ret
  have hwn : w.drew.grownBy W1 (some g) := by rw [HW.out]; exact ⟨rfl, rfl, rfl, by simp [World.setRow], fun k _ hk => setRow_other w.drew g k _ (fun e => hk (by rw [e]))⟩
  have hl2 : ys.length = (n + 1) * 3 := by rw [HY.out]; simp [hl]; omega
  have hC2l : C2.length = c * 3 := by rw [HC2.out]; simp [hC1l, hl]; omega
  refine ⟨_, rfl, ⟨hl2, .inr ⟨g, c, C2.toArray, rfl, Nat.zero_le _, setRow_heap W1 g _ _ 95 _ HG1.out, hnc, by unfold maxLen; omega, by simp [hC2l], ?_⟩⟩, ⟨hwn.os, hwn.tape, hwn.output, ?_, ?_⟩, .inl rfl⟩
  · rw [HC2.out, HC1.out, HC.out, HY.out]
    exact shift_list cur.toList vs n i 3 hin (by simp; omega) hl
  · have := hwn.size; simpa [World.setRow] using this
  · intro k hk hne'
    have hkg : k ≠ g := fun e => hne' (by rw [e]; rfl)
    exact (setRow_other W1 g k _ hkg).trans (hwn.block k hk (by simpa using hkg))

theorem grow_list {α : Type} (cur vs : List α) (c i k : Nat) (hc : cur.length = c * k) (hin : i < c) (hl : vs.length = k) (Z : List α) :
    ((((cur.take (i * k) ++ Z).take (i * k) ++ vs ++ (cur.take (i * k) ++ Z).drop (i * k + vs.length)).take ((i + 1) * k) ++ (cur.drop (i * k)).take ((c - i) * k) ++
      ((cur.take (i * k) ++ Z).take (i * k) ++ vs ++ (cur.take (i * k) ++ Z).drop (i * k + vs.length)).drop ((i + 1) * k + ((cur.drop (i * k)).take ((c - i) * k)).length)).take ((c + 1) * k)) =
      (cur.take (c * k)).take (i * k) ++ vs ++ (cur.take (c * k)).drop (i * k) := by
  have e1 : (i + 1) * k = i * k + k := Nat.succ_mul i k
  have e2 : (c + 1) * k = c * k + k := Nat.succ_mul c k
  have e3 : i * k + (c - i) * k = c * k := by rw [← Nat.add_mul]; congr 1; omega
  rw [e1, e2]
  clear e1 e2
  generalize (c - i) * k = d at *
  generalize i * k = a at *
  generalize c * k = b at *
  have hd : ((cur.drop a).take d).length = d := by simp; omega
  have ht : (cur.take a ++ Z).take a = cur.take a := List.take_left' (by simp; omega)
  rw [hd, ht, List.take_of_length_le (Nat.le_of_eq hc)]
  have h2 : (cur.take a ++ vs ++ (cur.take a ++ Z).drop (a + vs.length)).take (a + k) = cur.take a ++ vs := List.take_left' (by simp [hl]; omega)
  rw [h2, List.take_left' (by simp [hl]; omega)]
  congr 1
  exact List.take_of_length_le (by simp; omega)

set_option maxRecDepth 100000 in
set_option maxHeartbeats 1000000 in
theorem insert_grow (g n c i vb vc : Nat) (cur : Array Value) (vs : List Value) (w : World) (hg : w.heap[g]? = some (.cells cur 95 (0, 0))) (hcur : cur.size = c * 3) (h1c : ∀ u ∈ cur.toList.take (n * 3), u.oneCell' = true) (hin : i < n) (hnc : n ≤ c) (hcn : c < n + 1) (hn : n ≤ 64) (hl : vs.length = 3) (hvb : w.heap[vb]? = some (.cells vs.toArray 95 (0, 0))) (h1 : ∀ u ∈ vs, u.oneCell' = true) :
    Calls Try.prog 95 #[.slice (some ⟨g, 0, none⟩) n c, .int .i64 i, .slice (some ⟨vb, 0, none⟩) 1 vc] w (InsPost (.slice (some ⟨g, 0, none⟩) n c) ((cur.toList.take (n * 3)).take (i * 3) ++ vs ++ (cur.toList.take (n * 3)).drop (i * 3)) n w) := by
  obtain rfl : c = n := by omega
  have hz2 : ¬ ((i : Int) = (c : Int)) := by omega
  obtain ⟨i0, hi0, hz0, hzs, hzb⟩ := info_parts info95
  have hsz : (Try.prog.info? 95).map (·.size) = some 3 := by kernel_rfl
  have hb4 : ¬ (c = i) := by omega
  have hw0 : IntKind.i64.wrap ((c : Int) + 1) = (c : Int) + 1 := by rw [IntKind.wrap_i64]; omega
  have hw1 : IntKind.i64.wrap ((i : Int) + 1) = (i : Int) + 1 := by rw [IntKind.wrap_i64]; omega
  have hb1 : (0 : Int) ≤ (i : Int) + 1 := by omega
  have htn : ((i : Int) + 1).toNat = i + 1 := by omega
  have hik : i + (c + 1 - i) = c + 1 := by omega
  have hkk : (c : Int) + 1 - (i : Int) = ((c + 1 - i : Nat) : Int) := by omega
  have hold : (Builtin.firstCells i0.size i (.slice (some ⟨g, 0, none⟩) i c)).run Try.prog w.drew = .ok (cur.toList.take (i * 3)).toArray w.drew := by
    rw [hzs]
    exact run_firstCells_some w.drew 3 i ⟨g, 0, none⟩ i c (cur.toList.take (i * 3)) (by rw [List.length_take]; simp; omega) (fun j v hj => by
      rw [Addr.add_lit, Nat.zero_add, blk_cell (w := w.drew) hg]
      rw [List.getElem?_take] at hj
      split at hj
      · simpa using hj
      · cases hj)
  obtain ⟨G, hG⟩ : ∃ G, G = grownCap w (c + 1) c 95 := ⟨_, rfl⟩
  obtain ⟨ROW, hROW⟩ : ∃ ROW : Array Value, ROW = (cur.toList.take (i * 3)).toArray ++ Builtin.zeroCells (Value.agg #[.int .i64 0, .int .i64 0, .int .i64 0]).cells (c + 1 - i) ++ Builtin.zeroCells (Value.agg #[.int .i64 0, .int .i64 0, .int .i64 0]).cells (G - (c + 1)) := ⟨_, rfl⟩
  have hrz : ∀ ty, (Builtin.append_ #[91, 3] ty #[.slice (some ⟨g, 0, none⟩) i c, .int .i64 ((c : Int) + 1 - (i : Int))]).run Try.prog w =
      .ok (.slice (some ⟨w.heap.size, 0, none⟩) (c + 1) G) (w.drew.alloc (.cells ROW 95)) := fun ty => by
    have h := Lib.run_append_grow_zeros w 91 3 ty 95 i0 _ .i64 .i64 Try.underlying91 Try.underlying3 hi0 hz0 (some ⟨g, 0, none⟩) i c (cur.toList.take (i * 3)) hold (c + 1 - i) (by omega) (by omega) (by omega) (by omega) (by rw [hzb]; omega) (by rw [hzb, hik]; exact growslice_fits hcn (by omega))
    rw [hik] at h
    rw [hkk, hROW, hG]
    exact h
  have hGn : c + 1 ≤ G := by rw [hG]; exact grownCap_ge w _ _ _
  have hG63 : G ≤ 9223372036854775807 := by
    have := grownCap_le_maxLen w (c + 1) c 95 (by unfold maxLen; omega)
    rw [← hG] at this
    unfold maxLen at this
    omega
  have hRl : ROW.size = G * 3 := by
    rw [hROW]
    simp [Builtin.zeroCells, Value.cells]
    omega
  obtain ⟨N, hN⟩ : ∃ N, N = w.heap.size := ⟨_, rfl⟩
  rw [← hN] at hrz
  have hgN : g ≠ N := by have := blk_lt hg; omega
  have hvN : vb ≠ N := by have := blk_lt hvb; omega
  obtain ⟨W1, hW1⟩ : ∃ W1, W1 = w.drew.alloc (.cells ROW 95) := ⟨_, rfl⟩
  rw [← hW1] at hrz
  have hN1 : W1.heap[N]? = some (.cells ROW 95 (0, 0)) := by rw [hW1, hN]; exact blk_new w.drew _
  have hg1 : W1.heap[g]? = some (.cells cur 95 (0, 0)) := by rw [hW1]; exact blk_alloc (w := w.drew) hg _
  have hv1 : W1.heap[vb]? = some (.cells vs.toArray 95 (0, 0)) := by rw [hW1]; exact blk_alloc (w := w.drew) hvb _
  obtain ⟨RA, hRA⟩ : ∃ RA, RA = (ROW.toList.take (i * 3) ++ vs ++ ROW.toList.drop (i * 3 + vs.length)) := ⟨_, rfl⟩
  have hRAl : RA.length = G * 3 := by rw [hRA]; simp [hRl, hl]; omega
  have hcpA : ∀ ty dc, (Builtin.copy_ #[91, 91] ty #[.slice (some ⟨N, i * 3, none⟩) (c + 1 - i) dc, .slice (some ⟨vb, 0, none⟩) 1 vc]).run Try.prog W1 = .ok (goInt 1) (W1.setRow N RA.toArray) := fun ty dc => by
    rw [hRA]
    exact run_copyk W1 91 91 ty 95 3 N (i * 3) (c + 1 - i) dc ⟨vb, 0, none⟩ 1 vc ROW 95 vs Try.underlying91 hsz hN1 1 (by simp only [Nat.min_def]; split <;> omega) (by omega)
      (fun j v hj => by rw [Addr.add_lit, blk_cell hv1]; simpa using hj)
      (by omega) h1
  obtain ⟨W2, hW2⟩ : ∃ W2, W2 = W1.setRow N RA.toArray := ⟨_, rfl⟩
  rw [← hW2] at hcpA
  have hN2 : W2.heap[N]? = some (.cells RA.toArray 95 (0, 0)) := by rw [hW2]; exact setRow_heap W1 N _ _ 95 _ hN1
  have hg2 : W2.heap[g]? = some (.cells cur 95 (0, 0)) := by rw [hW2]; exact (setRow_other W1 N g _ hgN).trans hg1
  obtain ⟨cs, hcs⟩ : ∃ cs, cs = (cur.toList.drop (i * 3)).take ((c - i) * 3) := ⟨_, rfl⟩
  have hcl : cs.length = (c - i) * 3 := by rw [hcs]; simp; omega
  obtain ⟨RB, hRB⟩ : ∃ RB, RB = (RA.take ((i + 1) * 3) ++ cs ++ RA.drop ((i + 1) * 3 + cs.length)) := ⟨_, rfl⟩
  have hRBl : RB.length = G * 3 := by rw [hRB]; simp [hRAl, hcl]; omega
  have hcpB : ∀ ty dc sc, (Builtin.copy_ #[91, 91] ty #[.slice (some ⟨N, (i + 1) * 3, none⟩) (c - i) dc, .slice (some ⟨g, i * 3, none⟩) (c - i) sc]).run Try.prog W2.drew = .ok (goInt ((c - i : Nat) : Int)) (W2.drew.setRow N RB.toArray) := fun ty dc sc => by
    rw [hRB]
    exact run_copyk W2.drew 91 91 ty 95 3 N ((i + 1) * 3) (c - i) dc ⟨g, i * 3, none⟩ (c - i) sc RA.toArray 95 cs Try.underlying91 hsz hN2 (c - i) (by simp only [Nat.min_def]; split <;> omega) hcl
      (fun j v hj => by
        rw [Addr.add_lit, blk_cell (w := W2.drew) hg2]
        rw [hcs, List.getElem?_take] at hj
        split at hj
        · rw [List.getElem?_drop] at hj; simpa using hj
        · cases hj)
      (by simp [hRAl]; omega) (fun v hv => h1c v (by rw [hcs] at hv; have e : (cur.toList.take (c * 3)).drop (i * 3) = (cur.toList.drop (i * 3)).take ((c - i) * 3) := (by rw [List.drop_take]; congr 1; omega); rw [← e] at hv; exact List.mem_of_mem_drop hv))
  obtain ⟨ys, hys⟩ : ∃ ys, ys = (cur.toList.take (c * 3)).take (i * 3) ++ vs ++ (cur.toList.take (c * 3)).drop (i * 3) := ⟨_, rfl⟩
  rw [← hys]
  have hGi : ¬ (G = i) := by omega
  have hGim : ¬ (G = i + 1) := by omega
  have hb3 : (i : Int) ≤ (c : Int) + 1 := by omega
  have hb5 : (i : Int) + 1 ≤ (c : Int) + 1 := by omega
  have hb6 : (i : Int) ≤ (c : Int) := by omega
  have HY := Aside0.mk hys; have HW1 := Aside0.mk hW1; have HW2 := Aside0.mk hW2; have HC := Aside0.mk hcs; have HRA := Aside0.mk hRA; have HRB := Aside0.mk hRB; have HROW := Aside0.mk hROW; have HNN := Aside0.mk hN; have HN2 := Aside0.mk hN2; have HL := Aside0.mk hl; have HG := Aside0.mk hG; have HRBl := Aside0.mk hRBl; have HRl := Aside0.mk hRl
  clear hys hW1 hW2 hcs hRA hRB hROW hN hN2 hN1 hg1 hg2 hv1 hRl hRAl hRBl hl hG hcl hi0 hz0 hzs hzb hsz hold hkk hik
  go_enter Try.func95, Try.ntmps95
  go_wp2_with (first | (at_builtin; refine Lib.wpList_append_run _ rfl _ _ _ _ rfl _ _ rfl rfl _ _ (hrz _) ?_) | (at_builtin; refine wpList_copy_runI _ rfl _ _ 91 91 rfl _ _ rfl rfl (hcpA _ _) ?_))
  go_region_law (refine step_copy_runI rfl _ _ 91 91 rfl _ _ (by simp [Act.eval, Act.put]) (by simp [Act.eval, Act.put]) (hcpB _ _ _) ?_)
  go_wp2
  go_ret
  have e3 : w.drew.grownBy W1 none := by rw [HW1.out]; exact World.grownBy_alloc w.drew _ none
  have hblk : ∀ k, k < w.heap.size → (W2.drew.setRow N RB.toArray).heap[k]? = w.heap[k]? := fun k hk => by
    have hkN : k ≠ N := by have := HNN.out; omega
    refine (setRow_other W2.drew N k _ hkN).trans ?_
    show W2.heap[k]? = _
    rw [HW2.out]
    exact (setRow_other W1 N k _ hkN).trans (e3.block k hk (by simp))
  have hl2 : ys.length = (c + 1) * 3 := by rw [HY.out]; simp [HL.out, hcur]; omega
  refine ⟨_, rfl, ⟨hl2, .inr ⟨N, G, RB.toArray, rfl, Nat.zero_le _, setRow_heap W2.drew N _ _ 95 _ HN2.out, hGn, by unfold maxLen; omega, by simp [HRBl.out], ?_⟩⟩, ⟨?_, ?_, ?_, ?_, fun k hk _ => hblk k hk⟩, .inr ⟨N, rfl, Nat.le_of_eq HNN.out.symm⟩⟩
  · rw [HRB.out, HRA.out, HROW.out, HC.out, HY.out]
    have := grow_list cur.toList vs c i 3 (by simp; omega) (by omega) HL.out (Builtin.zeroCells (Value.agg #[.int .i64 0, .int .i64 0, .int .i64 0]).cells (c + 1 - i) ++ Builtin.zeroCells (Value.agg #[.int .i64 0, .int .i64 0, .int .i64 0]).cells (G - (c + 1))).toList
    simpa using this
  · rw [World.setRow, World.drew]; show W2.os = _; rw [HW2.out]; exact e3.os
  · show W2.tape = _; rw [HW2.out]; exact e3.tape
  · show W2.output = _; rw [HW2.out]; exact e3.output
  · have h5 := e3.size
    have : W2.heap.size = W1.heap.size := by rw [HW2.out]; simp [World.setRow]
    simp only [World.setRow, Array.size_modify]
    show _ ≤ W2.heap.size
    rw [this]; exact h5

theorem insert_any (v : Value) (n i vb vc : Nat) (xs vs : List Value) (w : World) (ho : w.ownsRow 0 95 3 v n xs) (h1x : ∀ u ∈ xs, u.oneCell' = true) (hin : i ≤ n) (hn : n ≤ 64) (hl : vs.length = 3) (hvb : w.heap[vb]? = some (.cells vs.toArray 95 (0, 0))) (hne : v.ownBlock ≠ some vb) (h1 : ∀ u ∈ vs, u.oneCell' = true) :
    Calls Try.prog 95 #[v, .int .i64 i, .slice (some ⟨vb, 0, none⟩) 1 vc] w (InsPost v (xs.take (i * 3) ++ vs ++ xs.drop (i * 3)) n w) := by
  by_cases hi : i = n
  · subst hi
    have hx := ho.1
    rw [List.take_of_length_le (by omega), List.drop_eq_nil_of_le (by omega), List.append_nil]
    exact insert_end v i vb vc xs vs w ho hn hl (fun j u hj => by rw [blk_cell hvb]; simpa using hj) h1
  · rcases ho.2 with ⟨_, h⟩ | ⟨g, c, cur, rfl, _, hg, hnc, hcm, hcs, htk⟩
    · omega
    · unfold maxLen at hcm
      subst htk
      by_cases hroom : n + 1 ≤ c
      · exact insert_shift g n c i vb vc cur vs w hg hcs h1x (by omega) hroom (by omega) hn hl hvb (fun e => hne (by rw [e]; rfl)) h1
      · exact insert_grow g n c i vb vc cur vs w hg hcs h1x (by omega) hnc (by omega) hn hl hvb h1

end Go.Proofs.Ytmnpmjphhkiedaa.LF
