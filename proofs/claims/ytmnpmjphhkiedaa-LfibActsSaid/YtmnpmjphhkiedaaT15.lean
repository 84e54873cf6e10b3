import Derived.Test.YtmnpmjphhkiedaaT14
import Derived.Deep.RegionLaw
namespace Go.Proofs.Ytmnpmjphhkiedaa.LF
open Go.RowKit Go.Proofs.YtmnpmjphhkiedaaW.PrintWords Go.Proofs.YtmnpmjphhkiedaaW.PrintLast Go.Proofs.YtmnpmjphhkiedaaW.PrintMore Go.Proofs.Ytmnpmjphhkiedaa.PLfibActs Go.Proofs.Ytmnpmjphhkiedaa.Lib

/-- 'clear' of one row. -/
theorem run_clear_one (w : World) (ty : TypeId) (g o c : Nat) (hc : ∀ j, j < 3 → (w.cell? ⟨g, o + j, none⟩).isSome = true) (hf : ∀ j, j < 3 → w.frozen? ⟨g, o + j, none⟩ = false) :
    (Builtin.clear_ #[91] ty #[.slice (some ⟨g, o, none⟩) 1 c]).run Try.prog w = .ok (.tuple #[]) (w.setCells g o [.int .i64 0, .int .i64 0, .int .i64 0]) := by
  have hz : ∀ w, (zeroValue 95).run Try.prog w = .ok (.agg #[.int .i64 0, .int .i64 0, .int .i64 0]) w := fun w => by kernel_rfl
  have hst := run_storeCells_cells (P := Try.prog) g o [.int .i64 0, .int .i64 0, .int .i64 0] 0 w (by simpa using hc) (by simpa using hf) (by intro v hv; simp at hv; subst hv; rfl)
  simp only [Nat.add_zero] at hst
  have hzc : (Builtin.zeroCells (Value.agg #[.int .i64 0, .int .i64 0, .int .i64 0]).cells 1).toList = [.int .i64 0, .int .i64 0, .int .i64 0] := by simp [Builtin.zeroCells, Value.cells, List.range_succ]
  simp [Builtin.clear_, run_underlying Try.underlying91, hz, hzc, hst]

theorem chg_cells {g : Nat} {a b : World} (h : Chg (fun k => k = g) a b) (o : Nat) (vs : List Value) : Chg (fun k => k = g) a (b.setCells g o vs) := by
  obtain ⟨h1, h2, h3, h4⟩ := setCells_same g vs o b
  exact ⟨h1.trans h.os, h2.trans h.tape, h3.trans h.output, by rw [h4]; exact h.size, fun k hk hn => (setCells_far vs o k hn).trans (h.block k hk hn)⟩

set_option maxRecDepth 100000 in
set_option maxHeartbeats 2000000 in
theorem delete_any (g n c i : Nat) (cur : Array Value) (w : World) (hg : w.heap[g]? = some (.cells cur 95 (0, 0))) (hcs : cur.size = c * 3) (h1c : ∀ u ∈ cur.toList.take (n * 3), u.oneCell' = true) (hin : i < n) (hnc : n ≤ c) (hn : n ≤ 64) (hc63 : c ≤ 9223372036854775807) :
    Calls Try.prog 106 #[.slice (some ⟨g, 0, none⟩) n c, .int .i64 i, .int .i64 ((i : Int) + 1)] w fun e w' => e = .returned (.slice (some ⟨g, 0, none⟩) (n - 1) c) ∧ Chg (fun k => k = g) w w' ∧
      ∃ cur', w'.heap[g]? = some (.cells cur' 95 (0, 0)) ∧ cur'.size = c * 3 ∧ cur'.toList.take ((n - 1) * 3) = cur.toList.take (i * 3) ++ (cur.toList.take (n * 3)).drop ((i + 1) * 3) := by
  obtain ⟨i0, hi, hz0, hz1, hz2⟩ := info_parts info95
  obtain ⟨mv, hmv⟩ : ∃ mv, mv = (cur.toList.take (n * 3)).drop ((i + 1) * 3) := ⟨_, rfl⟩
  have hml : mv.length = (n - (i + 1)) * 3 := by rw [hmv]; simp [hcs]; omega
  have hgD : w.drew.heap[g]? = some (.cells cur 95 (0, 0)) := hg
  obtain ⟨A, hA, hnews⟩ : ∃ A : Addr, (if c = i + 1 then some (⟨g, 0, none⟩ : Addr) else some ⟨g, (i + 1) * 3, none⟩) = some A ∧ Hid (∀ j u, mv[j]? = some u → w.drew.cell? (A.add j) = some u) := by
    by_cases h : c = i + 1
    · refine ⟨⟨g, 0, none⟩, by simp [h], fun j u hu => ?_⟩
      have h0 : mv.length = 0 := by rw [hml]; omega
      rw [List.length_eq_zero_iff.1 h0] at hu
      simp at hu
    · refine ⟨⟨g, (i + 1) * 3, none⟩, by simp [h], fun j u hu => ?_⟩
      rw [Addr.add_lit, blk_cell hgD]
      rw [hmv, List.getElem?_drop, List.getElem?_take] at hu
      split at hu
      · simpa using hu
      · cases hu
  have s1 : Hid (mv.length = (n - (i + 1)) * 3) := hml
  have s2 : Hid (∀ u ∈ mv, u.oneCell' = true) := fun u hu => h1c u (by rw [hmv] at hu; exact List.mem_of_mem_drop hu)
  have s3 : Hid (∀ j, j < mv.length → (w.drew.cell? ⟨g, 0 + i * 3 + j, none⟩).isSome = true ∧ w.drew.frozen? ⟨g, 0 + i * 3 + j, none⟩ = false) := fun j hj => by
    rw [hml] at hj
    refine ⟨?_, blk_frozen hgD _⟩
    rw [blk_cell hgD]
    simp [hcs]; omega
  have HMV := Aside0.mk hmv
  have HCS := Aside0.mk hcs; have HG := Aside0.mk hg
  have hic : i ≤ c := by omega
  have hp0 : (0 : Int) ≤ (i : Int) + 1 := by omega
  have hp1 : (i : Int) + 1 ≤ (n : Int) := by omega
  have hp2 : ((i : Int) + 1).toNat = i + 1 := by omega
  have hp3 : (n : Int) ≤ (c : Int) := by omega
  have hp4 : (i : Int) ≤ (i : Int) + 1 := by omega
  have hp5 : ¬ ((i : Int) = (i : Int) + 1) := by omega
  have hp6 : (i : Int) ≤ (c : Int) := by omega
  have hp7 : (i : Int) + 1 ≤ (c : Int) := by omega
  clear hmv hml hgD h1c hg hcs
  go_enter Try.func106, Try.ntmps106
  go_wp2_with fail
  go_region_law (refine step_append_room rfl (.tmp 22) (.tmp 25) 91 rfl 95 i0 3 Try.underlying91 hi hz1 g 0 i c (by simp [Act.eval, Act.put]) A (n - (i + 1)) (c - (i + 1)) mv (by simp [Act.eval, Act.put]) s1.out hnews.out s2.out (by omega) s3.out ?_)
  obtain ⟨w1, hw1⟩ : ∃ w1, w1 = w.drew.setCells g (i * 3) mv := ⟨_, rfl⟩
  rw [← hw1]
  obtain ⟨cur1, k1, k2, k3⟩ := setCells_row mv (i * 3) w.drew cur HG.out (by have := s1.out; have := HCS.out; omega)
  rw [← hw1] at k1
  have K1 := Aside0.mk k1
  have hnn : i + (n - (i + 1)) = n - 1 := by omega
  have q1 : ((n - 1 : Nat) : Int) ≤ (n : Int) := by omega
  have q2 : ¬ c = n - 1 := by omega
  have q3 : n - (n - 1) = 1 := by omega
  have hclr : ∀ ty dc, (Builtin.clear_ #[91] ty #[.slice (some ⟨g, (n - 1) * 3, none⟩) 1 dc]).run Try.prog w1 = .ok (.tuple #[]) (w1.setCells g ((n - 1) * 3) [.int .i64 0, .int .i64 0, .int .i64 0]) := fun ty dc =>
    run_clear_one w1 ty g ((n - 1) * 3) dc (fun j hj => by rw [blk_cell K1.out]; have := HCS.out; simp [k2]; omega) (fun j hj => blk_frozen K1.out _)
  rw [hnn]
  have HK := Aside0.mk (And.intro k2 k3)
  have HW1 := Aside0.mk hw1
  clear k1 k2 k3 hw1
  go_wp2_with fail
  go_ret
  obtain ⟨cur2, j1, j2, j3⟩ := setCells_row [.int .i64 0, .int .i64 0, .int .i64 0] ((n - 1) * 3) w1 cur1 K1.out (by have := HK.out.1; have := HCS.out; simp only [List.length_cons, List.length_nil]; omega)
  have hs := HCS.out
  have hk := HK.out.1
  refine ⟨rfl, ?_, cur2, j1, by omega, ?_⟩
  · refine chg_cells ?_ _ _
    rw [HW1.out]
    exact chg_cells ((Chg.refl _ w).drew) _ _
  · have hml : mv.length = (n - (i + 1)) * 3 := s1.out
    rw [j3, List.append_assoc, List.take_left' (by simp; omega), HK.out.2, ← HMV.out]
    exact List.take_left' (by simp [hml]; omega)
end Go.Proofs.Ytmnpmjphhkiedaa.LF
