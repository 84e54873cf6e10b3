import Derived.Test.YtmnpmjphhkiedaaT1
namespace Go.Proofs.Ytmnpmjphhkiedaa.LF
open Go.RowKit Go.Proofs.YtmnpmjphhkiedaaW.PrintWords Go.Proofs.YtmnpmjphhkiedaaW.PrintLast Go.Proofs.YtmnpmjphhkiedaaW.PrintMore Go.Proofs.Ytmnpmjphhkiedaa.PLfibActs

set_option maxRecDepth 100000 in
set_option maxHeartbeats 400000 in
theorem find_any (p : Addr) (A : Option Addr) (c : Nat) (L : List S95) (t : Int) (w : World) (hp : w.cell? p = some (.slice A L.length c)) (hr : Kd.C k95 w A L.length L) (hg : Good L) (t1 : -9223372036854775808 ≤ t) (t2 : t ≤ 9223372036854775807) :
    Calls Try.prog 94 #[.pointer (some p), .int .i64 t] w (SrchPost L t w) := by
  have HR := Aside0.mk hr
  have HG := Aside0.mk hg
  clear hr hg
  go_enter Try.func94, Try.ntmps94
  go_wp2_with (go_at_call 109; refine (bsearch_any _ _ _ _ _ HR.out HG.out t1 t2).mono ?_; rintro e w1 ⟨q, y, rfl, hs, hb⟩; have HS := Aside0.mk hs; clear hs)
  go_ret2
  exact ⟨q, y, rfl, HS.out, hb⟩

/-- What stands under a number. -/
def lk (L : List S95) (t : Int) : Option S32 := (L.find? (fun r => r.f0 == t)).map (·.f1)

theorem lk_yes {L : List S95} {t : Int} {p : Nat} (hg : Good L) (h : Srch L t p true) : p < L.length ∧ lk L t = some (r95 L p).f1 := by
  obtain ⟨h1, h2, _⟩ := h
  obtain ⟨hp, ht⟩ := h2.1 rfl
  refine ⟨hp, ?_⟩
  have hx : r95 L p = L[p] := by simp [r95, hp]
  unfold lk
  rw [Option.map_eq_some_iff]
  refine ⟨r95 L p, ?_, rfl⟩
  rw [hx, List.find?_eq_some_iff_getElem]
  refine ⟨by rw [← hx]; simpa using ht, p, hp, rfl, fun j hj => ?_⟩
  have := hg.2.2 j p hj hp
  have e1 : r95 L j = L[j]'(by omega) := by simp [r95, show j < L.length by omega]
  rw [e1, ht] at this
  simp only [Bool.not_eq_true', beq_eq_false_iff_ne]; omega
theorem lk_no {L : List S95} {t : Int} {p : Nat} (hg : Good L) (h : Srch L t p false) : lk L t = none := by
  obtain ⟨h1, h2, h3⟩ := h
  unfold lk
  rw [Option.map_eq_none_iff, List.find?_eq_none]
  intro r hr
  obtain ⟨j, hj, rfl⟩ := List.getElem_of_mem hr
  have e1 : r95 L j = L[j] := by simp [r95, hj]
  simp only [beq_iff_eq]
  intro ht
  have hb := hg.2.1 j hj
  rw [e1, ht] at hb
  obtain ⟨a, b⟩ := h3 hb.1 hb.2
  have hjp : p ≤ j := by
    by_cases hlt : j < p
    · have := a j hlt; rw [e1, ht] at this; omega
    · omega
  have hp : p < L.length := by omega
  have hle : (r95 L p).f0 ≤ t := by
    by_cases e : p = j
    · rw [e, e1, ht]; exact Int.le_refl _
    · have := hg.2.2 p j (by omega) hj; rw [e1, ht] at this; omega
  have := b p (Nat.le_refl _) hp
  have := h2.2 ⟨hp, by omega⟩
  simp at this

def GetPost (L : List S95) (t : Int) (w : World) (e : Ending) (w' : World) : Prop :=
  e = .returned (.tuple #[.agg #[.int .i64 ((lk L t).getD z32).f0, .int .i64 ((lk L t).getD z32).f1], .bool (lk L t).isSome]) ∧ Below w.heap.size w w'

set_option maxRecDepth 100000 in
set_option maxHeartbeats 400000 in
theorem get_any (p : Addr) (A : Option Addr) (c : Nat) (L : List S95) (t : Int) (w : World) (hp : w.cell? p = some (.slice A L.length c)) (hr : Kd.C k95 w A L.length L) (hg : Good L) (t1 : -9223372036854775808 ≤ t) (t2 : t ≤ 9223372036854775807) :
    Calls Try.prog 62 #[.pointer (some p), .int .i64 t] w (GetPost L t w) := by
  have HG := Aside0.mk hg
  have hb0 : Below w.heap.size w (w.alloc (.cells #[.int .i64 0, .int .i64 0] 32)) := (Below.refl _ _).alloc (Nat.le_refl _) _
  have HR := Aside0.mk (Kd.C_below hr hb0)
  have hplt := World.block_lt_of_cell? w _ hp
  have HP := Aside0.mk ((hb0.cell hplt).trans hp)
  have HB0 := Aside0.mk hb0
  have HK := Aside0.mk (blk_new w (.cells #[.int .i64 0, .int .i64 0] 32))
  clear hr hg hb0
  go_enter Try.func62, Try.ntmps62
  go_wp2_with fail
  refine (find_any _ _ _ _ _ _ HP.out HR.out HG.out t1 t2).mono ?_
  rintro e w1 ⟨q, y, rfl, hs, hb⟩
  have HS := Aside0.mk hs
  clear hs
  have HK1 := Aside0.mk (blk_below HK.out hb)
  have k0 : w1.cell? ⟨w.heap.size, 0, none⟩ = some (.int .i64 0) := (blk_cell HK1.out 0).trans rfl
  have k1 : w1.cell? ⟨w.heap.size, 1, none⟩ = some (.int .i64 0) := (blk_cell HK1.out 1).trans rfl
  have f0 := blk_frozen HK1.out 0
  have f1 := blk_frozen HK1.out 1
  have HB1 := Aside0.mk (below_step HB0.out hb)
  have hp1 := (HB1.out.cell hplt).trans hp
  clear hp
  cases y with
  | false =>
    have hl := lk_no HG.out HS.out
    have HL := Aside0.mk hl
    clear hl
    go_wp2
    refine bodyPost_ret (results_ct rfl _ _ w.heap.size 32 #[.int .i64 0, .int .i64 0] (0, 0) _ rfl (blk_set (blk_set HK1.out 0 _) 1 _) Try.underlying32 rfl (by kernel_rfl)) rfl ⟨by rw [HL.out]; rfl, below_set (below_set HB1.out (Nat.le_refl _)) (Nat.le_refl _)⟩
  | true =>
    obtain ⟨hq, hl⟩ := lk_yes HG.out HS.out
    have HL := Aside0.mk hl
    clear hl
    obtain ⟨ad, e, c0, c1, c2⟩ := at95 HR.out hb q hq
    cases e
    go_wp2
    refine bodyPost_ret (results_ct rfl _ _ w.heap.size 32 #[.int .i64 (r95 L q).f1.f0, .int .i64 (r95 L q).f1.f1] (0, 0) _ rfl (blk_set (blk_set HK1.out 0 _) 1 _) Try.underlying32 rfl (by kernel_rfl)) rfl ⟨by rw [HL.out]; rfl, below_set (below_set HB1.out (Nat.le_refl _)) (Nat.le_refl _)⟩
end Go.Proofs.Ytmnpmjphhkiedaa.LF
