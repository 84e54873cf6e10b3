import Derived.Test.YtmnpmjphhkiedaaT18
namespace Go.Proofs.Ytmnpmjphhkiedaa.LF
open Go.RowKit Go.Proofs.YtmnpmjphhkiedaaW.PrintWords Go.Proofs.YtmnpmjphhkiedaaW.PrintLast Go.Proofs.YtmnpmjphhkiedaaW.PrintMore Go.Proofs.Ytmnpmjphhkiedaa.PLfibActs Go.Proofs.Ytmnpmjphhkiedaa.Lib

/-- A table that no call made. -/
def Bad (w : World) (a : Option Addr) : Prop := a = none ∨ ∃ tb, a = some ⟨tb, 0, none⟩ ∧ w.cell? ⟨tb, 4, none⟩ = some (.bool false)
theorem Bad.below {a b : World} {p : Option Addr} (h : Bad a p) (hb : Below a.heap.size a b) : Bad b p := by
  rcases h with h | ⟨tb, h, hc⟩
  · exact .inl h
  · exact .inr ⟨tb, h, (hb.cell (World.block_lt_of_cell? a _ hc)).trans hc⟩
theorem good_bad (a : Option Addr) (w : World) (h : Bad w a) : Calls Try.prog 56 #[.pointer a] w fun e w' => e = .returned (.bool false) ∧ w = w' := by
  rcases h with rfl | ⟨tb, rfl, h⟩
  · go_enter Try.func56, Try.ntmps56
    go_wp2
    go_ret
    exact ⟨rfl, rfl⟩
  · go_enter Try.func56, Try.ntmps56
    go_wp2
    go_ret
    exact ⟨rfl, rfl⟩
set_option maxRecDepth 100000 in
set_option maxHeartbeats 1000000 in
theorem bind_bad (a : Option Addr) (t n l : Int) (w : World) (h : Bad w a) : Calls Try.prog 13 #[.pointer a, .int .i64 t, .agg #[.int .i64 n, .int .i64 l]] w fun e w' => e = .returned (.int .i64 1) ∧ Below w.heap.size w w' := by
  obtain ⟨w0, hw0⟩ : ∃ w0, w0 = w.alloc (.cells #[.int .i64 n, .int .i64 l] 32) := ⟨_, rfl⟩
  have HB0 : Aside0 (Below w.heap.size w w0) := ⟨by rw [hw0]; exact (Below.refl _ _).alloc (Nat.le_refl _) _⟩
  have HB := Aside0.mk (h.below HB0.out)
  clear h
  go_enter Try.func13, Try.ntmps13
  go_wp2_with fail
  rw [← hw0]
  clear hw0
  refine (good_bad _ _ HB.out).mono ?_
  rintro e w1 ⟨rfl, rfl⟩
  go_wp2
  go_ret
  exact ⟨rfl, HB0.out⟩
set_option maxRecDepth 100000 in
set_option maxHeartbeats 1000000 in
theorem map_bad (a : Option Addr) (t n l : Int) (w : World) (h : Bad w a) : Calls Try.prog 14 #[.pointer a, .int .i64 t, .agg #[.int .i64 n, .int .i64 l]] w fun e w' => e = .returned (.int .i64 1) ∧ Below w.heap.size w w' := by
  obtain ⟨w0, hw0⟩ : ∃ w0, w0 = w.alloc (.cells #[.int .i64 n, .int .i64 l] 32) := ⟨_, rfl⟩
  have HB0 : Aside0 (Below w.heap.size w w0) := ⟨by rw [hw0]; exact (Below.refl _ _).alloc (Nat.le_refl _) _⟩
  have HB := Aside0.mk (h.below HB0.out)
  clear h
  go_enter Try.func14, Try.ntmps14
  go_wp2_with fail
  rw [← hw0]
  clear hw0
  refine (good_bad _ _ HB.out).mono ?_
  rintro e w1 ⟨rfl, rfl⟩
  go_wp2
  go_ret
  exact ⟨rfl, HB0.out⟩
set_option maxRecDepth 100000 in
set_option maxHeartbeats 1000000 in
theorem free_bad (a : Option Addr) (t : Int) (w : World) (h : Bad w a) : Calls Try.prog 48 #[.pointer a, .int .i64 t] w fun e w' => e = .returned (.int .i64 1) ∧ Below w.heap.size w w' := by
  have HB := Aside0.mk h
  clear h
  go_enter Try.func48, Try.ntmps48
  go_wp2_with fail
  refine (good_bad _ _ HB.out).mono ?_
  rintro e w1 ⟨rfl, rfl⟩
  go_wp2
  go_ret
  exact ⟨rfl, Below.refl _ _⟩
set_option maxRecDepth 100000 in
set_option maxHeartbeats 1000000 in
theorem unmap_bad (a : Option Addr) (t : Int) (w : World) (h : Bad w a) : Calls Try.prog 52 #[.pointer a, .int .i64 t] w fun e w' => e = .returned (.int .i64 1) ∧ Below w.heap.size w w' := by
  have HB := Aside0.mk h
  clear h
  go_enter Try.func52, Try.ntmps52
  go_wp2_with fail
  refine (good_bad _ _ HB.out).mono ?_
  rintro e w1 ⟨rfl, rfl⟩
  go_wp2
  go_ret
  exact ⟨rfl, Below.refl _ _⟩
set_option maxRecDepth 100000 in
set_option maxHeartbeats 1000000 in
theorem labels_bad (a : Option Addr) (w : World) (h : Bad w a) : Calls Try.prog 44 #[.pointer a] w fun e w' => e = .returned (.slice none 0 0) ∧ Below w.heap.size w w' := by
  have HB := Aside0.mk h
  clear h
  go_enter Try.func44, Try.ntmps44
  go_wp2_with fail
  refine (good_bad _ _ HB.out).mono ?_
  rintro e w1 ⟨rfl, rfl⟩
  go_wp2
  go_ret
  exact ⟨rfl, Below.refl _ _⟩
set_option maxRecDepth 100000 in
set_option maxHeartbeats 1000000 in
theorem tunnels_bad (a : Option Addr) (w : World) (h : Bad w a) : Calls Try.prog 45 #[.pointer a] w fun e w' => e = .returned (.slice none 0 0) ∧ Below w.heap.size w w' := by
  have HB := Aside0.mk h
  clear h
  go_enter Try.func45, Try.ntmps45
  go_wp2_with fail
  refine (good_bad _ _ HB.out).mono ?_
  rintro e w1 ⟨rfl, rfl⟩
  go_wp2
  go_ret
  exact ⟨rfl, Below.refl _ _⟩

set_option maxRecDepth 100000 in
set_option maxHeartbeats 1000000 in
theorem step_unmade (a : Option Addr) (A : Option Addr) (c : Nat) (p : Pkt) (w : World) (h : Bad w a) :
    Calls Try.prog 16 #[.pointer a, .agg #[.slice A p.st.length c, .int .i64 p.tun, .int .i64 p.ttl, .string p.pay]] w (StepPost (0, noPkt, 1) w) := by
  obtain ⟨w0, hw0⟩ : ∃ w0, w0 = (w.alloc (.cells #[.slice A p.st.length c, .int .i64 p.tun, .int .i64 p.ttl, .string p.pay] 25)).alloc (.cells #[.slice none 0 0, .int .i64 0, .int .i64 0, .string ⟨#[]⟩] 25) := ⟨_, rfl⟩
  have HB0 : Aside0 (Below w.heap.size w w0) := ⟨by rw [hw0]; exact below_two⟩
  have HQ : Aside0 (w0.heap[w.heap.size + 1]? = some (.cells #[.slice none 0 0, .int .i64 0, .int .i64 0, .string ⟨#[]⟩] 25 (0, 0))) := ⟨by rw [hw0]; have := blk_new (w.alloc (.cells #[.slice A p.st.length c, .int .i64 p.tun, .int .i64 p.ttl, .string p.pay] 25)) (.cells #[.slice none 0 0, .int .i64 0, .int .i64 0, .string ⟨#[]⟩] 25); simpa using this⟩
  have HB := Aside0.mk (h.below HB0.out)
  clear h
  go_enter Try.func16, Try.ntmps16
  go_wp2_with fail
  rw [← hw0]
  clear hw0
  refine (good_bad _ _ HB.out).mono ?_
  rintro e w1 ⟨rfl, rfl⟩
  obtain ⟨q0, q1, q2, q3, f0, f1, f2, f3⟩ := blk4 HQ.out
  go_wp2
  refine bodyPost_ret (results_tct rfl _ _ (w.heap.size + 1) 25 #[.slice none 0 0, .int .i64 0, .int .i64 0, .string ⟨#[]⟩] (0, 0) _ rfl (blk_set (blk_set (blk_set (blk_set HQ.out 0 _) 1 _) 2 _) 3 _) Try.underlying25 rfl (by kernel_rfl)) rfl ?_
  exact step_err (below_set (below_set (below_set (below_set HB0.out (by omega)) (by omega)) (by omega)) (by omega))
end Go.Proofs.Ytmnpmjphhkiedaa.LF
