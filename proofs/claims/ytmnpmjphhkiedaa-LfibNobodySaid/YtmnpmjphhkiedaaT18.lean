import Derived.Test.YtmnpmjphhkiedaaT17
import Derived.Test.YtmnpmjphhkiedaaPLfibActsx1
namespace Go.Proofs.Ytmnpmjphhkiedaa.LF
open Go.RowKit Go.Proofs.YtmnpmjphhkiedaaW.PrintWords Go.Proofs.YtmnpmjphhkiedaaW.PrintLast Go.Proofs.YtmnpmjphhkiedaaW.PrintMore Go.Proofs.Ytmnpmjphhkiedaa.PLfibActs Go.Proofs.Ytmnpmjphhkiedaa.Lib

/-- Are rows the same? -/
def eqR (x y : S95) : Bool := x.f0 == y.f0 && (x.f1.f0 == y.f1.f0 && x.f1.f1 == y.f1.f1)
theorem eqR_iff (x y : S95) : eqR x y = true ↔ x = y := by
  obtain ⟨a, b, c⟩ := x
  obtain ⟨a', b', c'⟩ := y
  simp [eqR]
instance : DecidableEq S95 := fun x y => decidable_of_iff _ (eqR_iff x y)
def sameL (L M : List S95) : Bool := decide (L = M)
theorem take_next {L M : List S95} {k : Nat} (hl : L.length = M.length) (h : L.take k = M.take k) (hk : k < L.length) (he : r95 L k = r95 M k) : L.take (k + 1) = M.take (k + 1) := by
  have hk' : k < M.length := by omega
  have e1 : r95 L k = L[k] := by simp [r95, hk]
  have e2 : r95 M k = M[k] := by simp [r95, hk']
  rw [e1, e2] at he
  rw [List.take_add_one, List.take_add_one, h, List.getElem?_eq_getElem hk, List.getElem?_eq_getElem hk', he]

set_option maxRecDepth 100000 in
set_option maxHeartbeats 1600000 in
theorem same_any (A B : Option Addr) (c d : Nat) (L M : List S95) (w : World) (hr : Kd.C k95 w A L.length L) (hs : Kd.C k95 w B M.length M) (hl : L.length ≤ 64) (hm : M.length ≤ 64) :
    Calls Try.prog 46 #[.slice A L.length c, .slice B M.length d] w fun e w' => e = .returned (.bool (sameL L M)) ∧ Below w.heap.size w w' := by
  have HR := Aside0.mk hr
  have HS := Aside0.mk hs
  clear hr hs
  by_cases hlen : L.length = M.length
  · have hll : (L.length : Int) = (M.length : Int) := by omega
    have HLL := Aside0.mk hlen
    go_enter Try.func46, Try.ntmps46
    go_wp2_with fail
    clear hlen
    go_loopw [13] (fun v13 wr => ∃ k : Nat, k ≤ L.length ∧ v13 = .int .i64 k ∧ Aside0 (L.take k = M.take k) ∧ Aside0 (Below w.heap.size w wr)) (fun v13 _ => L.length - (intOf v13).toNat)
    case atStart => exact ⟨0, Nat.zero_le _, rfl, ⟨by simp⟩, ⟨Below.refl _ _⟩⟩
    case round =>
      obtain ⟨k, hk, rfl, HK, HB⟩ := hrel
      by_cases hlt : k < L.length
      · obtain ⟨ad, e, c0, c1, c2⟩ := at95 HR.out HB.out k hlt
        cases e
        obtain ⟨ad', e, d0, d1, d2⟩ := at95 HS.out HB.out k (by have := HLL.out; omega)
        cases e
        have hq := eqA95
        have hk2 : k < M.length := by have := HLL.out; omega
        go_wp2_with fail
        cases he : eqR (r95 L k) (r95 M k) with
        | false =>
          have HE := Aside0.mk he
          have hee : ((r95 L k).f0 == (r95 M k).f0 && ((r95 L k).f1.f0 == (r95 M k).f1.f0 && (r95 L k).f1.f1 == (r95 M k).f1.f1)) = false := he
          clear he
          go_quiet (fail)
          go_wp2
          go_ret
          refine ⟨?_, pw_below_drewN HB.out nq⟩
          have hne : ¬ L = M := fun h => by
            have := HE.out
            rw [h, (eqR_iff _ _).2 rfl] at this
            cases this
          simp [sameL, hne]
        | true =>
          have HE := Aside0.mk he
          have hee : ((r95 L k).f0 == (r95 M k).f0 && ((r95 L k).f1.f0 == (r95 M k).f1.f0 && (r95 L k).f1.f1 == (r95 M k).f1.f1)) = true := he
          clear he
          go_quiet (fail)
          go_wp2
          go_roundw
          case rel => exact ⟨k + 1, hlt, rfl, ⟨take_next HLL.out HK.out hlt ((eqR_iff _ _).1 HE.out)⟩, ⟨pw_below_drewN HB.out nq⟩⟩
          case measure => simp [intOf]; omega
      · go_wp2_with fail
        go_ret
        have h := HK.out
        rw [List.take_of_length_le (by omega), List.take_of_length_le (by have := HLL.out; omega)] at h
        exact ⟨by simp [sameL, h], HB.out⟩
  · have hll : ¬ ((L.length : Int) = (M.length : Int)) := by omega
    have HLL := Aside0.mk hlen
    clear hlen
    go_enter Try.func46, Try.ntmps46
    go_wp2
    go_ret
    exact ⟨by have := HLL.out; simp [sameL]; intro h; exact this (by rw [h]), Below.refl _ _⟩

def hasL (L : List S95) (x : S95) : Bool := decide (x ∈ L)
set_option maxRecDepth 100000 in
set_option maxHeartbeats 1600000 in
theorem has_any (A : Option Addr) (c : Nat) (L : List S95) (x : S95) (w : World) (hr : Kd.C k95 w A L.length L) (hl : L.length ≤ 64) :
    Calls Try.prog 47 #[.slice A L.length c, .agg #[.int .i64 x.f0, .int .i64 x.f1.f0, .int .i64 x.f1.f1]] w fun e w' => e = .returned (.bool (hasL L x)) ∧ Below w.heap.size w w' := by
  obtain ⟨w0, hw0⟩ : ∃ w0, w0 = w.alloc (.cells #[.int .i64 x.f0, .int .i64 x.f1.f0, .int .i64 x.f1.f1] 95) := ⟨_, rfl⟩
  have hb0 : Below w.heap.size w w0 := by rw [hw0]; exact (Below.refl _ _).alloc (Nat.le_refl _) _
  have HB0 := Aside0.mk hb0
  have HX0 : Aside0 (w0.heap[w.heap.size]? = some (.cells #[.int .i64 x.f0, .int .i64 x.f1.f0, .int .i64 x.f1.f1] 95 (0, 0))) := ⟨by rw [hw0]; exact blk_new w _⟩
  have HR := Aside0.mk hr
  have hq := eqA95
  clear hr hb0
  go_enter Try.func47, Try.ntmps47
  go_wp2_with fail
  rw [← hw0]
  clear hw0
  go_loopw [9] (fun v9 wr => ∃ k : Nat, k ≤ L.length ∧ v9 = .int .i64 k ∧ Aside0 (∀ j, j < k → r95 L j ≠ x) ∧ Aside0 (Below w.heap.size w wr) ∧ Aside0 (wr.heap[w.heap.size]? = some (.cells #[.int .i64 x.f0, .int .i64 x.f1.f0, .int .i64 x.f1.f1] 95 (0, 0)))) (fun v9 _ => L.length - (intOf v9).toNat)
  case atStart => exact ⟨0, Nat.zero_le _, rfl, ⟨fun j h => absurd h (Nat.not_lt_zero _)⟩, HB0, HX0⟩
  case round =>
    clear HB0 HX0
    obtain ⟨k, hk, rfl, HK, HB, HX⟩ := hrel
    by_cases hlt : k < L.length
    · obtain ⟨ad, e, c0, c1, c2⟩ := at95 HR.out HB.out k hlt
      cases e
      have hbl := HB.out.size
      obtain ⟨y0, y1, y2, _, _, _⟩ := blk3 HX.out
      have z0 : ∀ o, (wr.alloc o).cell? ⟨w.heap.size, 0, none⟩ = some (.int .i64 x.f0) := fun o => Lib.cell?_alloc_some _ y0
      have z1 : ∀ o, (wr.alloc o).cell? ⟨w.heap.size, 1, none⟩ = some (.int .i64 x.f1.f0) := fun o => Lib.cell?_alloc_some _ y1
      have z2 : ∀ o, (wr.alloc o).cell? ⟨w.heap.size, 2, none⟩ = some (.int .i64 x.f1.f1) := fun o => Lib.cell?_alloc_some _ y2
      cases he : eqR (r95 L k) x with
      | true =>
        have HE := Aside0.mk he
        have hee : ((r95 L k).f0 == x.f0 && ((r95 L k).f1.f0 == x.f1.f0 && (r95 L k).f1.f1 == x.f1.f1)) = true := he
        clear he
        go_wp2_with fail
        go_ret
        refine ⟨?_, HB.out.alloc HB.out.size _⟩
        have hx : x ∈ L := by
          have := (eqR_iff _ _).1 HE.out
          rw [← this]
          simp [r95, hlt]
        simp [hasL, hx]
      | false =>
        have HE := Aside0.mk he
        have hee : ((r95 L k).f0 == x.f0 && ((r95 L k).f1.f0 == x.f1.f0 && (r95 L k).f1.f1 == x.f1.f1)) = false := he
        clear he
        go_wp2_with fail
        go_roundw
        case rel =>
          refine ⟨k + 1, hlt, rfl, ⟨fun j hj => ?_⟩, ⟨HB.out.alloc HB.out.size _⟩, ⟨blk_alloc HX.out _⟩⟩
          rcases Nat.lt_succ_iff_lt_or_eq.1 hj with h | rfl
          · exact HK.out j h
          · intro h
            have := HE.out
            rw [h, (eqR_iff _ _).2 rfl] at this
            cases this
        case measure => simp [intOf]; omega
    · go_wp2_with fail
      go_ret
      refine ⟨?_, HB.out⟩
      have hx : ¬ x ∈ L := fun h => by
        obtain ⟨i, hi, rfl⟩ := List.getElem_of_mem h
        exact HK.out i (by omega) (by simp [r95, hi])
      simp [hasL, hx]
end Go.Proofs.Ytmnpmjphhkiedaa.LF
