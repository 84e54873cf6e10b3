import Derived.Test.YtmnpmjphhkiedaaPLfibActsx0
import Derived.WalkSpells
import Derived.WalkLawsBesides
import Derived.Lib.Hide
namespace Go.Proofs.Ytmnpmjphhkiedaa.LF
open Go.RowKit Go.Proofs.YtmnpmjphhkiedaaW.PrintWords Go.Proofs.YtmnpmjphhkiedaaW.PrintLast Go.Proofs.YtmnpmjphhkiedaaW.PrintMore Go.Proofs.Ytmnpmjphhkiedaa.PLfibActs

/-- The row at a place. -/
def r95 (L : List S95) (i : Nat) : S95 := L.getD i z95

theorem at95 {w wr : World} {A : Option Addr} {n : Nat} {xs : List S95} (h : Kd.C k95 w A n xs) (hb : Below w.heap.size w wr) (i : Nat) (h1 : i < n) : ∃ ad, A = some ad ∧ wr.cell? (ad.add (i * 3)) = some (.int .i64 (r95 xs i).f0) ∧ wr.cell? ⟨(ad.add (i * 3)).block, (ad.add (i * 3)).off + 1, none⟩ = some (.int .i64 (r95 xs i).f1.f0) ∧ wr.cell? ⟨(ad.add (i * 3)).block, (ad.add (i * 3)).off + 2, none⟩ = some (.int .i64 (r95 xs i).f1.f1) := by
  obtain ⟨ad, e, c0, c1, c2⟩ := at_T95 h i (by omega) (by omega)
  simp only [Int.toNat_natCast, rd_T95] at c0 c1 c2
  exact ⟨ad, e, (hb.cell (World.block_lt_of_cell? w _ c0)).trans c0, (hb.cell (World.block_lt_of_cell? w _ c1)).trans c1, (hb.cell (World.block_lt_of_cell? w _ c2)).trans c2⟩

set_option maxHeartbeats 400000 in
theorem find1_any (a n l i : Int) (w : World) :
    Calls Try.prog 110 #[.agg #[.int .i64 a, .int .i64 n, .int .i64 l], .int .i64 i] w fun e w' => e = .returned (.int .i64 (wrap64 (a - i))) ∧ Below w.heap.size w w' := by
  go_enter Try.func110, Try.ntmps110
  go_wp2
  go_ret
  exact ⟨rfl, by exact (Below.refl _ _).alloc (Nat.le_refl _) _⟩

/-- What a search among rows answers. -/
def Srch (L : List S95) (t : Int) (p : Nat) (y : Bool) : Prop :=
  p ≤ L.length ∧ (y = true ↔ p < L.length ∧ (r95 L p).f0 = t) ∧
  (0 ≤ t → t ≤ 2000000 → (∀ j, j < p → (r95 L j).f0 < t) ∧ (∀ j, p ≤ j → j < L.length → t ≤ (r95 L j).f0))
def Mid (L : List S95) (t : Int) (x y : Nat) : Prop :=
  x ≤ y ∧ y ≤ L.length ∧ (0 ≤ t → t ≤ 2000000 → (∀ j, j < x → (r95 L j).f0 < t) ∧ (∀ j, y ≤ j → j < L.length → t ≤ (r95 L j).f0))
/-- Rows that rise, with small numbers. -/
def Good (L : List S95) : Prop := L.length ≤ 64 ∧ (∀ j, j < L.length → 0 ≤ (r95 L j).f0 ∧ (r95 L j).f0 ≤ 2000000) ∧ (∀ i j, i < j → j < L.length → (r95 L i).f0 < (r95 L j).f0)
theorem Mid.right {L : List S95} {t : Int} {x y : Nat} (h : Mid L t x y) (hg : Good L) (hlt : x < y) (hc : wrap64 ((r95 L ((x + y) / 2)).f0 - t) < 0) : Mid L t ((x + y) / 2 + 1) y := by
  obtain ⟨h1, h2, h3⟩ := h
  refine ⟨by omega, h2, fun a b => ⟨fun j hj => ?_, (h3 a b).2⟩⟩
  have hm := hg.2.1 ((x + y) / 2) (by omega)
  have : (r95 L ((x + y) / 2)).f0 < t := by unfold wrap64 at hc; omega
  by_cases e : j = (x + y) / 2
  · rw [e]; exact this
  · have := hg.2.2 j ((x + y) / 2) (by omega) (by omega); omega
theorem Mid.left {L : List S95} {t : Int} {x y : Nat} (h : Mid L t x y) (hg : Good L) (hlt : x < y) (hc : 0 ≤ wrap64 ((r95 L ((x + y) / 2)).f0 - t)) : Mid L t x ((x + y) / 2) := by
  obtain ⟨h1, h2, h3⟩ := h
  refine ⟨by omega, by omega, fun a b => ⟨(h3 a b).1, fun j hj hl => ?_⟩⟩
  have hm := hg.2.1 ((x + y) / 2) (by omega)
  have : t ≤ (r95 L ((x + y) / 2)).f0 := by unfold wrap64 at hc; omega
  by_cases e : j = (x + y) / 2
  · rw [e]; exact this
  · have := hg.2.2 ((x + y) / 2) j (by omega) (by omega); omega
theorem Mid.done {L : List S95} {t : Int} {x y : Nat} (h : Mid L t x y) (hlt : ¬ x < y) (b : Bool) (hb : b = true ↔ x < L.length ∧ (r95 L x).f0 = t) : Srch L t x b := by
  obtain ⟨h1, h2, h3⟩ := h
  obtain rfl : x = y := by omega
  exact ⟨h2, hb, h3⟩
theorem wrap_zero (a t : Int) (h1 : 0 ≤ a) (h2 : a ≤ 2000000) (h3 : -9223372036854775808 ≤ t) (h4 : t ≤ 9223372036854775807) : (wrap64 (a - t) == 0) = decide (a = t) := by
  rw [Bool.eq_iff_iff]; simp only [beq_iff_eq, decide_eq_true_eq]; unfold wrap64; omega

def SrchPost (L : List S95) (t : Int) (w : World) (e : Ending) (w' : World) : Prop :=
  ∃ (p : Nat) (y : Bool), e = .returned (.tuple #[.int .i64 p, .bool y]) ∧ Srch L t p y ∧ Below w.heap.size w w'

set_option maxRecDepth 100000 in
set_option maxHeartbeats 1600000 in
theorem bsearch_any (A : Option Addr) (c : Nat) (L : List S95) (t : Int) (w : World) (hr : Kd.C k95 w A L.length L) (hg : Good L) (t1 : -9223372036854775808 ≤ t) (t2 : t ≤ 9223372036854775807) :
    Calls Try.prog 109 #[.slice A L.length c, .int .i64 t, .func (.func 110) #[] #[]] w (SrchPost L t w) := by
  have HR := Aside0.mk hr
  have HG := Aside0.mk hg
  have hn := hg.1
  clear hr hg
  go_enter Try.func109, Try.ntmps109
  go_wp2
  go_loopw [9, 10, 11] (fun i j _ wr => ∃ x y : Nat, Aside0 (Mid L t x y) ∧ i = .int .i64 x ∧ j = .int .i64 y ∧ Aside0 (Below w.heap.size w wr)) (fun i j _ _ => (intOf j - intOf i).toNat)
  case atStart => exact ⟨0, L.length, ⟨by omega, by omega, fun _ _ => ⟨fun j h => by omega, fun j h h' => by omega⟩⟩, rfl, rfl, ⟨Below.refl _ _⟩⟩
  case round =>
    obtain ⟨x, y, HM, rfl, rfl, HB⟩ := hrel
    have hxy := HM.out.1
    have hyn := HM.out.2.1
    by_cases hlt : x < y
    · obtain ⟨ad, e, c0, c1, c2⟩ := at95 HR.out HB.out ((x + y) / 2) (by omega)
      cases e
      go_wp2_with (go_at_call 110; refine (find1_any _ _ _ _ _).mono ?_; rintro e w1 ⟨rfl, hb1⟩)
      · have hc : wrap64 ((r95 L ((x + y) / 2)).f0 - t) < 0 := by assumption
        exact ⟨⟨(x + y) / 2 + 1, y, ⟨HM.out.right HG.out hlt hc⟩, by go_num, rfl, ⟨below_step HB.out hb1⟩⟩, by simp [intOf]; omega⟩
      · have hc : 0 ≤ wrap64 ((r95 L ((x + y) / 2)).f0 - t) := by assumption
        exact ⟨⟨x, (x + y) / 2, ⟨HM.out.left HG.out hlt hc⟩, rfl, by go_num, ⟨below_step HB.out hb1⟩⟩, by simp [intOf]; omega⟩
    · by_cases hx : x < L.length
      · obtain ⟨ad, e, c0, c1, c2⟩ := at95 HR.out HB.out x hx
        cases e
        go_wp2_with (go_at_call 110; refine (find1_any _ _ _ _ _).mono ?_; rintro e w1 ⟨rfl, hb1⟩)
        go_ret2
        have hm := HG.out.2.1 x hx
        exact ⟨x, _, rfl, HM.out.done hlt _ (by rw [wrap_zero _ _ hm.1 hm.2 t1 t2]; simp [hx]), below_step HB.out hb1⟩
      · go_wp2
        go_ret2
        exact ⟨x, false, rfl, HM.out.done hlt _ (by simp [hx]), HB.out⟩
end Go.Proofs.Ytmnpmjphhkiedaa.LF
