/-
  What the law does.
-/
import Derived.Test.YtnlopamlmojbgaaCAL
import Derived.Test.YtnlopamlmojbgaaS3
set_option linter.unusedSimpArgs false
set_option linter.unusedVariables false
/- The law TunnelPatience, walked. -/
namespace Go.Proofs.Ytnlopamlmojbgaa.AC
open Go Go.AI Go.Proofs Go.Proofs.Ytnlopamlmojbgaa.AQ
set_option linter.unusedVariables false
set_option linter.unusedSimpArgs false
def pk : Lk := ⟨0, 1, 0, 1, 0⟩
def pl : List Adv := [⟨pk, 0, true, List.replicate 8 0⟩]
def pw : Wt := ⟨1, 0, 0, 0, 0, 0⟩
def pv (t nx bk : Int) : Vw := ⟨1, t, pw, lsZ, lsZ, nx, bk⟩
def pm (t nx bk : Int) : Mg := ⟨0, 3, [pv t nx bk], 0, [], []⟩
theorem pfit (t nx bk : Int) : fitL pl (askV (pv t nx bk)) = [] := by kernel_rfl
theorem pgood : goodN 3 [pk] := goodN_iff.2 (by decide)
theorem pwk {v c : Int} {l : List Int} (h : Wk [] 0 v l c) : v = 0 := by
  cases h with
  | one => rfl
  | snoc u l c i h hi hf => exact absurd hi (by simp)
theorem pFN {t : Int} (ht : t = 1 ∨ t = 2) (nx bk : Int) : FN 3 pl (askV (pv t nx bk)) 0 t = (8, []) := by
  refine FN_is (c := 0) (Or.inr ⟨⟨pgood, by omega, by omega, by omega, rfl, by show (0 : Int) ≤ 0; omega⟩, ⟨[], -1, false⟩, ?_, Or.inl ⟨rfl, by decide, rfl, rfl⟩⟩)
  rw [pfit]
  refine ⟨fun h => absurd h (by decide), fun h => ⟨rfl, rfl⟩, fun l c hw hl => ?_⟩
  have := pwk hw
  omega
theorem pcreate {t : Int} (ht : t = 1 ∨ t = 2) : (mgN 0 3).create 0 1 t pw pl = ({ pm t 1 2 with lines := [⟨0, 1, 3, 8⟩] }, 0) := by
  have hp : posL (mgN 0 3).l 1 = 0 := rfl
  have h1 : ((mgN 0 3).insV 0 (pv t 0 1)).tries 0 (pv t 0 1) 0 pl = { pm t 1 2 with lines := [⟨0, 1, 3, 8⟩] } := by
    unfold Mg.tries
    have e : FN ((mgN 0 3).insV 0 (pv t 0 1)).n pl (askV (pv t 0 1)) ((mgN 0 3).insV 0 (pv t 0 1)).head (pv t 0 1).tl = (8, []) := pFN ht 0 1
    rw [e]
    rfl
  unfold Mg.create
  rw [if_neg (by rcases ht with rfl | rfl <;> decide), if_neg (by decide), if_neg (by decide)]
  simp only [hp]
  have hb : busyB ((mgN 0 3).insV 0 (pv t 0 1)) = false := rfl
  show ((if busyB ((mgN 0 3).insV 0 (pv t 0 1)) = true then (mgN 0 3).insV 0 (pv t 0 1) else ((mgN 0 3).insV 0 (pv t 0 1)).tries 0 (pv t 0 1) 0 pl), (0 : Int)) = _
  rw [hb, h1]; rfl
theorem ptick {t : Int} (ht : t = 1 ∨ t = 2) (nx bk now : Int) (hn : 0 ≤ now ∧ now ≤ 1000) : (pm t nx bk).tick now pl = (if nx ≤ now then { pm t (now + bk) (min (2 * bk) 8) with lines := [⟨now, 1, 3, 8⟩] } else pm t nx bk, 0) := by
  have hmay : mayB now = true := by simp [mayB]; omega
  unfold Mg.tick
  rw [if_neg (by rw [hmay]; decide)]
  have h1 : upto (Mg.lapse now) (pm t nx bk) (pm t nx bk).l.length = pm t nx bk := by
    show Mg.lapse now (pm t nx bk) 0 = _
    unfold Mg.lapse
    exact if_neg (by simp [lateB, pm, pv, lsZ, kyZ])
  rw [h1]
  show (Mg.retry now pl (pm t nx bk) 0, (0 : Int)) = _
  unfold Mg.retry
  have hv : (pm t nx bk).l.getD 0 vwZ = pv t nx bk := rfl
  simp only [hv]
  have hb : busyB (pm t nx bk) = false := rfl
  have hl : lacksB (pv t nx bk) = true := rfl
  by_cases h : nx ≤ now
  · rw [if_pos ⟨hl, h, hb⟩, if_pos h]
    unfold Mg.tries
    have e : FN (pm t nx bk).n pl (askV (pv t nx bk)) (pm t nx bk).head (pv t nx bk).tl = (8, []) := pFN ht nx bk
    rw [e]
    show ((pm t nx bk).fails 0 (pv t nx bk) now 8, (0 : Int)) = _
    unfold Mg.fails
    have : now + (pv t nx bk).back + (pm t nx bk).head = now + bk := by show now + bk + 0 = _; omega
    rw [this]; rfl
  · rw [if_neg (fun x => h x.2.1), if_neg h]
theorem pm_wf {t nx bk : Int} (hb : 0 ≤ bk ∧ bk ≤ 8) : (pm t nx bk).wf := ⟨by show (0 : Int) ≤ 0 ∧ (0 : Int) < 16; omega, by show (1 : Int) ≤ 3 ∧ (3 : Int) ≤ 16; omega, by show (0 : Int) ≤ 0 ∧ (0 : Int) ≤ 65535; omega, fun v hv => by
  rw [List.mem_singleton.1 hv]; exact ⟨hb, by unfold Wt.wf pv pw; simp, wtZ_wf, wtZ_wf⟩, by show 1 ≤ 16; omega⟩
theorem pl_wf : ∀ x ∈ pl, x.wf := fun x hx => by
  rw [List.mem_singleton.1 hx]; exact ⟨rfl, by decide, by decide, by decide⟩
theorem pml_wf {t nx bk : Int} (hb : 0 ≤ bk ∧ bk ≤ 8) (L : List Li) : Mg.wf { pm t nx bk with lines := L } := ⟨(pm_wf (t := t) (nx := nx) hb).hd, (pm_wf (t := t) (nx := nx) hb).n, (pm_wf (t := t) (nx := nx) hb).cnt, (pm_wf (t := t) (nx := nx) hb).vs, (pm_wf (t := t) (nx := nx) hb).len⟩
set_option maxHeartbeats 4000000 in
theorem patience_false {A : AH} {k : Nat} (hk : k < 256) : ACall Try.prog 3 [.int .u8 k, .bool false] A fun v A' => v = .bool true := by
  have ht : (2 : Int) = 1 ∨ (2 : Int) = 2 := by omega
  have hku : IntKind.i64.wrap (k : Int) = (k : Int) := i64_in (by omega) (by omega)
  refine code3.call (by simp) fun hwf => ?_
  unfold c3
  simp
  refine CN.use (alive_ok A) ?_
  rintro _ A1 hw1 hn1 ⟨rfl, x1⟩
  simp
  refine CN.use (new_ok 0 3 A1) ?_
  rintro _ A2 hw2 hn2 ⟨x2, ⟨e, -⟩ | ⟨-, mb, hmb, rfl, h2⟩⟩
  · cases e
  have zeros : aBuild Try.prog 29 [] = some (.agg ⟨[.int .u64 0, .int .u64 0, .int .u64 0, .int .u64 0, .int .u64 0, .int .u64 0, .int .u64 0, .int .u64 0]⟩) := by kernel_rfl
  have hobx : ∃ A3, A3 = A2.alloc (.row [.int .i64 0, .int .i64 1, .int .u64 0, .int .i64 1, .int .u32 0, .int .i64 0, .bool true, .int .u64 0, .int .u64 0, .int .u64 0, .int .u64 0, .int .u64 0, .int .u64 0, .int .u64 0, .int .u64 0] 31 false) := ⟨_, rfl⟩
  obtain ⟨A3, hA3⟩ := hobx
  have w3 : A3.wf := by rw [hA3]; exact AH.wf_alloc hw2 _
  have n3 : A3.next = A2.next + 1 := by rw [hA3]; rfl
  have x3 : Ext A2 A3 := by rw [hA3]; exact Ext.alloc A2 _
  have ga : A3.get A2.next = some (.row [.int .i64 0, .int .i64 1, .int .u64 0, .int .i64 1, .int .u32 0, .int .i64 0, .bool true, .int .u64 0, .int .u64 0, .int .u64 0, .int .u64 0, .int .u64 0, .int .u64 0, .int .u64 0, .int .u64 0] 31 false) := by rw [hA3, AH.get_new]
  have s3 : Sl A3 31 15 (some ⟨A2.next, 0, none⟩) (pl.map Adv.enc) := Sl.row (L := pl.map Adv.enc) (fun r hr => by
    have hobt := List.mem_map.1 hr
    obtain ⟨x, hx, rfl⟩ := hobt
    rw [List.mem_singleton.1 hx]; exact ⟨rfl, rfl⟩) ga rfl
  have t3 : ∀ b o, some (⟨A2.next, 0, none⟩ : Addr) = some ⟨b, o, none⟩ → ∃ cs ro, A3.get b = some (.row cs 31 ro) := fun b o e => by
    injection e with e; injection e with e _ _; subst e; exact ⟨_, _, ga⟩
  have hpw : pw.wf := by unfold Wt.wf pw; simp
  simp [zeros, ← hA3]
  have hcr := create_ok (cl := 1) (h2.ext hw2 x3) (mgN_wf rfl) 0 1 2 pw hpw (by exact ⟨by decide, by decide⟩) (by omega) s3 t3 pl_wf (by decide)
  rw [pcreate ht] at hcr
  refine CN.use hcr ?_
  rintro _ A4 hw4 hn4 ⟨⟨ps, h4⟩, rfl, f4⟩
  have wf4 := pml_wf (t := 2) (nx := 1) (bk := 2) (by omega) [⟨0, 1, 3, 8⟩]
  simp
  refine CN.use (lines_ok h4 wf4) ?_
  rintro _ A5 hw5 hn5 ⟨o5, h5, a5, c5, rfl, s5, -⟩
  have h5' : MP A1.next A5 mb ps (pm 2 1 2) := h5
  have f5 := f4.trans (o5.frL h4)
  have hobt := s5.at (i := 0) (by simp)
  obtain ⟨b5, p5, cs5, q5, rfl, g51, g52, g53⟩ := hobt
  rw [List.getElem_map] at g53
  have hr5 : Li.enc ⟨0, 1, 3, 8⟩ = [.int .i64 0, .int .i64 1, .int .i64 3, .int .i64 8] := rfl
  simp [hr5] at g52 g53
  have hli : ∀ A : AH, aBin Try.prog A .neq 40 (.agg ⟨[.int .i64 0, .int .i64 1, .int .i64 3, .int .i64 8]⟩) (.agg ⟨[.int .i64 0, .int .i64 1, .int .i64 3, .int .i64 8]⟩) = some (.bool false) := fun A => by
    rw [aBin_neq_agg A _ _ _ eg40]; simp
  simp [g51, g52, g53, hli]
  refine LN.use (fun j E A' => ∃ (now : Nat) (nx bk : Int), j + now = 1000 ∧ 1 ≤ now ∧ now ≤ 256 ∧ (now : Int) ≤ nx ∧ nx ≤ now + 8 ∧ 1 ≤ bk ∧ bk ≤ 8 ∧ FrL A1.next A3 A' ∧ A1.next ≤ A'.next ∧ MP A1.next A' mb ps (pm 2 nx bk) ∧ E.get 0 = .int .u8 k ∧ E.get 5 = .pointer (some ⟨mb, 0, none⟩) ∧ E.get 6 = .slice (some ⟨A2.next, 0, none⟩) 1 1 ∧ E.get 8 = .int .i64 nx ∧ E.get 9 = .int .i64 bk ∧ E.get 11 = .int .i64 now) 999
    ⟨1, 1, 2, by omega, by omega, by omega, by omega, by omega, by omega, by omega, f5, by omega, h5', by simp, by simp, by simp, by simp, by simp, by simp⟩ ?_
  rintro j E A6 hw6 hn6 ⟨now, nx, bk, hj, hnow1, hnow2, hnx1, hnx2, hbk1, hbk2, f6, n6, h6, E0, E5, E6, E8, E9, E11⟩
  by_cases hlt : now < k
  rotate_left
  · have hlt' : ¬ (now : Int) < k := by omega
    simp [E0, E11, hku, hlt']
    exact DN.of rfl
  have hlt' : (now : Int) < k := by omega
  have hgi : IntKind.i64.wrap ((now : Int) + 1) = ((now + 1 : Nat) : Int) := by rw [i64_in (by omega) (by omega)]; simp
  have hg2 : IntKind.i64.wrap (nx + bk) = nx + bk := i64_in (by omega) (by omega)
  have hg3 : IntKind.i64.wrap (2 * bk) = 2 * bk := i64_in (by omega) (by omega)
  have s6 : Sl A6 31 15 (some ⟨A2.next, 0, none⟩) (pl.map Adv.enc) := s3.kept fun b o z e hb => by
    have hobt := t3 b o e
    obtain ⟨cs, ro, g⟩ := hobt
    exact f6.2 b cs _ ro g (by unfold OwnT; decide) (by decide)
  have t6 : ∀ b o, some (⟨A2.next, 0, none⟩ : Addr) = some ⟨b, o, none⟩ → ∃ cs ro, A6.get b = some (.row cs 31 ro) := fun b o e => by
    have hobt := t3 b o e
    obtain ⟨cs, ro, g⟩ := hobt
    exact ⟨cs, ro, (f6.2 b cs _ ro g (by unfold OwnT; decide) (by decide)).trans g⟩
  have hti := tick_ok (cl := 1) h6 (pm_wf (by omega)) now (by exact ⟨by show 0 + 100 ≤ 100000; omega, by show 0 + 100 ≤ 100000; omega⟩) n6 s6 t6 pl_wf (by decide)
  rw [ptick ht nx bk now (by omega)] at hti
  simp [E0, E5, E6, E8, E9, E11, hku, hlt']
  refine CN.use hti ?_
  rintro _ A7 hw7 hn7 ⟨h7, rfl, f7⟩
  have f67 := f6.trans f7.frL
  simp [E5]
  by_cases hx : nx ≤ now
  · have hxe : nx = now := by omega
    rw [if_pos hx] at h7
    have wf7 := pml_wf (t := 2) (nx := now + bk) (bk := min (2 * bk) 8) (by omega) [⟨now, 1, 3, 8⟩]
    refine CN.use (lines_ok h7 wf7) ?_
    rintro _ A8 hw8 hn8 ⟨o8, h8, a8, c8, rfl, -⟩
    have h8' : MP A1.next A8 mb ps (pm 2 (now + bk) (min (2 * bk) 8)) := h8
    have f8 := f67.trans (o8.frL h7)
    simp [E5, E8, E11, hxe]
    refine CN.use (actions_ok h8' (pm_wf (by omega))) ?_
    rintro _ A9 hw9 hn9 ⟨o9, h9, xs, a9, c9, rfl, hxs, -⟩
    have hxl : xs.length = 0 := by have := congrArg List.length hxs; simpa [pm] using this
    have h9' : MP A1.next A9 mb ps (pm 2 (now + bk) (min (2 * bk) 8)) := h9
    have hg2' : IntKind.i64.wrap ((now : Int) + bk) = now + bk := i64_in (by omega) (by omega)
    simp [hxl, E8, E9, E11, hxe, hg2', hg3, hgi]
    have hmin : (if (8 : Int) < 2 * bk then 8 else 2 * bk) = min (2 * bk) 8 := by split <;> omega
    exact NX.of ⟨j - 1, by omega, now + 1, now + bk, min (2 * bk) 8, by omega, by omega, by omega, by omega, by omega, by omega, by omega, f8.trans (o9.frL h8'), by omega, h9', by simp [E0], by simp [E5], by simp [E6], by simp, by simp [hmin], by simp⟩
  · rw [if_neg hx] at h7
    have hne : ¬ (now : Int) = nx := by omega
    refine CN.use (lines_ok h7 (pm_wf (by omega))) ?_
    rintro _ A8 hw8 hn8 ⟨o8, h8, a8, c8, rfl, -⟩
    have h8' : MP A1.next A8 mb ps (pm 2 nx bk) := h8
    have f8 := f67.trans (o8.frL h7)
    have hl0 : (pm 2 nx bk).lines.length = 0 := rfl
    have hl0' : (pm 2 nx bk).lines = [] := rfl
    simp [E5, E8, E11, hne, hl0, hl0']
    refine CN.use (actions_ok h8' (pm_wf (by omega))) ?_
    rintro _ A9 hw9 hn9 ⟨o9, h9, xs, a9, c9, rfl, hxs, -⟩
    have hxl : xs.length = 0 := by have := congrArg List.length hxs; simpa [pm] using this
    have h9' : MP A1.next A9 mb ps (pm 2 nx bk) := h9
    simp [hxl, E8, E9, E11, hne, hgi]
    exact NX.of ⟨j - 1, by omega, now + 1, nx, bk, by omega, by omega, by omega, by omega, by omega, by omega, by omega, f8.trans (o9.frL h8'), by omega, h9', by simp [E0], by simp [E5], by simp [E6], by simp [E8], by simp [E9], by simp⟩
set_option maxHeartbeats 4000000 in
theorem patience_true {A : AH} {k : Nat} (hk : k < 256) : ACall Try.prog 3 [.int .u8 k, .bool true] A fun v A' => v = .bool true := by
  have ht : (1 : Int) = 1 ∨ (1 : Int) = 2 := by omega
  have hku : IntKind.i64.wrap (k : Int) = (k : Int) := i64_in (by omega) (by omega)
  refine code3.call (by simp) fun hwf => ?_
  unfold c3
  simp
  refine CN.use (alive_ok A) ?_
  rintro _ A1 hw1 hn1 ⟨rfl, x1⟩
  simp
  refine CN.use (new_ok 0 3 A1) ?_
  rintro _ A2 hw2 hn2 ⟨x2, ⟨e, -⟩ | ⟨-, mb, hmb, rfl, h2⟩⟩
  · cases e
  have zeros : aBuild Try.prog 29 [] = some (.agg ⟨[.int .u64 0, .int .u64 0, .int .u64 0, .int .u64 0, .int .u64 0, .int .u64 0, .int .u64 0, .int .u64 0]⟩) := by kernel_rfl
  have hobx : ∃ A3, A3 = A2.alloc (.row [.int .i64 0, .int .i64 1, .int .u64 0, .int .i64 1, .int .u32 0, .int .i64 0, .bool true, .int .u64 0, .int .u64 0, .int .u64 0, .int .u64 0, .int .u64 0, .int .u64 0, .int .u64 0, .int .u64 0] 31 false) := ⟨_, rfl⟩
  obtain ⟨A3, hA3⟩ := hobx
  have w3 : A3.wf := by rw [hA3]; exact AH.wf_alloc hw2 _
  have n3 : A3.next = A2.next + 1 := by rw [hA3]; rfl
  have x3 : Ext A2 A3 := by rw [hA3]; exact Ext.alloc A2 _
  have ga : A3.get A2.next = some (.row [.int .i64 0, .int .i64 1, .int .u64 0, .int .i64 1, .int .u32 0, .int .i64 0, .bool true, .int .u64 0, .int .u64 0, .int .u64 0, .int .u64 0, .int .u64 0, .int .u64 0, .int .u64 0, .int .u64 0] 31 false) := by rw [hA3, AH.get_new]
  have s3 : Sl A3 31 15 (some ⟨A2.next, 0, none⟩) (pl.map Adv.enc) := Sl.row (L := pl.map Adv.enc) (fun r hr => by
    have hobt := List.mem_map.1 hr
    obtain ⟨x, hx, rfl⟩ := hobt
    rw [List.mem_singleton.1 hx]; exact ⟨rfl, rfl⟩) ga rfl
  have t3 : ∀ b o, some (⟨A2.next, 0, none⟩ : Addr) = some ⟨b, o, none⟩ → ∃ cs ro, A3.get b = some (.row cs 31 ro) := fun b o e => by
    injection e with e; injection e with e _ _; subst e; exact ⟨_, _, ga⟩
  have hpw : pw.wf := by unfold Wt.wf pw; simp
  simp [zeros, ← hA3]
  have hcr := create_ok (cl := 1) (h2.ext hw2 x3) (mgN_wf rfl) 0 1 1 pw hpw (by exact ⟨by decide, by decide⟩) (by omega) s3 t3 pl_wf (by decide)
  rw [pcreate ht] at hcr
  refine CN.use hcr ?_
  rintro _ A4 hw4 hn4 ⟨⟨ps, h4⟩, rfl, f4⟩
  have wf4 := pml_wf (t := 1) (nx := 1) (bk := 2) (by omega) [⟨0, 1, 3, 8⟩]
  simp
  refine CN.use (lines_ok h4 wf4) ?_
  rintro _ A5 hw5 hn5 ⟨o5, h5, a5, c5, rfl, s5, -⟩
  have h5' : MP A1.next A5 mb ps (pm 1 1 2) := h5
  have f5 := f4.trans (o5.frL h4)
  have hobt := s5.at (i := 0) (by simp)
  obtain ⟨b5, p5, cs5, q5, rfl, g51, g52, g53⟩ := hobt
  rw [List.getElem_map] at g53
  have hr5 : Li.enc ⟨0, 1, 3, 8⟩ = [.int .i64 0, .int .i64 1, .int .i64 3, .int .i64 8] := rfl
  simp [hr5] at g52 g53
  have hli : ∀ A : AH, aBin Try.prog A .neq 40 (.agg ⟨[.int .i64 0, .int .i64 1, .int .i64 3, .int .i64 8]⟩) (.agg ⟨[.int .i64 0, .int .i64 1, .int .i64 3, .int .i64 8]⟩) = some (.bool false) := fun A => by
    rw [aBin_neq_agg A _ _ _ eg40]; simp
  simp [g51, g52, g53, hli]
  refine LN.use (fun j E A' => ∃ (now : Nat) (nx bk : Int), j + now = 1000 ∧ 1 ≤ now ∧ now ≤ 256 ∧ (now : Int) ≤ nx ∧ nx ≤ now + 8 ∧ 1 ≤ bk ∧ bk ≤ 8 ∧ FrL A1.next A3 A' ∧ A1.next ≤ A'.next ∧ MP A1.next A' mb ps (pm 1 nx bk) ∧ E.get 0 = .int .u8 k ∧ E.get 5 = .pointer (some ⟨mb, 0, none⟩) ∧ E.get 6 = .slice (some ⟨A2.next, 0, none⟩) 1 1 ∧ E.get 8 = .int .i64 nx ∧ E.get 9 = .int .i64 bk ∧ E.get 11 = .int .i64 now) 999
    ⟨1, 1, 2, by omega, by omega, by omega, by omega, by omega, by omega, by omega, f5, by omega, h5', by simp, by simp, by simp, by simp, by simp, by simp⟩ ?_
  rintro j E A6 hw6 hn6 ⟨now, nx, bk, hj, hnow1, hnow2, hnx1, hnx2, hbk1, hbk2, f6, n6, h6, E0, E5, E6, E8, E9, E11⟩
  by_cases hlt : now < k
  rotate_left
  · have hlt' : ¬ (now : Int) < k := by omega
    simp [E0, E11, hku, hlt']
    exact DN.of rfl
  have hlt' : (now : Int) < k := by omega
  have hgi : IntKind.i64.wrap ((now : Int) + 1) = ((now + 1 : Nat) : Int) := by rw [i64_in (by omega) (by omega)]; simp
  have hg2 : IntKind.i64.wrap (nx + bk) = nx + bk := i64_in (by omega) (by omega)
  have hg3 : IntKind.i64.wrap (2 * bk) = 2 * bk := i64_in (by omega) (by omega)
  have s6 : Sl A6 31 15 (some ⟨A2.next, 0, none⟩) (pl.map Adv.enc) := s3.kept fun b o z e hb => by
    have hobt := t3 b o e
    obtain ⟨cs, ro, g⟩ := hobt
    exact f6.2 b cs _ ro g (by unfold OwnT; decide) (by decide)
  have t6 : ∀ b o, some (⟨A2.next, 0, none⟩ : Addr) = some ⟨b, o, none⟩ → ∃ cs ro, A6.get b = some (.row cs 31 ro) := fun b o e => by
    have hobt := t3 b o e
    obtain ⟨cs, ro, g⟩ := hobt
    exact ⟨cs, ro, (f6.2 b cs _ ro g (by unfold OwnT; decide) (by decide)).trans g⟩
  have hti := tick_ok (cl := 1) h6 (pm_wf (by omega)) now (by exact ⟨by show 0 + 100 ≤ 100000; omega, by show 0 + 100 ≤ 100000; omega⟩) n6 s6 t6 pl_wf (by decide)
  rw [ptick ht nx bk now (by omega)] at hti
  simp [E0, E5, E6, E8, E9, E11, hku, hlt']
  refine CN.use hti ?_
  rintro _ A7 hw7 hn7 ⟨h7, rfl, f7⟩
  have f67 := f6.trans f7.frL
  simp [E5]
  by_cases hx : nx ≤ now
  · have hxe : nx = now := by omega
    rw [if_pos hx] at h7
    have wf7 := pml_wf (t := 1) (nx := now + bk) (bk := min (2 * bk) 8) (by omega) [⟨now, 1, 3, 8⟩]
    refine CN.use (lines_ok h7 wf7) ?_
    rintro _ A8 hw8 hn8 ⟨o8, h8, a8, c8, rfl, -⟩
    have h8' : MP A1.next A8 mb ps (pm 1 (now + bk) (min (2 * bk) 8)) := h8
    have f8 := f67.trans (o8.frL h7)
    simp [E5, E8, E11, hxe]
    refine CN.use (actions_ok h8' (pm_wf (by omega))) ?_
    rintro _ A9 hw9 hn9 ⟨o9, h9, xs, a9, c9, rfl, hxs, -⟩
    have hxl : xs.length = 0 := by have := congrArg List.length hxs; simpa [pm] using this
    have h9' : MP A1.next A9 mb ps (pm 1 (now + bk) (min (2 * bk) 8)) := h9
    have hg2' : IntKind.i64.wrap ((now : Int) + bk) = now + bk := i64_in (by omega) (by omega)
    simp [hxl, E8, E9, E11, hxe, hg2', hg3, hgi]
    have hmin : (if (8 : Int) < 2 * bk then 8 else 2 * bk) = min (2 * bk) 8 := by split <;> omega
    exact NX.of ⟨j - 1, by omega, now + 1, now + bk, min (2 * bk) 8, by omega, by omega, by omega, by omega, by omega, by omega, by omega, f8.trans (o9.frL h8'), by omega, h9', by simp [E0], by simp [E5], by simp [E6], by simp, by simp [hmin], by simp⟩
  · rw [if_neg hx] at h7
    have hne : ¬ (now : Int) = nx := by omega
    refine CN.use (lines_ok h7 (pm_wf (by omega))) ?_
    rintro _ A8 hw8 hn8 ⟨o8, h8, a8, c8, rfl, -⟩
    have h8' : MP A1.next A8 mb ps (pm 1 nx bk) := h8
    have f8 := f67.trans (o8.frL h7)
    have hl0 : (pm 1 nx bk).lines.length = 0 := rfl
    have hl0' : (pm 1 nx bk).lines = [] := rfl
    simp [E5, E8, E11, hne, hl0, hl0']
    refine CN.use (actions_ok h8' (pm_wf (by omega))) ?_
    rintro _ A9 hw9 hn9 ⟨o9, h9, xs, a9, c9, rfl, hxs, -⟩
    have hxl : xs.length = 0 := by have := congrArg List.length hxs; simpa [pm] using this
    have h9' : MP A1.next A9 mb ps (pm 1 nx bk) := h9
    simp [hxl, E8, E9, E11, hne, hgi]
    exact NX.of ⟨j - 1, by omega, now + 1, nx, bk, by omega, by omega, by omega, by omega, by omega, by omega, by omega, f8.trans (o9.frL h8'), by omega, h9', by simp [E0], by simp [E5], by simp [E6], by simp [E8], by simp [E9], by simp⟩
theorem patience_walk {A : AH} {k : Nat} (hk : k < 256) (b : Bool) : ACall Try.prog 3 [.int .u8 k, .bool b] A fun v A' => v = .bool true := by
  cases b
  · exact patience_false hk
  · exact patience_true hk
end Go.Proofs.Ytnlopamlmojbgaa.AC
