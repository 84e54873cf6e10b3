import Derived.Test.YtmnpmjphhkiedaaT15
import Derived.IntWalk
namespace Go.Proofs.Ytmnpmjphhkiedaa.LF
open Go.RowKit Go.Proofs.YtmnpmjphhkiedaaW.PrintWords Go.Proofs.YtmnpmjphhkiedaaW.PrintLast Go.Proofs.YtmnpmjphhkiedaaW.PrintMore Go.Proofs.Ytmnpmjphhkiedaa.PLfibActs Go.Proofs.Ytmnpmjphhkiedaa.Lib

/-- Rows without that of a number. -/
def delR (L : List S95) (t : Int) : List S95 := L.filter (fun r => decide (r.f0 ≠ t))
/-- What drop makes of rows, and answers. -/
def dropL (L : List S95) (t : Int) : List S95 × Int := if (lk L t).isSome then (delR L t, 0) else (L, 8)

theorem delR_none {L : List S95} {t : Int} (h : ∀ r ∈ L, r.f0 ≠ t) : delR L t = L := by
  unfold delR
  rw [List.filter_eq_self]
  intro r hr
  simpa using h r hr

theorem delR_at {L : List S95} {t : Int} (hg : Good L) {q : Nat} (hq : q < L.length) (ht : (r95 L q).f0 = t) : delR L t = L.take q ++ L.drop (q + 1) := by
  have hnd : ∀ i j (hi : i < L.length) (hj : j < L.length), L[i].f0 = t → L[j].f0 = t → i = j := by
    intro i j hi hj h1 h2
    rcases Nat.lt_trichotomy i j with h | h | h
    · have := hg.2.2 i j h hj; simp [r95, hi, hj] at this; omega
    · exact h
    · have := hg.2.2 j i h hi; simp [r95, hi, hj] at this; omega
  have hx : r95 L q = L[q] := by simp [r95, hq]
  rw [hx] at ht
  have e : L = L.take q ++ L[q] :: L.drop (q + 1) := by rw [← List.drop_eq_getElem_cons hq, List.take_append_drop]
  have h1 : delR (L.take q) t = L.take q := delR_none fun r hr e => by
    obtain ⟨i, hi, rfl⟩ := List.getElem_of_mem hr
    have hi1 : i < q := by simp at hi; omega
    rw [List.getElem_take] at e
    have := hnd i q (by omega) hq e ht
    omega
  have h2 : delR (L.drop (q + 1)) t = L.drop (q + 1) := delR_none fun r hr e => by
    obtain ⟨i, hi, rfl⟩ := List.getElem_of_mem hr
    rw [List.getElem_drop] at e
    have := hnd (q + 1 + i) q (by simp at hi; omega) hq e ht
    omega
  have h3 : delR L t = delR (L.take q ++ L[q] :: L.drop (q + 1)) t := congrArg (fun x => delR x t) e
  rw [h3]
  unfold delR at h1 h2 ⊢
  rw [List.filter_append, List.filter_cons_of_neg (by simpa using ht), h1, h2]

theorem good_iff (L : List S95) : Good L ↔ L.length ≤ 64 ∧ (∀ r ∈ L, 0 ≤ r.f0 ∧ r.f0 ≤ 2000000) ∧ L.Pairwise (fun a b => a.f0 < b.f0) := by
  constructor
  · rintro ⟨h1, h2, h3⟩
    refine ⟨h1, fun r hr => ?_, List.pairwise_iff_getElem.2 fun i j hi hj hij => ?_⟩
    · obtain ⟨i, hi, rfl⟩ := List.getElem_of_mem hr
      have := h2 i hi
      simpa [r95, hi] using this
    · have := h3 i j hij hj
      simpa [r95, hi, hj] using this
  · rintro ⟨h1, h2, h3⟩
    refine ⟨h1, fun j hj => ?_, fun i j hij hj => ?_⟩
    · have := h2 L[j] (List.getElem_mem hj)
      simpa [r95, hj] using this
    · have hi : i < L.length := by omega
      have := (List.pairwise_iff_getElem.1 h3) i j hi hj hij
      simpa [r95, hi, hj] using this
theorem delR_good {L : List S95} (hg : Good L) (t : Int) : Good (delR L t) := by
  rw [good_iff] at hg ⊢
  have hs : (delR L t).Sublist L := List.filter_sublist
  exact ⟨Nat.le_trans hs.length_le hg.1, fun r hr => hg.2.1 r (hs.subset hr), hg.2.2.sublist hs⟩
theorem delR_length (L : List S95) (t : Int) : (delR L t).length ≤ L.length := List.length_filter_le _ _
theorem dropL_good {L : List S95} (hg : Good L) (t : Int) : Good (dropL L t).1 ∧ (dropL L t).1.length ≤ L.length := by
  unfold dropL
  split
  · exact ⟨delR_good hg t, delR_length L t⟩
  · exact ⟨hg, Nat.le_refl _⟩

/-- What drop leaves. -/
def DropPost (tb o T : Nat) (cs : Array Value) (v : Value) (L : List S95) (t : Int) (w : World) (e : Ending) (w' : World) : Prop :=
  ∃ v', e = .returned (.int .i64 (dropL L t).2) ∧ w'.heap[tb]? = some (.cells (cs.setIfInBounds o v') T (0, 0)) ∧ Own w' v' (dropL L t).1 ∧
    Chg (fun b => b = tb ∨ v.ownBlock = some b) w w' ∧ v'.ownBlock = v.ownBlock

set_option maxRecDepth 100000 in
set_option maxHeartbeats 1000000 in
theorem drop_any (tb o T : Nat) (cs : Array Value) (v : Value) (L : List S95) (t : Int) (w : World) (hb : w.heap[tb]? = some (.cells cs T (0, 0))) (hT : T ≠ 95) (hv : cs[o]? = some v) (ho : Own w v L) (hg : Good L) (h64 : L.length ≤ 64) (k1 : -9223372036854775808 ≤ t) (k2 : t ≤ 9223372036854775807) :
    Calls Try.prog 86 #[.pointer (some ⟨tb, o, none⟩), .int .i64 t] w (DropPost tb o T cs v L t w) := by
  obtain ⟨A, c, rfl, hlc, hcm, hr⟩ := ho.read
  have HR := Aside0.mk hr
  have HB := Aside0.mk hb
  have hp : w.cell? ⟨tb, o, none⟩ = some (.slice A L.length c) := (blk_cell HB.out o).trans hv
  have HG := Aside0.mk hg; have HO := Aside0.mk ho; have HV := Aside0.mk hv; have HP := Aside0.mk hp
  clear hr hb hg ho hv hp
  go_enter Try.func86, Try.ntmps86
  go_wp2_with fail
  refine (find_any _ _ _ _ _ _ HP.out HR.out HG.out k1 k2).mono ?_
  rintro e w1 ⟨q, y, rfl, hs, hb⟩
  have HS := Aside0.mk hs
  have HBe := Aside0.mk hb
  have HT := Aside0.mk (blk_below HB.out hb)
  have c0 := (blk_cell HT.out o).trans HV.out
  clear hs hb
  cases y with
  | false =>
    have HN := Aside0.mk (lk_no HG.out HS.out)
    go_wp2
    go_ret
    have e : dropL L t = (L, 8) := by simp [dropL, HN.out]
    refine ⟨.slice A L.length c, by rw [e]; rfl, by rw [set_same HV.out]; exact HT.out, by rw [e]; exact HO.out.kept (S := fun _ => False) (.of_below HBe.out) (fun _ _ h => h), .of_below HBe.out, rfl⟩
  | true =>
    obtain ⟨hq, hl⟩ := lk_yes HG.out HS.out
    have HL := Aside0.mk hl
    clear hl
    obtain ⟨g, cap, cur, hA, hgb, hnc, hcs, htk⟩ : ∃ g cap cur, Value.slice A L.length c = .slice (some ⟨g, 0, none⟩) L.length cap ∧ w.heap[g]? = some (.cells cur 95 (0, 0)) ∧ L.length ≤ cap ∧ cur.size = cap * 3 ∧ cur.toList.take (L.length * 3) = cells95 L := by
      rcases HO.out.2 with ⟨_, h0⟩ | ⟨g, cap, cur, h, _, h2, h3, _, h4, h5⟩
      · omega
      · exact ⟨g, cap, cur, h, h2, h3, h4, h5⟩
    injection hA with hA1 _ hA2
    subst hA1 hA2
    have HG1 := Aside0.mk (blk_below hgb HBe.out)
    have hgT : g ≠ tb := blk_ne hgb HB.out (fun e => hT e.symm)
    have HTK := Aside0.mk htk
    have HCS := Aside0.mk hcs
    have hw1 : IntKind.i64.wrap ((q : Int) + 1) = (q : Int) + 1 := IntWalk.i64_in _ (by omega)
    clear hgb htk hcs
    have hL := HO.out
    go_wp2_with fail
    refine (delete_any g L.length c q cur w1 HG1.out HCS.out (by rw [HTK.out]; exact cells95_one L) hq hlc h64 (by simp only [maxLen] at hcm; omega)).mono ?_
    rintro e w2 ⟨rfl, hch, cur', hb', hcs', htk'⟩
    have HC := Aside0.mk hch
    have HB2 := Aside0.mk (hch.obj HT.out (fun e => hgT e.symm))
    have HG2 := Aside0.mk hb'
    have HCS2 := Aside0.mk hcs'
    have HTK2 := Aside0.mk htk'
    have d0 := (blk_cell HB2.out o).trans HV.out
    have fz := blk_frozen HB2.out o
    clear hch hb' hcs' htk' c0
    go_wp2
    go_ret
    have ht := (HS.out.2.1.1 rfl).2
    have hd := delR_at HG.out hq ht
    have e : dropL L t = (L.take q ++ L.drop (q + 1), 0) := by simp [dropL, HL.out, hd]
    have hll : (L.take q ++ L.drop (q + 1)).length = L.length - 1 := by simp; omega
    refine ⟨.slice (some ⟨g, 0, none⟩) (L.length - 1) c, by rw [e]; rfl, blk_set HB2.out o _, ?_, ?_, rfl⟩
    · rw [e]
      have hgk : ((w2.setCell ⟨tb, o, none⟩ (.slice (some ⟨g, 0, none⟩) (L.length - 1) c)).heap[g]? = some (.cells cur' 95 (0, 0))) := (Below.heap_setCell _ _ _ _ hgT).trans HG2.out
      show World.ownsRow _ 0 95 3 _ (L.take q ++ L.drop (q + 1)).length (cells95 (L.take q ++ L.drop (q + 1)))
      rw [hll]
      refine ⟨by rw [cells95_length, hll], .inr ⟨g, c, cur', rfl, Nat.zero_le _, hgk, by omega, hcm, HCS2.out, ?_⟩⟩
      rw [HTK2.out, HTK.out]
      have e1 : cur.toList.take (q * 3) = (cells95 L).take (q * 3) := by rw [← HTK.out, List.take_take, Nat.min_eq_left (by omega)]
      rw [e1, cells95_take, cells95_drop]
      simp [cells95]
    · exact Chg.setCell (S := fun b => b = tb ∨ (Value.slice (some ⟨g, 0, none⟩) L.length c).ownBlock = some b) (p := ⟨tb, o, none⟩) (.then (.of_below HBe.out) HC.out (fun k hk => .inl (.inr (by rw [hk]; rfl)))) (.inl (.inl rfl)) _
end Go.Proofs.Ytmnpmjphhkiedaa.LF
