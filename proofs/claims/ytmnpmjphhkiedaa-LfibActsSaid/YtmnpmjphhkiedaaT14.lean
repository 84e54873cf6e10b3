import Derived.Test.YtmnpmjphhkiedaaT12
namespace Go.Proofs.Ytmnpmjphhkiedaa.LF
open Go.RowKit Go.Proofs.YtmnpmjphhkiedaaW.PrintWords Go.Proofs.YtmnpmjphhkiedaaW.PrintLast Go.Proofs.YtmnpmjphhkiedaaW.PrintMore Go.Proofs.Ytmnpmjphhkiedaa.PLfibActs Go.Proofs.Ytmnpmjphhkiedaa.Lib

/-- What a copy of rows leaves. -/
def ClonePost (L : List S95) (w : World) (e : Ending) (w' : World) : Prop :=
  ∃ v, e = .returned v ∧ Own w' v L ∧ Below w.heap.size w w' ∧ ∀ k, v.ownBlock = some k → w.heap.size ≤ k

set_option maxRecDepth 100000 in
set_option maxHeartbeats 2000000 in
theorem clone_nil (w : World) : Calls Try.prog 85 #[.slice none 0 0] w (ClonePost [] w) := by
  have q91 : ∀ (w : World) (a : Option Addr) (n c n' c' : Nat), (binOp .eql 91 (.slice a n c) (.slice none n' c')).run Try.prog w = .ok (.bool a.isNone) w := fun w a n c n' c' => Lib.run_eql_slice_nil w _ _ a n c n' c' Try.underlying91
  go_enter Try.func85, Try.ntmps85
  go_wp2
  go_ret
  exact ⟨_, rfl, World.ownsRow_nil _ _ _ _, Below.refl _ _, fun k hk => by simp [Value.ownBlock] at hk⟩

set_option maxRecDepth 100000 in
set_option maxHeartbeats 2000000 in
theorem clone_some (ad : Addr) (n c : Nat) (L : List S95) (w : World) (h : Kd.C k95 w (some ad) L.length L) (hc : L.length ≤ c) (hn : L.length ≤ 64) :
    Calls Try.prog 85 #[.slice (some ad) L.length c] w (ClonePost L w) := by
  have q91 : ∀ (w : World) (a : Option Addr) (n c n' c' : Nat), (binOp .eql 91 (.slice a n c) (.slice none n' c')).run Try.prog w = .ok (.bool a.isNone) w := fun w a n c n' c' => Lib.run_eql_slice_nil w _ _ a n c n' c' Try.underlying91
  obtain ⟨i0, hi, hz0, hz1, hz2⟩ := info_parts info95
  have hcells := cells_of_C (k := 3) (enc := c95) (fun _ => rfl) rfl (fun w x cs h => k95_open h) (by omega) h rfl
  have HC := Aside0.mk hcells
  obtain ⟨news, hnews⟩ : ∃ news, news = cellsOf c95 L := ⟨_, rfl⟩
  have HNL : Aside0 (news.length = L.length * 3) := ⟨by rw [hnews]; exact cells95_length L⟩
  have HN1 : Aside0 (∀ u ∈ news, u.oneCell' = true) := ⟨by rw [hnews]; exact cells95_one L⟩
  have HNC : Aside0 (∀ j u, news[j]? = some u → (w.alloc (.cells #[] 95)).cell? (ad.add j) = some u) := ⟨fun j u hj => Lib.cell?_alloc_some _ (HC.out j u (by rwa [hnews] at hj))⟩
  have HM1 : Aside0 (0 + L.length ≤ maxLen) := ⟨by unfold maxLen; omega⟩
  have HM2 : Aside0 ((0 + L.length) * 24 ≤ 140737488355328) := ⟨by omega⟩
  have HNN := Aside0.mk hnews
  clear h hcells hnews
  go_enter Try.func85, Try.ntmps85
  go_wp2_with (at_builtin; refine wpList_append_own _ rfl (.tmp 5) (.tmp 6) 91 rfl w.heap.size 95 i0 _ 3 24 Try.underlying91 hi hz0 hz1 hz2 rfl (by decide) _ _ _ rfl (World.ownsRow_made w #[] 0 (Nat.le_refl _) (Nat.zero_le _) rfl) ad L.length c news rfl HNL.out HNC.out HN1.out HM1.out HM2.out (by simp) ?_)
  intro v' w1 hown hgrow hnil
  have HO := Aside0.mk hown
  have HG := Aside0.mk hgrow
  clear hown hgrow hnil
  go_wp2
  go_ret
  have ho := HO.out
  rw [HNN.out] at ho
  refine ⟨v', rfl, ⟨ho.1, ho.2.imp id fun ⟨g, cap, cur, e, _, h⟩ => ⟨g, cap, cur, e, Nat.zero_le _, h⟩⟩, ((Below.refl _ w).alloc (Nat.le_refl _) _).grown HG.out (by simp) (by intro k hk; simp [Value.ownBlock] at hk; omega), fun k hk => ?_⟩
  rcases ho.2 with ⟨rfl, _⟩ | ⟨g, cap, cur, rfl, hb, _⟩
  · simp [Value.ownBlock] at hk
  · simp [Value.ownBlock] at hk; omega

theorem clone_own (v : Value) (L : List S95) (w : World) (ho : Own w v L) (hn : L.length ≤ 64) : Calls Try.prog 85 #[v] w (ClonePost L w) := by
  obtain ⟨A, c, rfl, hc, _, hC⟩ := ho.read
  cases A with
  | none =>
    have h0 : L = [] := by
      rcases Nat.eq_zero_or_pos L.length with h | h
      · exact List.eq_nil_of_length_eq_zero h
      · obtain ⟨ad, e, _⟩ := hC.2.2 h
        cases e
    subst h0
    rcases ho.2 with ⟨e, _⟩ | ⟨g, cap, cur, e, _⟩
    · rw [e]; exact clone_nil w
    · simp at e
  | some ad => exact clone_some ad L.length c L w hC hc hn

set_option maxRecDepth 100000 in
set_option maxHeartbeats 2000000 in
theorem labels_any (tb : Nat) (F : Nat → Prop) (most : Int) (L T : List S95) (w : World) (t : Tab w tb F most L T) : Calls Try.prog 44 #[.pointer (some ⟨tb, 0, none⟩)] w (ClonePost L w) := by
  have hm := t.made
  have h64 : L.length ≤ 64 := by have := t.ll; have := t.lt; have := t.m2; omega
  obtain ⟨⟨vl, vt, h1, h2, h3, _, _⟩, _⟩ := t
  have HO := Aside0.mk h2
  obtain ⟨A, c, e, _⟩ := h2.read
  subst e
  have y0 := (blk_cell h1 0).trans rfl
  have H64 := Aside0.mk h64
  clear h1 h2 h3 h64
  go_enter Try.func44, Try.ntmps44
  go_wp2_with fail
  refine (good_true _ _ hm).mono ?_
  rintro e w1 ⟨rfl, rfl⟩
  go_wp2_with fail
  refine (clone_own _ L w HO.out H64.out).mono ?_
  rintro e w2 ⟨v, rfl, o1, o2, o3⟩
  have O1 := Aside0.mk o1; have O2 := Aside0.mk o2; have O3 := Aside0.mk o3
  clear o1 o2 o3
  go_wp2
  go_ret
  exact ⟨v, rfl, O1.out, O2.out, O3.out⟩

set_option maxRecDepth 100000 in
set_option maxHeartbeats 2000000 in
theorem tunnels_any (tb : Nat) (F : Nat → Prop) (most : Int) (L T : List S95) (w : World) (t : Tab w tb F most L T) : Calls Try.prog 45 #[.pointer (some ⟨tb, 0, none⟩)] w (ClonePost T w) := by
  have hm := t.made
  have h64 : T.length ≤ 64 := by have := t.ll; have := t.lt; have := t.m2; omega
  obtain ⟨⟨vl, vt, h1, h2, h3, _, _⟩, _⟩ := t
  have HO := Aside0.mk h3
  obtain ⟨A, c, e, _⟩ := h3.read
  subst e
  have y0 := (blk_cell h1 2).trans rfl
  have H64 := Aside0.mk h64
  clear h1 h2 h3 h64
  go_enter Try.func45, Try.ntmps45
  go_wp2_with fail
  refine (good_true _ _ hm).mono ?_
  rintro e w1 ⟨rfl, rfl⟩
  go_wp2_with fail
  refine (clone_own _ T w HO.out H64.out).mono ?_
  rintro e w2 ⟨v, rfl, o1, o2, o3⟩
  have O1 := Aside0.mk o1; have O2 := Aside0.mk o2; have O3 := Aside0.mk o3
  clear o1 o2 o3
  go_wp2
  go_ret
  exact ⟨v, rfl, O1.out, O2.out, O3.out⟩

end Go.Proofs.Ytmnpmjphhkiedaa.LF
