import Derived.Test.YtmnpmjphhkiedaaT16
namespace Go.Proofs.Ytmnpmjphhkiedaa.LF
open Go.RowKit Go.Proofs.YtmnpmjphhkiedaaW.PrintWords Go.Proofs.YtmnpmjphhkiedaaW.PrintLast Go.Proofs.YtmnpmjphhkiedaaW.PrintMore Go.Proofs.Ytmnpmjphhkiedaa.PLfibActs Go.Proofs.Ytmnpmjphhkiedaa.Lib

theorem drop_labels {tb : Nat} {F : Nat → Prop} {most : Int} {L T : List S95} {w0 w : World} (h0 : Below w0.heap.size w0 w) (tt : Tab w0 tb F most L T) (t : Int) (k1 : -9223372036854775808 ≤ t) (k2 : t ≤ 9223372036854775807) :
    Calls Try.prog 86 #[.pointer (some ⟨tb, 0, none⟩), .int .i64 t] w (TabPost tb F most (dropL L t).1 T (dropL L t).2 w0) := by
  have t' := tt.below h0
  obtain ⟨⟨vl, vt, h1, h2, h3, h4, h5⟩, f, a1, a2, a3, a4, a5, a6⟩ := t'
  refine (drop_any tb 0 115 _ vl L t w h1 (by omega) rfl h2 a3 (by omega) k1 k2).mono ?_
  rintro e w' ⟨v', rfl, p1, p2, p3, p4⟩
  have hg := dropL_good a3 t
  have hnt : ∀ k, vt.ownBlock = some k → ¬ (k = tb ∨ vl.ownBlock = some k) := fun k hk hh => by
    rcases hh with rfl | hh
    · exact h3.ne h1 (by omega) hk
    · exact (h4 k hh).2 hk
  exact ⟨F, rfl, ⟨⟨v', vt, p1, p2, h3.kept p3 hnt, fun k hk => h4 k (p4 ▸ hk), h5⟩, f, a1, a2, hg.1, a4, by omega, a6⟩,
    (Chg.of_below h0).then p3 (fun k hk => .inl (by rcases hk with rfl | hk; exact f; exact (h4 k hk).1)), fun k hk => .inl hk⟩

theorem drop_tunnels {tb : Nat} {F : Nat → Prop} {most : Int} {L T : List S95} {w0 w : World} (h0 : Below w0.heap.size w0 w) (tt : Tab w0 tb F most L T) (t : Int) (k1 : -9223372036854775808 ≤ t) (k2 : t ≤ 9223372036854775807) :
    Calls Try.prog 86 #[.pointer (some ⟨tb, 2, none⟩), .int .i64 t] w (TabPost tb F most L (dropL T t).1 (dropL T t).2 w0) := by
  have t' := tt.below h0
  obtain ⟨⟨vl, vt, h1, h2, h3, h4, h5⟩, f, a1, a2, a3, a4, a5, a6⟩ := t'
  refine (drop_any tb 2 115 _ vt T t w h1 (by omega) rfl h3 a4 (by omega) k1 k2).mono ?_
  rintro e w' ⟨v', rfl, p1, p2, p3, p4⟩
  have hg := dropL_good a4 t
  have hnt : ∀ k, vl.ownBlock = some k → ¬ (k = tb ∨ vt.ownBlock = some k) := fun k hk hh => by
    rcases hh with rfl | hh
    · exact h2.ne h1 (by omega) hk
    · exact (h4 k hk).2 hh
  exact ⟨F, rfl, ⟨⟨vl, v', p1, h2.kept p3 hnt, p2, fun k hk => ⟨(h4 k hk).1, fun hh => (h4 k hk).2 (p4 ▸ hh)⟩, fun k hk => h5 k (p4 ▸ hk)⟩, f, a1, a2, a3, hg.1, a5, by omega⟩,
    (Chg.of_below h0).then p3 (fun k hk => .inl (by rcases hk with rfl | hk; exact f; exact h5 k hk)), fun k hk => .inl hk⟩

set_option maxRecDepth 100000 in
set_option maxHeartbeats 1000000 in
theorem free_any (tb : Nat) (F : Nat → Prop) (most : Int) (L T : List S95) (t : Int) (w : World) (tt : Tab w tb F most L T) (k1 : -9223372036854775808 ≤ t) (k2 : t ≤ 9223372036854775807) :
    Calls Try.prog 48 #[.pointer (some ⟨tb, 0, none⟩), .int .i64 t] w (TabPost tb F most (dropL L t).1 T (dropL L t).2 w) := by
  have HT := Aside0.mk tt
  have hm := tt.made
  clear tt
  go_enter Try.func48, Try.ntmps48
  go_wp2_with fail
  refine (good_true _ _ hm).mono ?_
  rintro e w1 ⟨rfl, rfl⟩
  go_wp2_with fail
  refine (drop_labels (Below.refl _ _) HT.out t k1 k2).mono ?_
  rintro e w3 ⟨F', rfl, q1, q2, q3⟩
  have HQ1 := Aside0.mk q1; have HQ2 := Aside0.mk q2; have HQ3 := Aside0.mk q3
  clear q1 q2 q3
  go_wp2
  go_ret
  exact ⟨F', rfl, HQ1.out, HQ2.out, HQ3.out⟩

set_option maxRecDepth 100000 in
set_option maxHeartbeats 1000000 in
theorem unmap_any (tb : Nat) (F : Nat → Prop) (most : Int) (L T : List S95) (t : Int) (w : World) (tt : Tab w tb F most L T) (k1 : -9223372036854775808 ≤ t) (k2 : t ≤ 9223372036854775807) :
    Calls Try.prog 52 #[.pointer (some ⟨tb, 0, none⟩), .int .i64 t] w (TabPost tb F most L (dropL T t).1 (dropL T t).2 w) := by
  have HT := Aside0.mk tt
  have hm := tt.made
  clear tt
  go_enter Try.func52, Try.ntmps52
  go_wp2_with fail
  refine (good_true _ _ hm).mono ?_
  rintro e w1 ⟨rfl, rfl⟩
  go_wp2_with fail
  refine (drop_tunnels (Below.refl _ _) HT.out t k1 k2).mono ?_
  rintro e w3 ⟨F', rfl, q1, q2, q3⟩
  have HQ1 := Aside0.mk q1; have HQ2 := Aside0.mk q2; have HQ3 := Aside0.mk q3
  clear q1 q2 q3
  go_wp2
  go_ret
  exact ⟨F', rfl, HQ1.out, HQ2.out, HQ3.out⟩
end Go.Proofs.Ytmnpmjphhkiedaa.LF
