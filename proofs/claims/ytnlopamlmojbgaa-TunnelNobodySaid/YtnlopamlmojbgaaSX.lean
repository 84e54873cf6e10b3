/-
  What the law does.
-/
import Derived.Test.YtnlopamlmojbgaaCAL
import Derived.Test.YtnlopamlmojbgaaS3
set_option linter.unusedSimpArgs false
set_option linter.unusedVariables false
/- The law TunnelNobody, walked. -/
namespace Go.Proofs.Ytnlopamlmojbgaa.AC
open Go Go.AI Go.Proofs Go.Proofs.Ytnlopamlmojbgaa.AQ
set_option linter.unusedVariables false
set_option linter.unusedSimpArgs false
def BadM (A : AH) (v : Value) : Prop := v = .pointer none ∨ ∃ b, v = .pointer (some ⟨b, 0, none⟩) ∧ A.get b = some (.row [.int .i64 0, .int .i64 0, .slice none 0 0, .int .i64 0, .slice none 0 0, .slice none 0 0] 68 false)
theorem BadM.ext {A A' : AH} {v : Value} (h : BadM A v) (hw : A.wf) (hx : Ext A A') : BadM A' v := h.imp id fun ⟨b, h1, h2⟩ => ⟨b, h1, hx.get hw h2⟩
section
variable {A : AH} {v : Value}
theorem bgood_ok (h : BadM A v) : ACall Try.prog 19 [v] A fun r A' => r = .bool false ∧ A' = A := by
  rcases h with rfl | ⟨b, rfl, g⟩
  · refine code19.call (by simp) fun hwf => ?_
    unfold c19
    simp
    exact DN.of ⟨rfl, rfl⟩
  · refine code19.call (by simp) fun hwf => ?_
    unfold c19
    simp [g]
    exact DN.of ⟨rfl, rfl⟩
theorem bActions_ok (h : BadM A v) : ACall Try.prog 12 [v] A fun r A' => r = .slice none 0 0 ∧ Ext A A' := by
  refine code12.call (by simp) fun hwf => ?_
  unfold c12
  simp
  refine CN.use (bgood_ok h) ?_
  rintro _ A2 - - ⟨rfl, rfl⟩
  simp
  exact DN.of ⟨rfl, Ext.refl _⟩
theorem bLines_ok (h : BadM A v) : ACall Try.prog 10 [v] A fun r A' => r = .slice none 0 0 ∧ Ext A A' := by
  refine code10.call (by simp) fun hwf => ?_
  unfold c10
  simp
  refine CN.use (bgood_ok h) ?_
  rintro _ A2 - - ⟨rfl, rfl⟩
  simp
  exact DN.of ⟨rfl, Ext.refl _⟩
theorem bTunnels_ok (h : BadM A v) : ACall Try.prog 13 [v] A fun r A' => r = .slice none 0 0 ∧ Ext A A' := by
  refine code13.call (by simp) fun hwf => ?_
  unfold c13
  simp
  refine CN.use (bgood_ok h) ?_
  rintro _ A2 - - ⟨rfl, rfl⟩
  simp
  exact DN.of ⟨rfl, Ext.refl _⟩
theorem bevent_ok (h : BadM A v) (now : Value) (e : Ev) : ACall Try.prog 18 [v, now, .agg e.enc.toArray] A fun r A' => r = .int .i64 1 ∧ Ext A A' := by
  refine ACall.wf fun hwf => ?_
  have el : e.enc.length = 6 := rfl
  have x1 := Ext.alloc A (.row e.enc 78 false)
  refine code18.call (by simp) fun hwf => ?_
  unfold c18
  simp [el]
  refine CN.use (bgood_ok (h.ext hwf x1)) ?_
  rintro _ A2 - - ⟨rfl, rfl⟩
  simp
  exact DN.of ⟨rfl, x1⟩
theorem bcreate_ok (h : BadM A v) (now n t : Value) (w : Wt) (l : Value) : ACall Try.prog 9 [v, now, n, t, .agg w.enc.toArray, l] A fun r A' => r = .int .i64 1 ∧ Ext A A' := by
  refine ACall.wf fun hwf => ?_
  have wl : w.enc.length = 6 := rfl
  have x1 := Ext.alloc A (.row w.enc 36 false)
  refine code9.call (by simp) fun hwf => ?_
  unfold c9
  simp [wl]
  refine CN.use (bgood_ok (h.ext hwf x1)) ?_
  rintro _ A2 - - ⟨rfl, rfl⟩
  simp
  exact DN.of ⟨rfl, x1⟩
theorem bmodify_ok (h : BadM A v) (now n : Value) (w : Wt) (l : Value) : ACall Try.prog 33 [v, now, n, .agg w.enc.toArray, l] A fun r A' => r = .int .i64 1 ∧ Ext A A' := by
  refine ACall.wf fun hwf => ?_
  have wl : w.enc.length = 6 := rfl
  have x1 := Ext.alloc A (.row w.enc 36 false)
  refine code33.call (by simp) fun hwf => ?_
  unfold c33
  simp [wl]
  refine CN.use (bgood_ok (h.ext hwf x1)) ?_
  rintro _ A2 - - ⟨rfl, rfl⟩
  simp
  exact DN.of ⟨rfl, x1⟩
theorem bdelete_ok (h : BadM A v) (n : Value) : ACall Try.prog 34 [v, n] A fun r A' => r = .int .i64 1 ∧ Ext A A' := by
  refine code34.call (by simp) fun hwf => ?_
  unfold c34
  simp
  refine CN.use (bgood_ok h) ?_
  rintro _ A2 - - ⟨rfl, rfl⟩
  simp
  exact DN.of ⟨rfl, Ext.refl _⟩
theorem btick_ok (h : BadM A v) (n l : Value) : ACall Try.prog 11 [v, n, l] A fun r A' => r = .int .i64 1 ∧ Ext A A' := by
  refine code11.call (by simp) fun hwf => ?_
  unfold c11
  simp
  refine CN.use (bgood_ok h) ?_
  rintro _ A2 - - ⟨rfl, rfl⟩
  simp
  exact DN.of ⟨rfl, Ext.refl _⟩
theorem brestart_ok (h : BadM A v) (n : Value) : ACall Try.prog 35 [v, n] A fun r A' => r = .int .i64 1 ∧ Ext A A' := by
  refine code35.call (by simp) fun hwf => ?_
  unfold c35
  simp
  refine CN.use (bgood_ok h) ?_
  rintro _ A2 - - ⟨rfl, rfl⟩
  simp
  exact DN.of ⟨rfl, Ext.refl _⟩
set_option maxHeartbeats 4000000 in
theorem bact_ok (h : BadM A v) (y : AtM) (hy : y.ok A) (hl : y.x.l.length ≤ 1000) : ACall Try.prog 14 [v, .agg y.enc.toArray] A fun r A' => r = .int .i64 1 ∧ Ext A A' := by
  obtain ⟨hs, hx, hw, hk6⟩ := hy
  have hrow : y.enc = [.int .u8 y.x.kind, .int .i64 y.x.now, .int .i64 y.x.tn, .int .i64 y.x.tl, .int .u64 y.x.w.bw, .int .i64 y.x.w.setup, .int .i64 y.x.w.hold, .int .u32 y.x.w.any, .int .u32 y.x.w.all, .int .u32 y.x.w.no, .int .i64 y.x.e.what, .int .i64 y.x.e.k.tail, .int .i64 y.x.e.k.tunnel, .int .i64 y.x.e.k.head, .int .i64 y.x.e.k.lsp, .int .i64 y.x.e.code, .slice y.a y.x.l.length y.c] := rfl
  refine ACall.wf fun hwf => ?_
  have hobx : ∃ A1, A1 = A.alloc (.row y.enc 54 false) := ⟨_, rfl⟩
  obtain ⟨A1, hA1⟩ := hobx
  have w1 : A1.wf := by rw [hA1]; exact AH.wf_alloc hwf _
  have n1 : A1.next = A.next + 1 := by rw [hA1]; rfl
  have x1 : Ext A A1 := by rw [hA1]; exact Ext.alloc A _
  have ge : A1.get A.next = some (.row y.enc 54 false) := by rw [hA1, AH.get_new]
  rw [hrow] at hA1 ge
  have h1 := h.ext hwf x1
  have hmod : y.x.kind % 6 < 6 := Nat.mod_lt _ (by omega)
  have hobx : ∃ k, k = y.x.kind % 6 := ⟨_, rfl⟩
  obtain ⟨k, hk⟩ := hobx
  have hkm : ((y.x.kind : Int).tmod 6) = (k : Int) := by rw [Int.tmod_eq_emod_of_nonneg (by omega)]; omega
  have hku : IntKind.u8.wrap (k : Int) = (k : Int) := by
    have : k = 0 ∨ k = 1 ∨ k = 2 ∨ k = 3 ∨ k = 4 ∨ k = 5 := by omega
    rcases this with e | e | e | e | e | e <;> rw [e] <;> rfl
  refine code14.call (by simp) fun hwf => ?_
  unfold c14
  simp [hrow, ← hA1, ge]
  refine CN.use (adverts_ok (hs.ext hwf x1) hx hl) ?_
  rintro v2 A2 hw2 hn2 ⟨x2, o2⟩
  have hobt := own_slm o2
  obtain ⟨a2, c2, rfl, s2, -⟩ := hobt
  have h2 := h1.ext w1 x2
  have x02 := x1.trans (by omega) x2
  have ge2 := x2.get w1 ge
  have hc : k = 0 ∨ k = 1 ∨ k = 2 ∨ k = 3 ∨ k = 4 ∨ k = 5 := by omega
  rcases hc with e | e | e | e | e | e
  · simp [ge2, hkm, hku, e]
    refine CN.use (bevent_ok h2 _ y.x.e) ?_
    rintro _ A3 hw3 hn3 ⟨rfl, x3⟩
    simp
    exact DN.of ⟨rfl, x02.trans (by omega) x3⟩
  · simp [ge2, hkm, hku, e]
    refine CN.use (bcreate_ok h2 _ _ _ y.x.w _) ?_
    rintro _ A3 hw3 hn3 ⟨rfl, x3⟩
    simp
    exact DN.of ⟨rfl, x02.trans (by omega) x3⟩
  · simp [ge2, hkm, hku, e]
    refine CN.use (bmodify_ok h2 _ _ y.x.w _) ?_
    rintro _ A3 hw3 hn3 ⟨rfl, x3⟩
    simp
    exact DN.of ⟨rfl, x02.trans (by omega) x3⟩
  · simp [ge2, hkm, hku, e]
    refine CN.use (bdelete_ok h2 _) ?_
    rintro _ A3 hw3 hn3 ⟨rfl, x3⟩
    simp
    exact DN.of ⟨rfl, x02.trans (by omega) x3⟩
  · simp [ge2, hkm, hku, e]
    refine CN.use (btick_ok h2 _ _) ?_
    rintro _ A3 hw3 hn3 ⟨rfl, x3⟩
    simp
    exact DN.of ⟨rfl, x02.trans (by omega) x3⟩
  · simp [ge2, hkm, hku, e]
    refine CN.use (brestart_ok h2 _) ?_
    rintro _ A3 hw3 hn3 ⟨rfl, x3⟩
    simp
    exact DN.of ⟨rfl, x02.trans (by omega) x3⟩
end
set_option maxHeartbeats 4000000 in
theorem nobody_walk {A : AH} (y : AtM) (hy : y.ok A) : ACall Try.prog 5 [.agg y.enc.toArray] A fun v A' => v = .bool true := by
  refine ACall.wf fun hwf => ?_
  have yl : y.enc.length = 17 := rfl
  have e16 : y.enc[16]'(by omega) = .slice y.a y.x.l.length y.c := rfl
  have yt : y.enc.take 17 = y.enc := rfl
  have hobx : ∃ A1, A1 = A.alloc (.row y.enc 54 false) := ⟨_, rfl⟩
  obtain ⟨A1, hA1⟩ := hobx
  have w1 : A1.wf := by rw [hA1]; exact AH.wf_alloc hwf _
  have n1 : A1.next = A.next + 1 := by rw [hA1]; rfl
  have x1 : Ext A A1 := by rw [hA1]; exact Ext.alloc A _
  have ge : A1.get A.next = some (.row y.enc 54 false) := by rw [hA1, AH.get_new]
  refine code5.call (by simp) fun hwf => ?_
  unfold c5
  simp [yl, ← hA1]
  refine CN.use (alive_ok A1) ?_
  rintro _ A2 hw2 hn2 ⟨rfl, x2⟩
  have x02 := x1.trans (by omega) x2
  have g2 := x2.get w1 ge
  by_cases h100 : 100 < y.x.l.length
  · have h100' : (100 : Int) < y.x.l.length := by omega
    simp [g2, yl, e16, h100']
    exact DN.of rfl
  have h100' : ¬ (100 : Int) < y.x.l.length := by omega
  simp [g2, yl, e16, h100']
  have hobx : ∃ A3, A3 = (A2.alloc (.row [.int .i64 0, .int .i64 0, .slice none 0 0, .int .i64 0, .slice none 0 0, .slice none 0 0] 68 false)).alloc (.row [.pointer none, .pointer (some ⟨A2.next, 0, none⟩)] 23 false) := ⟨_, rfl⟩
  obtain ⟨A3, hA3⟩ := hobx
  have w3 : A3.wf := by rw [hA3]; exact AH.wf_alloc (AH.wf_alloc hw2 _) _
  have n3 : A3.next = A2.next + 2 := by rw [hA3]; rfl
  have x3 : Ext A2 A3 := by rw [hA3]; exact (Ext.alloc A2 _).trans (by simp) (Ext.alloc _ _)
  have gm : A3.get A2.next = some (.row [.int .i64 0, .int .i64 0, .slice none 0 0, .int .i64 0, .slice none 0 0, .slice none 0 0] 68 false) := by rw [hA3]; simp [AH.get_alloc]
  have gl : A3.get (A2.next + 1) = some (.row [.pointer none, .pointer (some ⟨A2.next, 0, none⟩)] 23 false) := by rw [hA3]; simp [AH.get_alloc]
  have x03 := x02.trans (by omega) x3
  have g3 := x3.get hw2 g2
  refine LN.use (fun k E A' => ∃ i : Nat, k + i = 2 ∧ Ext A3 A' ∧ A3.next ≤ A'.next ∧ E.get 1 = .pointer (some ⟨A.next, 0, none⟩) ∧ E.get 13 = .slice (some ⟨A2.next + 1, 0, none⟩) 2 2 ∧ E.get 14 = .int .i64 2 ∧ E.get 15 = .int .i64 i) 2
    ⟨0, by omega, by rw [← hA3]; exact Ext.refl _, by rw [← hA3]; omega, by simp, by simp, by simp, by simp⟩ ?_
  rintro k E A4 hw4 hn4 ⟨i, hi, x4, n4, E1, E13, E14, E15⟩
  have g4 := x4.get w3 g3
  have gl4 := x4.get w3 gl
  have x04 := x03.trans (by omega) x4
  have yo : y.ok A4 := ⟨hy.1.ext hwf x04, hy.2⟩
  have hi3 : i = 0 ∨ i = 1 ∨ i = 2 := by omega
  rcases hi3 with e | e | e
  · have hb : BadM A4 (.pointer none) := Or.inl rfl
    have hgi : IntKind.i64.wrap (1 : Int) = 1 := i64_in (by omega) (by omega)
    simp [E1, E13, E14, E15, e, gl4, g4, yl, yt]
    refine CN.use (bact_ok hb y yo (by omega)) ?_
    rintro _ A5 hw5 hn5 ⟨rfl, x5⟩
    simp
    refine CN.use (bActions_ok (hb.ext hw4 x5)) ?_
    rintro _ A6 hw6 hn6 ⟨rfl, x6⟩
    simp
    refine CN.use (bLines_ok ((hb.ext hw4 x5).ext hw5 x6)) ?_
    rintro _ A7 hw7 hn7 ⟨rfl, x7⟩
    simp
    refine CN.use (bTunnels_ok (((hb.ext hw4 x5).ext hw5 x6).ext hw6 x7)) ?_
    rintro _ A8 hw8 hn8 ⟨rfl, x8⟩
    simp [E15, e, hgi]
    exact NX.of ⟨k - 1, by omega, 1, by omega, (((x4.trans (by omega) x5).trans (by omega) x6).trans (by omega) x7).trans (by omega) x8, by omega, by simp [E1], by simp [E13], by simp [E14], by simp [hgi]⟩
  · have hb : BadM A4 (.pointer (some ⟨A2.next, 0, none⟩)) := Or.inr ⟨A2.next, rfl, x4.get w3 gm⟩
    have hgi : IntKind.i64.wrap (2 : Int) = 2 := i64_in (by omega) (by omega)
    simp [E1, E13, E14, E15, e, gl4, g4, yl, yt]
    refine CN.use (bact_ok hb y yo (by omega)) ?_
    rintro _ A5 hw5 hn5 ⟨rfl, x5⟩
    simp
    refine CN.use (bActions_ok (hb.ext hw4 x5)) ?_
    rintro _ A6 hw6 hn6 ⟨rfl, x6⟩
    simp
    refine CN.use (bLines_ok ((hb.ext hw4 x5).ext hw5 x6)) ?_
    rintro _ A7 hw7 hn7 ⟨rfl, x7⟩
    simp
    refine CN.use (bTunnels_ok (((hb.ext hw4 x5).ext hw5 x6).ext hw6 x7)) ?_
    rintro _ A8 hw8 hn8 ⟨rfl, x8⟩
    simp [E15, e, hgi]
    exact NX.of ⟨k - 1, by omega, 2, by omega, (((x4.trans (by omega) x5).trans (by omega) x6).trans (by omega) x7).trans (by omega) x8, by omega, by simp [E1], by simp [E13], by simp [E14], by simp [hgi]⟩
  · simp [E14, E15, e]
    exact DN.of rfl
end Go.Proofs.Ytnlopamlmojbgaa.AC
