/-
  What the functions of the program, and those of the law, do.
-/
import Derived.Test.YtanpbdbicicepaaS1
import Derived.Test.YtanpbdbicicepaaP2
/- The law SoftPuts, walked. -/
namespace Go.Proofs.Ytanpbdbicicepaa.AC
open Go Go.AI Go.Proofs Go.Proofs.Ytanpbdbicicepaa.AQ
set_option linter.unusedVariables false
set_option maxHeartbeats 4000000 in
theorem softPuts_walk {A : AH} {a : Option Addr} {c : Nat} {acts : List Act} {s : RS} (h : Sl A 36 19 a (acts.map Act.enc)) (hr : ∀ x ∈ acts, x.r.arg A) (hs : s.arg A) :
    ACall Try.prog 6 [.slice a acts.length c, .agg s.enc.toArray] A fun v A' => v = .bool true := by
  refine code6.call (by simp) fun hwf => ?_
  unfold c6
  simp
  have x0 : Ext A (A.alloc (.row s.enc 34 false)) := Ext.alloc A _
  refine CN.use (alive_ok _) ?_
  rintro _ A1 hw1 hn1 ⟨rfl, x1⟩
  simp at hn1
  have z1 : A1.get A.next = some (.row s.enc 34 false) := by rw [x1 _ (by simp)]; simp
  have x01 := x0.trans (by simp) x1
  simp
  refine CN.use (new_ok (by decide) A1) ?_
  rintro _ A2 hw2 hn2 ⟨rfl, x2, t2⟩
  have htb : A1.next < A2.next := by obtain ⟨v0, t0, -⟩ := t2.row; exact hw2 _ _ t0
  have z2 := x2.get hw1 z1
  simp
  refine LN.use (fun m E A' => ∃ (i : Nat) (ob : Option Nat) (L : List RS), m + i = 40 ∧ Ext A A' ∧ A'.get A.next = some (.row s.enc 34 false) ∧ A2.next ≤ A'.next ∧ Tab A' A1.next 64 ob L ∧ Srt L ∧ L.length ≤ i ∧ Fresh A1.next ob ∧ E.get 0 = .slice a acts.length c ∧ E.get 3 = .pointer (some ⟨A.next, 0, none⟩) ∧ E.get 5 = .pointer (some ⟨A1.next, 0, none⟩) ∧ E.get 6 = .int .i64 i) 40
    ⟨0, none, [], by simp, x01.trans (by omega) x2, z2, Nat.le_refl _, t2, Srt.nil, by simp, Fresh.no _, by simp, by simp, by simp, by simp⟩ ?_
  rintro m E A3 hw3 hn3 ⟨i, ob, L, hi, hx, z3, hn, ht, hsrt, hlen, hob, e0, e3, e5, e6⟩
  by_cases hgo : i < acts.length ∧ (i : Int) < 40
  · simp [e0, e6, hgo.1, hgo.2]
    have hobt := (h.ext hwf hx).at (i := i) (by simpa using hgo.1)
    obtain ⟨b0, o, cs, ro, rfl, g1, g2, g3⟩ := hobt
    rw [List.getElem_map] at g3
    have hmem := List.getElem_mem hgo.1
    have hrx := hr _ hmem
    generalize acts[i] = x at g3 hrx
    have hobt := act_cell g3
    obtain ⟨g4, g5⟩ := hobt
    simp [e0, e6, hgo.1, g1, g4]
    split
    · rename_i h1000
      have hok := (hrx.ok (by omega)).ext hwf hx
      have g6 : o + i * 19 + 1 + 17 ≤ cs.length := by omega
      simp [g5, g6]
      refine CN.use (theirs_ok x.r) ?_
      rintro _ A4 hw4 hn4 ⟨x4, rfl⟩
      simp [e5]
      refine CN.use (put_ok (ht.kept hw3 x4) (by decide) (by decide) (hok.ext hw3 x4)) ?_
      rintro _ A5 hw5 hn5 ⟨rfl, r', q1, -, hP⟩
      rw [putL_eq hsrt] at hP
      obtain ⟨ob', q2, q3, q4, -⟩ := hP
      have hob' : Fresh A1.next ob' := by
        rcases q4 with rfl | ⟨b', rfl, hb'⟩
        · exact hob
        · exact Fresh.yes (by omega)
      simp [e6]
      refine NX.of ⟨m - 1, by omega, i + 1, ob', _, by omega, fun j hj => ?_, ?_, by omega, q2, srt_put hsrt _ _, by have := rputL_len 64 L r'; omega, hob', by simp [e0], by simp [e3], by simp [e5], by simp [i64_in (x := (i : Int) + 1) (by omega) (by omega)]⟩
      · rw [q3 j (by omega) (by omega) (fun e => by have := hob _ e; omega), x4 j (by omega), hx j hj]
      · rw [q3 A.next (by omega) (by omega) (fun e => by have := hob _ e; omega), x4 A.next (by omega), z3]
    · rename_i h1000
      exact NX.of ⟨m - 1, by omega, i + 1, ob, L, by omega, hx, z3, hn, ht, hsrt, by omega, hob, by simp [e0], by simp [e3], by simp [e5], by simp [i64_in (x := (i : Int) + 1) (by omega) (by omega)]⟩
  · have hex : ¬ i < acts.length ∨ (i < acts.length ∧ ¬ (i : Int) < 40) := by omega
    rcases hex with k1 | ⟨k1, k2⟩
    all_goals
      simp [*]
      clear k1
      split
      · exact DN.of rfl
      rename_i hlong
      have hok := hs.ok (by omega)
      refine CN.use (all_ok ht (by decide)) ?_
      rintro _ A4 hw4 hn4 ⟨y4, W, bW, lW1, lW2, lW3, lW4⟩
      have hobt := slm2 lW1
      obtain ⟨aW, cW, rfl, lW6, lW7⟩ := hobt
      have htL := ht.row
      have hobn : ∀ i, ob = some i → i < A3.next := fun i e => by obtain ⟨v0, -, h5⟩ := htL; exact h5.lt hw3 e
      have htbn : A1.next < A3.next := by omega
      have rW : Rdl A4 39 aW W := ⟨lW6, fun r hr => (lW4 r hr).1⟩
      have hbW := lW1.lt hw4 rfl
      have fW : ∀ b o, aW = some ⟨b, o, none⟩ → A3.next ≤ b ∧ b < A4.next := fun b o e => by have := lW7 b o e; injection this with this; omega
      have mW : ∀ r ∈ W, mayB r.s = true := map_mem (p := fun s => mayB s = true) lW2 fun r hr => (ht.rts r hr).2.1
      have fW2 : ∀ r ∈ W, ∀ b o, r.a = some ⟨b, o, none⟩ → A3.next ≤ b ∧ b < A4.next := fun r hr b o e => by
        refine ⟨((lW4 r hr).2.1 b o e).1, ?_⟩
        have hq := (lW4 r hr).1.blk (mW r hr)
        obtain ⟨b', o', x', q1, q2⟩ := hq
        rw [q1] at e; injection e with e; injection e with e _
        have := hw4 _ _ q2; omega
      clear lW1 lW6 lW7 lW4
      have t4 := ht.kept hw3 y4
      have z4 := y4.get hw3 z3
      have ok4 := (hok.ext hwf hx).ext hw3 y4
      simp [e3, z4]
      refine CN.use (theirs_ok s) ?_
      rintro _ A5 hw5 hn5 ⟨y5, rfl⟩
      have t5 := t4.kept hw4 y5
      have rW5 := rW.ext hw4 y5
      have z5 := y5.get hw4 z4
      simp [e5]
      refine CN.use (put_ok t5 (by decide) (by decide) (ok4.ext hw4 y5)) ?_
      rintro _ A6 hw6 hn6 ⟨rfl, s', hs', -, hP⟩
      rw [putL_eq hsrt] at hP
      have rW6 := rW5.tab hw5 hP (fun b o e => by have := fW b o e; exact ⟨by omega, fun e2 => by have := hobn _ e2; omega⟩) (fun r hr b o e => by have := fW2 r hr b o e; exact ⟨by omega, fun e2 => by have := hobn _ e2; omega⟩)
      have hsrt1 := srt_put hsrt 64 s'
      obtain ⟨ob1, t6, p2, p3, -⟩ := hP
      have z6 := (p2 A.next (by omega) (by omega) (fun e => by have := hob _ e; omega)).trans z5
      have ok6 := hs.ok (by omega)
      have x6 : Ext A A6 := fun j hj => by rw [p2 j (by omega) (by omega) (fun e => by have := hob _ e; omega), y5 j (by omega), y4 j (by omega), hx j hj]
      simp [e5]
      refine CN.use (all_ok t6 (by decide)) ?_
      rintro _ A7 hw7 hn7 ⟨y7, N, bN, lN1, lN2, lN3, lN4⟩
      have hobt := slm2 lN1
      obtain ⟨aN, cN, rfl, lN6, lN7⟩ := hobt
      have hbN := lN1.lt hw7 rfl
      have fN : ∀ b o, aN = some ⟨b, o, none⟩ → A6.next ≤ b ∧ b < A7.next := fun b o e => by have := lN7 b o e; injection this with this; omega
      have mN : ∀ r ∈ N, mayB r.s = true := map_mem (p := fun s => mayB s = true) lN2 fun r hr => (t6.rts r hr).2.1
      have fN2 : ∀ r ∈ N, ∀ b o, r.a = some ⟨b, o, none⟩ → A6.next ≤ b ∧ b < A7.next := fun r hr b o e => by
        refine ⟨((lN4 r hr).2.1 b o e).1, ?_⟩
        have hq := (lN4 r hr).1.blk (mN r hr)
        obtain ⟨b', o', x', q1, q2⟩ := hq
        rw [q1] at e; injection e with e; injection e with e _
        have := hw7 _ _ q2; omega
      have rN : Rdl A7 39 aN N := ⟨lN6, fun r hr => (lN4 r hr).1⟩
      have rW7 := rW6.ext hw6 y7
      have z7 := y7.get hw6 z6
      have hWl : W.length = L.length := by have := congrArg List.length lW2; simpa using this
      have hNl : N.length = (rputL 64 L s').length := by have := congrArg List.length lN2; simpa using this
      have hRl := rputL_len 64 L s'
      have hpc : putC 64 L s.s = if mayB s.s = true then 0 else 2 := by
        rw [putC_eq hsrt]; unfold rputC
        have : ¬ (64 : Int) ≤ L.length := by omega
        simp [this]
      by_cases hm : mayB s.s = true
      rotate_left
      · have hL1 : rputL 64 L s' = L := by rw [rputL, if_neg (by rw [hs']; exact hm)]
        rw [if_neg hm] at hpc
        simp [hpc]
        refine CN.use (list_ok rW7.1 (by omega)) ?_
        rintro _ A8 hw8 hn8 ⟨y8, oa, la, -⟩
        have hobt := la.slm
        obtain ⟨a8, c8, rfl, sa⟩ := hobt
        have rN8 := rN.ext hw7 y8
        simp
        refine CN.use (list_ok rN8.1 (by omega)) ?_
        rintro _ A9 hw9 hn9 ⟨y9, oc, lc, -⟩
        have hobt := lc.slm
        obtain ⟨a9, c9, rfl, sc⟩ := hobt
        simp
        refine CN.use (rall_ok (sa.ext hw8 y9) sc (fun r hr => ((rW7.2 r hr).ext hw7 y8).ext hw8 y9) (fun r hr => (rN8.2 r hr).ext hw8 y9) (by omega)) ?_
        rintro _ A10 hw10 hn10 ⟨rfl, y10⟩
        have hall : allB W N = true := by simp only [allB, decide_eq_true_eq]; rw [lW2, lN2, hL1]
        have z10 := y10.get hw9 (y9.get hw8 (y8.get hw7 z7))
        have x10 : Ext A A10 := fun j hj => by rw [y10 j (by omega), y9 j (by omega), y8 j (by omega), y7 j (by omega), x6 j hj]
        simp [hall, e3, z10]
        refine CN.use (rmay_ok (hok.ext hwf x10)) ?_
        rintro _ A11 - - ⟨rfl, -⟩
        simp [hm, hall]
        exact DN.of rfl
      · rw [if_pos hm] at hpc
        have hL1 : rputL 64 L s' = insL s' (L.filter (otherB s.s.key)) := by
          have : ¬ (64 : Int) ≤ L.length := by omega
          rw [rputL, if_pos (by rw [hs']; exact hm), if_neg (fun e => this e.2), rins_eq, rdropL_eq, hs']
        have hkey : s'.s.key = s.s.key := by rw [hs']
        have hg1 : rgetL (rputL 64 L s') s.s.key = some s' := by rw [hL1]; exact insL_get s' _ hkey _ (filter_has L _)
        have hf1 : (fnd (rputL 64 L s') s.s.key).2 = true := by rw [fnd_some hsrt1, hg1]; rfl
        have hL2 : (rputL 64 L s').filter (otherB s.s.key) = L.filter (otherB s.s.key) := by rw [hL1, insL_filter s' _ hkey, filter_twice]
        have t7 := t6.kept hw6 y7
        simp [hpc, e3, e5, z7]
        refine CN.use (get_ok t7 (by decide) s.s.key) ?_
        rintro _ A8 hw8 hn8 ⟨y8, r1, rfl, ok8, s8, -⟩
        rw [get_eq hsrt1, hg1] at s8
        simp only [Option.map_some, Option.getD_some] at s8
        have z8 := y8.get hw7 z7
        have y9 : Ext A8 (A8.alloc (.row r1.enc 39 false)) := Ext.alloc A8 _
        have hw9 := AH.wf_alloc hw8 (.row r1.enc 39 false)
        have z9 := y9.get hw8 z8
        have hne8 : A.next ≠ A8.next := by have := hw8 _ _ z8; omega
        simp [hf1, e3, z8, hne8]
        refine CN.use (ours_ok r1) ?_
        rintro _ A10 hw10 hn10 ⟨y10, rfl⟩
        simp at hn10
        have z10 := y10.get hw9 z9
        have x8 : Ext A A8 := fun j hj => by rw [y8 j (by omega), y7 j (by omega), x6 j hj]
        have x10 : Ext A A10 := fun j hj => by rw [y10 j (by simp; omega), y9 j (by omega), x8 j hj]
        simp [e3, z10]
        refine CN.use (rsameS_ok ((ok8.ext hw8 y9).ext hw9 y10) (hok.ext hwf x10)) ?_
        rintro _ A11 hw11 hn11 ⟨rfl, y11⟩
        have hss : sameS r1 s = true := by simp only [sameS, decide_eq_true_eq]; rw [s8, hs']
        have z11 := y11.get hw10 z10
        have x11 : Ext A7 A11 := fun j hj => by rw [y11 j (by omega), y10 j (by simp; omega), y9 j (by omega), y8 j hj]
        have t11 := t7.kept hw7 x11
        have rW11 := rW7.ext hw7 x11
        have rN11 := rN.ext hw7 x11
        simp [hss, e3, e5, z11]
        refine CN.use (drop_ok t11 (by decide) s.s.key) ?_
        rintro _ A12 hw12 hn12 ⟨rfl, hP⟩
        rw [drop_eq hsrt1, hL2] at hP
        have hob1 : ∀ i, ob1 = some i → i < A6.next := fun i e => by have ht6 := t6.row; obtain ⟨v0, -, h5⟩ := ht6; exact h5.lt hw6 e
        have hob1f : Fresh A1.next ob1 := by
          rcases p3 with rfl | ⟨b', rfl, hb'⟩
          · exact hob
          · exact Fresh.yes (by omega)
        have hob1W : ∀ i, A3.next ≤ i → i < A4.next → ob1 ≠ some i := fun i h1 h2 e => by
          rcases p3 with rfl | ⟨b', rfl, hb'⟩
          · have := hobn _ e; omega
          · injection e with e; omega
        have rW12 := rW11.tab hw11 hP (fun b o e => by have := fW b o e; exact ⟨by omega, hob1W b this.1 this.2⟩) (fun r hr b o e => by have := fW2 r hr b o e; exact ⟨by omega, hob1W b this.1 this.2⟩)
        have rN12 := rN11.tab hw11 hP (fun b o e => by have := fN b o e; exact ⟨by omega, fun e2 => by have := hob1 _ e2; omega⟩) (fun r hr b o e => by have := fN2 r hr b o e; exact ⟨by omega, fun e2 => by have := hob1 _ e2; omega⟩)
        obtain ⟨ob2, t12, s2, s3, -⟩ := hP
        have z12 := (s2 A.next (by omega) (by omega) (fun e => by have := hob1f _ e; omega)).trans z11
        have hsN : Srt N := srt_map lN2.symm hsrt1
        have hrest : (W.filter (otherB s.s.key)).map RS.s = (L.filter (otherB s.s.key)).map RS.s := filter_map lW2 _
        have hleft : (N.filter (otherB s.s.key)).map RS.s = (L.filter (otherB s.s.key)).map RS.s := by rw [filter_map lN2 _, hL2]
        clear rW11 rN11 z11 z10 z9 z8 z7 z6 z5 z4 rW7 rN rW6 rW5 rW t11 t7 t6 t5 t4 lN1 lN6 lN7 lN4 p2 p3 s2 s3 fW fW2 fN fN2 y11 y10 y9 y8 y7 y5 y4
        simp [hf1]
        refine CN.use (list_ok rW12.1 (by omega)) ?_
        rintro _ A13 hw13 hn13 ⟨y13, oW, lW, -⟩
        have hobt := lW.slm
        obtain ⟨a13, c13, rfl, sW⟩ := hobt
        have z13 := y13.get hw12 z12
        have rN13 := rN12.ext hw12 y13
        have t13 := t12.kept hw12 y13
        have rW13 : ∀ r ∈ W, r.ok A13 := fun r hr => (rW12.2 r hr).ext hw12 y13
        simp
        refine LN.use (fun m E A' => ∃ (j : Nat) (ob' : Option Nat) (v : Value), m + j = W.length ∧ Ext A13 A' ∧ A13.next ≤ A'.next ∧ Lst A' 34 17 ob' v (((W.take j).filter (otherB s.s.key)).map RS.enc) ∧ Fresh A13.next ob' ∧ E.get 3 = .pointer (some ⟨A.next, 0, none⟩) ∧ E.get 5 = .pointer (some ⟨A1.next, 0, none⟩) ∧ E.get 9 = .slice aN N.length cN ∧ E.get 12 = v ∧ E.get 13 = .slice none 0 0 ∧ E.get 99 = .slice a13 W.length c13 ∧ E.get 100 = .int .i64 W.length ∧ E.get 101 = .int .i64 j) W.length
          ⟨0, none, _, by simp, Ext.refl A13, Nat.le_refl _, by simpa using Lst.nil A13 _ _, Fresh.no _, by simp [e3], by simp [e5], by simp, by simp, by simp, by simp, by simp, by simp⟩ ?_
        clear e0 e3 e5 e6
        rintro m2 E2 A14 hw14 hn14 ⟨j, ob14, v14, hj, y14, hn14', l14, fob14, f3, f5, f9, f12, f13, f99, f100, f101⟩
        have z14 := y14.get hw13 z13
        simp [f100, f101]
        split
        · rename_i hlt
          have hobt := (sW.ext hw13 y14).at (i := j) (by simpa using hlt)
          obtain ⟨b, o, cs, ro, rfl, h1, h2, h3⟩ := hobt
          rw [List.getElem_map] at h3
          have t1 := filter_succ W s.s.key hlt
          generalize W[j] = x at h3 t1
          have hcnt : ((W.take j).filter (otherB s.s.key)).length ≤ W.length := Nat.le_trans (List.length_filter_le _ _) (by simp; omega)
          have hwj := i64_in (x := (j : Int) + 1) (by omega) (by omega)
          have hne14 : A.next ≠ A14.next := by have := hw14 _ _ z14; omega
          simp [f99, f3, hlt, h1, h2, h3, hne14, z14]
          split
          · rename_i he
            rw [if_neg (by simp [otherB, he]), List.append_nil] at t1
            simp [f101]
            exact NX.of ⟨m2 - 1, by omega, j + 1, ob14, v14, by omega, y14.app hn14' _, by simp; omega, by rw [t1]; exact l14.kept fun b' e => by have := l14.lt hw14 e; rw [AH.get_alloc, if_neg (by omega)], fob14, by simp [f3], by simp [f5], by simp [f9], by simp [f12], by simp [f13], by simp [f99], by simp [f100], by simp [hwj]⟩
          · rename_i he
            rw [if_pos (by simp [otherB, he])] at t1
            have l15 := l14.kept (A' := A14.alloc (.row x.enc 34 false)) fun b' e => by have := l14.lt hw14 e; rw [AH.get_alloc, if_neg (by omega)]
            have hobt := l15.push (y := 144) (r := x.enc) (AH.wf_alloc hw14 _) ⟨rfl, rfl⟩ (by decide) (by decide) (by rw [List.length_map]; omega) (by rw [List.length_map]; omega)
            obtain ⟨v16, A16, ob16, p1, p2, p3, p4, p5⟩ := hobt
            simp at p1 p3 p4 p5
            simp [f12, p1, f101]
            refine NX.of ⟨m2 - 1, by omega, j + 1, ob16, v16, by omega, fun i hi => ?_, by omega, by rw [t1, List.map_append]; exact p2, ?_, by simp [f3], by simp [f5], by simp [f9], by simp, by simp [f13], by simp [f99], by simp [f100], by simp [hwj]⟩
            · rw [p3 i (by omega) (fun e => by have := fob14 _ e; omega), if_neg (by omega), y14 i hi]
            · rcases p4 with rfl | rfl
              · exact fob14
              · exact Fresh.yes (by omega)
        · rename_i hlt
          rw [List.take_of_length_le (by omega)] at l14
          have rN14 := rN13.ext hw13 y14
          have l14f := l14.slm
          obtain ⟨ar, cr, hv14, sr⟩ := l14f
          have t14 := t13.kept hw13 y14
          have rW14 : ∀ r ∈ W, r.ok A14 := fun r hr => (rW13 r hr).ext hw13 y14
          subst hv14
          simp [f9]
          refine CN.use (list_ok rN14.1 (by omega)) ?_
          rintro _ A15 hw15 hn15 ⟨y15, oN, lN, -⟩
          have hobt := lN.slm
          obtain ⟨a15, c15, rfl, sN⟩ := hobt
          have z15 := y15.get hw14 z14
          have rN15 := rN14.ext hw14 y15
          have t15 := t14.kept hw14 y15
          have rW15 : ∀ r ∈ W, r.ok A15 := fun r hr => (rW14 r hr).ext hw14 y15
          have sr15 := sr.ext hw14 y15
          simp
          refine LN.use (fun m E A' => ∃ (j : Nat) (ob' : Option Nat) (v : Value), m + j = N.length ∧ Ext A15 A' ∧ A15.next ≤ A'.next ∧ Lst A' 34 17 ob' v (((N.take j).filter (otherB s.s.key)).map RS.enc) ∧ Fresh A15.next ob' ∧ E.get 3 = .pointer (some ⟨A.next, 0, none⟩) ∧ E.get 5 = .pointer (some ⟨A1.next, 0, none⟩) ∧ E.get 9 = .slice aN N.length cN ∧ E.get 12 = .slice ar (W.filter (otherB s.s.key)).length cr ∧ E.get 13 = v ∧ E.get 116 = .slice a15 N.length c15 ∧ E.get 117 = .int .i64 N.length ∧ E.get 118 = .int .i64 j) N.length
            ⟨0, none, _, by simp, Ext.refl A15, Nat.le_refl _, by simpa using Lst.nil A15 _ _, Fresh.no _, by simp [f3], by simp [f5], by simp [f9], by simp [f12], by simp [f13], by simp, by simp, by simp⟩ ?_
          clear f3 f5 f9 f12 f13 f99 f100 f101
          rintro m3 E3 A16 hw16 hn16 ⟨j, ob16, v16, hj, y16, hn16', l16, fob16, f3, f5, f9, f12, f13, f116, f117, f118⟩
          have z16 := y16.get hw15 z15
          simp [f117, f118]
          split
          · rename_i hlt
            have hobt := (sN.ext hw15 y16).at (i := j) (by simpa using hlt)
            obtain ⟨b, o, cs, ro, rfl, h1, h2, h3⟩ := hobt
            rw [List.getElem_map] at h3
            have t1 := filter_succ N s.s.key hlt
            have hcnt : ((N.take j).filter (otherB s.s.key)).length ≤ N.length := Nat.le_trans (List.length_filter_le _ _) (by simp; omega)
            have hwj := i64_in (x := (j : Int) + 1) (by omega) (by omega)
            have hne16 : A.next ≠ A16.next := by have := hw16 _ _ z16; omega
            have hprev : ∀ hj0 : 0 < j, ∃ (b2 o2 : Nat) (cs2 : List Value) (q2 : TypeId × Bool) (k2 : Key), aN = some ⟨b2, o2, none⟩ ∧ b2 ≠ A16.next ∧ A16.get b2 = some (.row cs2 q2.1 q2.2) ∧ o2 + (j - 1) * 17 + 4 ≤ cs2.length ∧ (cs2.drop (o2 + (j - 1) * 17)).take 4 = k2.enc ∧ k2.bef (N[j]).s.key = true := fun hj0 => by
              have hq := (rN15.1.ext hw15 y16).at (i := j - 1) (by simp; omega)
              obtain ⟨b2, o2, cs2, q2, e1, e2, e3, e4⟩ := hq
              rw [List.getElem_map] at e4
              refine ⟨b2, o2, cs2, q2, (N[j - 1]).s.key, e1, by have := hw16 _ _ e2; omega, e2, by omega, at_head e4 (by omega), ?_⟩
              have := srt_next hsN (i := j - 1) (by omega)
              have ej : j - 1 + 1 = j := by omega
              simpa only [ej] using this
            generalize N[j] = x at h3 t1 hprev
            have l17 := l16.kept (A' := A16.alloc (.row x.enc 34 false)) fun b' e => by have := l16.lt hw16 e; rw [AH.get_alloc, if_neg (by omega)]
            have y17 : Ext A15 (A16.alloc (.row x.enc 34 false)) := y16.app hn16' _
            -- ROUND
            by_cases hj0 : 0 < j
            · have hpv := hprev hj0
              obtain ⟨b2, o2, cs2, q2, k2, e1, e2, g1, g2, g3, g4⟩ := hpv
              have wj1 := i64_in (x := (j : Int) - 1) (by omega) (by omega)
              have wj2 : ((j : Int) - 1).toNat = j - 1 := by omega
              have wj3 : (1 : Int) ≤ j := by omega
              have wj4 : (j : Int) - 1 < N.length := by omega
              simp [f9, f116, f118, hlt, h1, h2, h3, hj0, e1, e2, g1, g2, g3, wj1, wj2, wj3, wj4]
              refine CN.use (rbefore_ok k2 x.s.key _) ?_
              rintro _ A18 hw18 hn18 ⟨y18, rfl⟩
              have hw17 := AH.wf_alloc hw16 (.row x.enc 34 false)
              have z18 := (y17.trans (by simp; omega) y18).get hw15 z15
              have r18 := y18.get hw17 (AH.get_new A16 (.row x.enc 34 false))
              have l18 := l17.kept fun b' e => y18 b' (l17.lt hw17 e)
              simp at hn18
              simp [g4, f3, z18, r18]
              split
              · rename_i he
                rw [if_neg (by simp [otherB, he]), List.append_nil] at t1
                try simp [f118]
                exact NX.of ⟨m3 - 1, by omega, j + 1, ob16, v16, by omega, y17.trans (by simp; omega) y18, by omega, by rw [t1]; exact l18, fob16, by simp [f3], by simp [f5], by simp [f9], by simp [f12], by simp [f13], by simp [f116], by simp [f117], (by first | (simp [hwj]; done) | (simp; rfl))⟩
              · rename_i he
                rw [if_pos (by simp [otherB, he])] at t1
                have hobt := (l18).push (y := 144) (r := x.enc) hw18 ⟨rfl, rfl⟩ (by decide) (by decide) (by rw [List.length_map]; omega) (by rw [List.length_map]; omega)
                obtain ⟨v19, A19, ob19, p1, p2, p3, p4, p5⟩ := hobt
                skip
                simp [f13, p1, f118, r18]
                refine NX.of ⟨m3 - 1, by omega, j + 1, ob19, v19, by omega, fun i hi => ?_, by omega, by rw [t1, List.map_append]; exact p2, ?_, by simp [f3], by simp [f5], by simp [f9], by simp [f12], by simp, by simp [f116], by simp [f117], (by first | (simp [hwj]; done) | (simp; rfl))⟩
                · rw [p3 i (by omega) (fun e => by have := fob16 _ e; omega), y18 i (by simp; omega), AH.get_alloc, if_neg (by omega), y16 i hi]
                · rcases p4 with rfl | rfl
                  · exact fob16
                  · exact Fresh.yes (by omega)
            · obtain rfl : j = 0 := by omega
              simp only [Nat.zero_mul, Nat.add_zero] at h2 h3
              simp [f3, f116, f118, hlt, h1, h2, h3, hne16, z16]
              split
              · rename_i he
                rw [if_neg (by simp [otherB, he]), List.append_nil] at t1
                try simp [f118]
                exact NX.of ⟨m3 - 1, by omega, 0 + 1, ob16, v16, by omega, y17, by simp; omega, by rw [t1]; exact l17, fob16, by simp [f3], by simp [f5], by simp [f9], by simp [f12], by simp [f13], by simp [f116], by simp [f117], (by first | (simp [hwj]; done) | (simp; rfl))⟩
              · rename_i he
                rw [if_pos (by simp [otherB, he])] at t1
                have hobt := (l17).push (y := 144) (r := x.enc) (AH.wf_alloc hw16 _) ⟨rfl, rfl⟩ (by decide) (by decide) (by rw [List.length_map]; omega) (by rw [List.length_map]; omega)
                obtain ⟨v19, A19, ob19, p1, p2, p3, p4, p5⟩ := hobt
                simp at p1 p3 p4 p5
                simp [f13, p1, f118]
                refine NX.of ⟨m3 - 1, by omega, 0 + 1, ob19, v19, by omega, fun i hi => ?_, by omega, by rw [t1, List.map_append]; exact p2, ?_, by simp [f3], by simp [f5], by simp [f9], by simp [f12], by simp, by simp [f116], by simp [f117], (by first | (simp [hwj]; done) | (simp; rfl))⟩
                · rw [p3 i (by omega) (fun e => by have := fob16 _ e; omega), if_neg (by omega), y16 i hi]
                · rcases p4 with rfl | rfl
                  · exact fob16
                  · exact Fresh.yes (by omega)
          · rename_i hlt
            rw [List.take_of_length_le (by omega)] at l16
            have l16f := l16.slm
            obtain ⟨ae, ce, hv16, se⟩ := l16f
            subst hv16
            have t16 := t15.kept hw15 y16
            have rN16 := rN15.ext hw15 y16
            have rW16 : ∀ r ∈ W, r.ok A16 := fun r hr => (rW15 r hr).ext hw15 y16
            have sr16 := sr15.ext hw15 y16
            simp [f3, f5, z16]
            refine CN.use (get_ok t16 (by decide) s.s.key) ?_
            rintro _ A17 hw17 hn17 ⟨y17, r2, rfl, -⟩
            have hgn : (fnd (L.filter (otherB s.s.key)) s.s.key).2 = false := by rw [fnd_has (srt_filter hsrt _), filter_has]
            have y18 : Ext A16 (A17.alloc (.row r2.enc 39 false)) := y17.app hn17 _
            have hw18 := AH.wf_alloc hw17 (.row r2.enc 39 false)
            simp [hgn, f12, f13]
            refine CN.use (rall_ok (sr16.ext hw16 y18) (se.ext hw16 y18) (fun r hr => (rW16 r (List.mem_filter.1 hr).1).ext hw16 y18) (fun r hr => (rN16.2 r (List.mem_filter.1 hr).1).ext hw16 y18) (by have := List.length_filter_le (otherB s.s.key) W; omega)) ?_
            rintro _ A19 hw19 hn19 ⟨rfl, y19⟩
            have hall : allB (W.filter (otherB s.s.key)) (N.filter (otherB s.s.key)) = true := by simp only [allB, decide_eq_true_eq]; rw [hrest, hleft]
            have y20 : Ext A16 A19 := y18.trans (by simp; omega) y19
            simp [hall, f5, f12]
            refine CN.use (all_ok (t16.kept hw16 y20) (by decide)) ?_
            rintro _ A21 hw21 hn21 ⟨y21, Q, bQ, lQ1, lQ2, lQ3, lQ4⟩
            have hobt := lQ1.slm
            obtain ⟨aQ, cQ, rfl, sQ⟩ := hobt
            have hQl : Q.length ≤ L.length := by have := congrArg List.length lQ2; simp at this; have h2 := List.length_filter_le (otherB s.s.key) L; omega
            simp [hall, f12]
            refine CN.use (list_ok sQ (by omega)) ?_
            rintro _ A22 hw22 hn22 ⟨y22, oQ, lR, -⟩
            have hobt := lR.slm
            obtain ⟨aR, cR, rfl, sR⟩ := hobt
            simp [hall, f12]
            refine CN.use (rall_ok (((sr16.ext hw16 y20).ext hw19 y21).ext hw21 y22) sR (fun r hr => (((rW16 r (List.mem_filter.1 hr).1).ext hw16 y20).ext hw19 y21).ext hw21 y22) (fun r hr => (lQ4 r hr).1.ext hw21 y22) (by have := List.length_filter_le (otherB s.s.key) W; omega)) ?_
            rintro _ A23 - - ⟨rfl, -⟩
            have hall2 : allB (W.filter (otherB s.s.key)) Q = true := by simp only [allB, decide_eq_true_eq]; rw [hrest, lQ2]
            simp [hall, hall2]
            exact DN.of rfl
end Go.Proofs.Ytanpbdbicicepaa.AC
/- What is read of the arguments. -/
namespace Go.Proofs.Ytanpbdbicicepaa.AC
open Go Go.AI Go.Proofs Go.Proofs.Ytanpbdbicicepaa.AQ
set_option linter.unusedVariables false
section
variable {A : AH} {n : Nat} {cs : List Value}
theorem int_rd (h : Rd Try.prog A n 3 cs) : ∃ i, cs = [.int .i64 i] ∧ (Lit.int .i64 i).wf = true := Rd_int Try.underlying3 h
theorem route_rd (h : Rd Try.prog A n 32 cs) : ∃ (a : Option Addr) (c : Nat) (l : List Int), cs = [.slice a l.length c] ∧ Sl A 3 1 a (ints l) ∧ CapOk A 3 a l.length c := by
  have hobt := Rd_slice (z := 1) (f := fun i : Int => [.int .i64 i]) (Q := fun _ => True) Try.underlying32 (by kernel_rfl) (by decide) (fun _ => ⟨rfl, rfl⟩) (fun n cs h => by obtain ⟨i, h, -⟩ := int_rd h; exact ⟨i, h, trivial⟩) h
  obtain ⟨a, c, L, h1, h2, h3, -, -⟩ := hobt
  exact ⟨a, c, L, h1, h2, h3⟩
theorem key_rd (h : Rd Try.prog A n 27 cs) : ∃ k : Key, cs = k.enc := by
  have hobt := Rd_struct Try.underlying27 (by kernel_rfl) h
  obtain ⟨n', h⟩ := hobt
  simp only [RdS] at h
  obtain ⟨p0, _, rfl, h0, p1, _, rfl, h1, p2, _, rfl, h2, p3, _, rfl, h3, rfl⟩ := h
  have hobt := int_rd h0
  obtain ⟨i0, rfl, -⟩ := hobt
  have hobt := int_rd h1
  obtain ⟨i1, rfl, -⟩ := hobt
  have hobt := int_rd h2
  obtain ⟨i2, rfl, -⟩ := hobt
  have hobt := int_rd h3
  obtain ⟨i3, rfl, -⟩ := hobt
  exact ⟨⟨i0, i1, i2, i3⟩, rfl⟩
theorem state_rd (h : Rd Try.prog A n 34 cs) : ∃ r : RS, cs = r.enc ∧ r.arg A := by
  have hobt := Rd_struct Try.underlying34 (by kernel_rfl) h
  obtain ⟨n', h⟩ := hobt
  simp only [RdS] at h
  obtain ⟨p0, _, rfl, h0, p1, _, rfl, h1, p2, _, rfl, h2, p3, _, rfl, h3, p4, _, rfl, h4, p5, _, rfl, h5, p6, _, rfl, h6, p7, _, rfl, h7, p8, _, rfl, h8, rfl⟩ := h
  have hobt := key_rd h0
  obtain ⟨k, rfl⟩ := hobt
  have hobt := Rd_struct Try.underlying31 (by kernel_rfl) h1
  obtain ⟨n2, h1⟩ := hobt
  simp only [RdS] at h1
  obtain ⟨q0, _, rfl, g0, q1, _, rfl, g1, q2, _, rfl, g2, q3, _, rfl, g3, q4, _, rfl, g4, q5, _, rfl, g5, rfl⟩ := h1
  have hobt := Rd_int Try.underlying28 g0
  obtain ⟨j0, rfl, -⟩ := hobt
  have hobt := int_rd g1
  obtain ⟨j1, rfl, -⟩ := hobt
  have hobt := int_rd g2
  obtain ⟨j2, rfl, -⟩ := hobt
  have hobt := Rd_int Try.underlying29 g3
  obtain ⟨j3, rfl, -⟩ := hobt
  have hobt := Rd_int Try.underlying29 g4
  obtain ⟨j4, rfl, -⟩ := hobt
  have hobt := Rd_int Try.underlying29 g5
  obtain ⟨j5, rfl, -⟩ := hobt
  have hobt := route_rd h2
  obtain ⟨a, c, l, rfl, hl, hc⟩ := hobt
  have hobt := int_rd h3
  obtain ⟨i3, rfl, -⟩ := hobt
  have hobt := int_rd h4
  obtain ⟨i4, rfl, -⟩ := hobt
  have hobt := int_rd h5
  obtain ⟨i5, rfl, -⟩ := hobt
  have hobt := int_rd h6
  obtain ⟨i6, rfl, -⟩ := hobt
  have hobt := int_rd h7
  obtain ⟨i7, rfl, -⟩ := hobt
  have hobt := int_rd h8
  obtain ⟨i8, rfl, -⟩ := hobt
  exact ⟨⟨⟨k, ⟨j0, j1, j2, j3, j4, j5⟩, l, i3, i4, i5, i6, i7, i8⟩, a, c⟩, rfl, hl, hc⟩
theorem act_rd (h : Rd Try.prog A n 36 cs) : ∃ x : Act, cs = x.enc ∧ x.r.arg A := by
  have hobt := Rd_struct Try.underlying36 (by kernel_rfl) h
  obtain ⟨n', h⟩ := hobt
  simp only [RdS] at h
  obtain ⟨p0, _, rfl, h0, p1, _, rfl, h1, p2, _, rfl, h2, rfl⟩ := h
  have hobt := Rd_bool Try.underlying4 h0
  obtain ⟨d, rfl⟩ := hobt
  have hobt := state_rd h1
  obtain ⟨r, rfl, hr⟩ := hobt
  have hobt := int_rd h2
  obtain ⟨i, rfl, -⟩ := hobt
  exact ⟨⟨d, r, i⟩, rfl, hr⟩
theorem acts_rd (h : Rd Try.prog A n 22 cs) : ∃ (a : Option Addr) (c : Nat) (l : List Act), cs = [.slice a l.length c] ∧ Sl A 36 19 a (l.map Act.enc) ∧ ∀ x ∈ l, x.r.arg A := by
  have hobt := Rd_slice (z := 19) (f := Act.enc) (Q := fun x => x.r.arg A) Try.underlying22 (by kernel_rfl) (by decide) (fun x => ⟨by simp [Act.enc], by simp [Act.enc]⟩) (fun n cs h => act_rd h) h
  obtain ⟨a, c, L, h1, h2, -, -, h3⟩ := hobt
  exact ⟨a, c, L, h1, h2, h3⟩
end
end Go.Proofs.Ytanpbdbicicepaa.AC
