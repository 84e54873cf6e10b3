/-
  What the functions of the program, and those of the law, do.
-/
import Derived.Test.YtiapgbhnbgccaaaS1
import Derived.Test.YtiapgbhnbgccaaaP3
set_option linter.unusedSimpArgs false
set_option linter.unusedVariables false
/- The same adverts, the same question. -/
namespace Go.Proofs.Ytiapgbhnbgccaaa.AC
open Go Go.AI Go.Proofs Go.Proofs.Ytiapgbhnbgccaaa.AQ
set_option linter.unusedVariables false
theorem theirs15_ok {A : AH} (x : Adv) (hx : x.fr.length = 8) : ACall Try.prog 35 [.agg x.enc.toArray] A fun v A' => v = .agg x.enc.toArray ∧ Ext A A' := by
  obtain ⟨⟨f, t, c, m, g⟩, s, up, fr⟩ := x
  obtain ⟨f0, f1, f2, f3, f4, f5, f6, f7, rfl⟩ : ∃ f0 f1 f2 f3 f4 f5 f6 f7, fr = [f0, f1, f2, f3, f4, f5, f6, f7] := by
    match fr, hx with
    | [f0, f1, f2, f3, f4, f5, f6, f7], _ => exact ⟨_, _, _, _, _, _, _, _, rfl⟩
  refine code35.call (by simp) fun hwf => ?_
  unfold c35
  have hn : ¬ A.next = A.next + 1 := by omega
  simp [Adv.enc, Lk.enc, AH.get_alloc, AH.get_set]
  refine DN.of ⟨rfl, fun b hb => ?_⟩
  simp only [AH.get_alloc, AH.get_set, AH.next_alloc]
  rw [if_neg (by omega), if_neg (by omega), if_neg (by omega)]
theorem adverts_ok {A : AH} {al : Option Addr} {cl : Nat} {l : List Adv} (hl : Sl A 72 15 al (l.map Adv.enc)) (hx : ∀ x ∈ l, x.wf) (hn : l.length ≤ 1000) :
    ACall Try.prog 18 [.slice al l.length cl] A fun v A' => Ext A A' ∧ Own A.next A' 55 15 v (l.map Adv.enc) := by
  refine code18.call (by simp) fun hwf => ?_
  unfold c18
  simp
  refine LN.use (fun m E A' => ∃ (k : Nat) (u : Value), m + k = l.length ∧ Ext A A' ∧ A.next ≤ A'.next ∧ Own A.next A' 55 15 u ((l.take k).map Adv.enc) ∧ E.get 3 = u ∧ E.get 6 = .slice al l.length cl ∧ E.get 7 = .int .i64 l.length ∧ E.get 8 = .int .i64 k) l.length
    ⟨0, _, by omega, Ext.refl A, Nat.le_refl _, Own.nil _ _ _ _, by simp, by simp, by simp, by simp⟩ ?_
  rintro m E A1 hw1 hn1 ⟨k, u, hk, x1, n1, o1, E3, E6, E7, E8⟩
  by_cases hlt : k < l.length
  · have hlt' : (k : Int) < l.length := by omega
    have hgi : IntKind.i64.wrap ((k : Int) + 1) = ((k + 1 : Nat) : Int) := by rw [i64_in (by omega) (by omega)]; simp
    have hobt := (hl.ext hwf x1).at (i := k) (by simpa using hlt)
    obtain ⟨b, o, cs, q, rfl, g1, g2, g3⟩ := hobt
    rw [List.getElem_map] at g3
    have hxk := hx _ (List.getElem_mem hlt)
    have hobt := Adv.cells hxk.1
    obtain ⟨xl, xo, xt5, -⟩ := hobt
    have xo' := List.all_eq_true.1 xo
    have xt15 : List.take 15 l[k].enc = l[k].enc := List.take_of_length_le (by omega)
    have x2 := Ext.alloc A1 (.row l[k].enc 72 false)
    have hw2 := AH.wf_alloc hw1 (.row l[k].enc 72 false)
    simp [E6, E7, E8, hlt, hlt', g1, g2, g3, xl, xt15]
    refine ⟨xo', CN.use (theirs15_ok l[k] hxk.1) ?_⟩
    rintro _ A2 hw3 hn3 ⟨rfl, x3⟩
    simp only [AH.next_alloc] at hn3
    have o2 := (o1.ext hw1 x2).ext hw2 x3
    have x03 := (x1.trans (by omega) x2).trans (by simp; omega) x3
    have hobt := own_push o2 (y := 120) (r := l[k].enc) hw3 (by omega) ⟨xl, xo⟩ (by omega) (by omega) (by simp; omega)
    obtain ⟨u', A3, p1, p2, p3, p4⟩ := hobt
    have hobt := own_slm o2
    obtain ⟨a2, c2, rfl, -⟩ := hobt
    have hlk : (l.take k).length = k := by simp; omega
    rw [hlk] at E3 p1
    simp [E3, E8, xl, p1, hgi]
    refine NX.of ⟨m - 1, by omega, k + 1, u', by omega, fun c hc => by rw [p4 c (by omega), x03 c hc], by omega, ?_, by simp, by simp [E6], by simp [E7], by simp⟩
    rw [take_snoc hlt, List.map_append]; exact p2
  · have hlt' : ¬ (k : Int) < l.length := by omega
    rw [List.take_of_length_le (by omega)] at o1
    simp [E3, E7, E8, hlt']
    exact DN.of ⟨x1, o1⟩
theorem theirsQ_ok {A : AH} (a : AskM) (h : a.ok A 95) (hn : a.q.ow.length ≤ 1000) :
    ACall Try.prog 17 [.agg a.enc.toArray] A fun v A' => Ext A A' ∧ ∃ a' : AskM, v = .agg a'.enc.toArray ∧ a'.q = a.q ∧ a'.ok A' 96 := by
  have hobt := a.cells
  obtain ⟨ael, ao, at6, -, -, k6, k7, k8, k9⟩ := hobt
  have a6g : a.enc[6] = .slice a.an a.q.nn.length a.cn := rfl
  have a7g : a.enc[7] = .slice a.al a.q.nl.length a.cl := rfl
  have a8g : a.enc[8] = .slice a.ao a.q.ow.length a.co := rfl
  have a9g : a.enc[9] = .int .i64 a.q.hops := rfl
  have hwl : a.q.w.enc = [.int .u64 a.q.w.bw, .int .i64 a.q.w.setup, .int .i64 a.q.w.hold, .int .u32 a.q.w.any, .int .u32 a.q.w.all, .int .u32 a.q.w.no] := rfl
  refine code17.call (by simp) fun hwf => ?_
  unfold c17
  simp [ael, at6, hwl, a6g, a7g, a8g, a9g, AH.get_alloc, AH.get_set]
  refine LN.use (fun m E A' => ∃ (k : Nat) (u : Value), m + k = a.q.ow.length ∧ Ext A A' ∧ A.next + 3 ≤ A'.next ∧ (∃ cs, A'.get (A.next + 1) = some (.row cs 59 false) ∧ cs.length = 10) ∧ A'.get (A.next + 2) = some (.row [.int .u64 a.q.w.bw, .int .i64 a.q.w.setup, .int .i64 a.q.w.hold, .int .u32 a.q.w.any, .int .u32 a.q.w.all, .int .u32 a.q.w.no, .slice a.an a.q.nn.length a.cn, .slice a.al a.q.nl.length a.cl, u, .int .i64 a.q.hops] 59 false) ∧ Own (A.next + 3) A' 96 3 u ((a.q.ow.take k).map Ow.enc) ∧ E.get 2 = .pointer (some ⟨A.next + 1, 0, none⟩) ∧ E.get 3 = .pointer (some ⟨A.next + 2, 0, none⟩) ∧ E.get 16 = .slice a.ao a.q.ow.length a.co ∧ E.get 17 = .int .i64 a.q.ow.length ∧ E.get 18 = .int .i64 k) a.q.ow.length
    ⟨0, .slice none 0 0, by omega, (((Ext.alloc A _).app (by simp) _).app (by simp; omega) _).setnew (by omega) _, by simp, ⟨_, by rw [AH.get_set, if_neg (by omega), AH.get_alloc, if_neg (by simp), AH.get_alloc, if_pos (by simp)], by simp⟩, by rw [AH.get_set, if_pos (by omega)], Own.nil _ _ _ _, by simp, by simp, by simp, by simp, by simp⟩ ?_
  rintro m E A1 hw1 hn1 ⟨k, u, hk, x1, n1, ⟨cs0, r0, l0⟩, r1, o1, E2, E3, E16, E17, E18⟩
  by_cases hlt : k < a.q.ow.length
  · have hlt' : (k : Int) < a.q.ow.length := by omega
    have hgi : IntKind.i64.wrap ((k : Int) + 1) = ((k + 1 : Nat) : Int) := by rw [i64_in (by omega) (by omega)]; simp
    have hobt := (h.2.2.ext hwf x1).at (i := k) (by simpa using hlt)
    obtain ⟨b, o, cs, q, hao, g1, g2, g3⟩ := hobt
    rw [List.getElem_map] at g3
    rw [hao] at E16
    have x2 := Ext.alloc A1 (.row a.q.ow[k].enc 95 false)
    have hw2 := AH.wf_alloc hw1 (.row a.q.ow[k].enc 95 false)
    have o2 := o1.ext hw1 x2
    have hobt := own_push o2 (y := 24) (r := a.q.ow[k].enc) hw2 (by simp; omega) ⟨rfl, rfl⟩ (by omega) (by omega) (by simp; omega)
    obtain ⟨u', A3, p1, p2, p3, p4⟩ := hobt
    have hobt := own_slm o1
    obtain ⟨a2, c2, rfl, -⟩ := hobt
    have hobt := p2.sl
    obtain ⟨a4, c4, hu4, -⟩ := hobt
    have hlk : (a.q.ow.take k).length = k := by simp; omega
    rw [hlk] at r1 p1
    have e3 : a.q.ow[k].enc = [.int .i64 a.q.ow[k].f, .int .i64 a.q.ow[k].t, .int .u64 a.q.ow[k].bw] := rfl
    rw [e3] at g3 p1
    have n2 : ¬ A.next + 2 = A1.next := by omega
    have n3 : ¬ A.next + 2 = A1.next + 1 := by omega
    have r3 := (p4 (A.next + 2) (by omega)).trans ((x2 _ (by omega)).trans r1)
    have hone : oneB u' = true := by rw [hu4]; rfl
    have hcell : u'.cells = #[u'] := oneB_cells hone
    subst hu4
    simp only [AH.next_alloc] at p1 p3
    simp [E2, E3, E16, E17, E18, hlt, hlt', r1, g1, g2, g3, n2, n3, hgi, AH.get_alloc, p1, r3]
    refine NX.of ⟨m - 1, by omega, k + 1, _, by omega, fun c hc => ?_, by simp; omega, ⟨cs0, ?_, l0⟩, by rw [AH.get_set, if_pos rfl], ?_, by simp [E2], by simp [E3], by simp [E16, hao], by simp [E17], by simp⟩
    · rw [AH.get_set, if_neg (by omega), p4 c (by omega), x2 c (by omega), x1 c hc]
    · rw [AH.get_set, if_neg (by omega), p4 _ (by omega), x2 _ (by omega), r0]
    · rw [take_snoc hlt, List.map_append]
      refine own_kept (A := A3) ?_ fun c y hc hy => by rw [AH.get_set, if_neg (by omega)]
      simpa using p2
  · have hlt' : ¬ (k : Int) < a.q.ow.length := by omega
    rw [List.take_of_length_le (by omega)] at o1
    have hobt := own_slm o1
    obtain ⟨a2, c2, rfl, s2, f2, -⟩ := hobt
    simp [E2, E3, E17, E18, hlt', r0, r1, l0]
    refine DN.of ⟨x1.setnew (by omega) _, ⟨a.q, a.an, a.cn, a.al, a.cl, a2, c2⟩, rfl, rfl, ?_⟩
    exact ⟨(h.1.ext hwf (x1.setnew (c := A.next + 1) (by omega) _)), h.2.1.ext hwf (x1.setnew (c := A.next + 1) (by omega) _), s2.kept fun b o y hb hy => by have := f2 b o hb; rw [AH.get_set, if_neg (by omega)]⟩
theorem fits16_ok {A : AH} {al : Option Addr} {cl n : Nat} (a : AskM) : ACall Try.prog 8 [.slice al n cl, .agg a.enc.toArray] A fun v A' => Ext A A' ∧ v = .bool (decide (n ≤ 100 ∧ a.q.nn.length ≤ 100 ∧ a.q.nl.length ≤ 100 ∧ a.q.ow.length ≤ 100)) := by
  have hobt := a.cells
  obtain ⟨-, -, -, -, -, k6, k7, k8, -⟩ := hobt
  refine code8.call (by simp) fun hwf => ?_
  unfold c8
  have x0 := Ext.alloc A (.row a.enc 33 false)
  simp
  by_cases c1 : n ≤ 100
  rotate_left
  · have c1' : ¬ (n : Int) ≤ 100 := by omega
    simp [c1']
    exact DN.of ⟨x0, by simp [c1]⟩
  have c1' : (n : Int) ≤ 100 := by omega
  by_cases c2 : a.q.nn.length ≤ 100
  rotate_left
  · have c2' : ¬ (a.q.nn.length : Int) ≤ 100 := by omega
    simp [c1', c2', k6]
    exact DN.of ⟨x0, by simp [c2]⟩
  have c2' : (a.q.nn.length : Int) ≤ 100 := by omega
  by_cases c3 : a.q.nl.length ≤ 100
  rotate_left
  · have c3' : ¬ (a.q.nl.length : Int) ≤ 100 := by omega
    simp [c1', c2', c3', k6, k7]
    exact DN.of ⟨x0, by simp [c3]⟩
  have c3' : (a.q.nl.length : Int) ≤ 100 := by omega
  simp [c1', c2', c3', k6, k7, k8]
  exact DN.of ⟨x0, by congr 1; apply decide_eq_decide.2; omega⟩
end Go.Proofs.Ytiapgbhnbgccaaa.AC
/- The search by places, in memory. -/
namespace Go.Proofs.Ytiapgbhnbgccaaa.AC
open Go Go.AI Go.Proofs Go.Proofs.Ytiapgbhnbgccaaa.AQ
set_option linter.unusedVariables false
def plK (p : Int × Int) : Value := .agg #[.int .i64 p.1, .int .i64 p.2]
theorem plK_ok : KeyOk Try.prog 92 plK := by
  refine ⟨fun A a b => ?_, fun a => ?_, by rw [Try.underlying92]; rfl, fun a => ?_⟩
  · obtain ⟨x, y⟩ := a
    obtain ⟨z, w⟩ := b
    unfold plK
    by_cases h1 : x = z
    · by_cases h2 : y = w
      · simp [h1, h2]
      · simp [h1, h2]
    · simp [h1]
  · unfold aKey plK
    rw [Try.underlying92]
    simp [aKeyAll, aKey, Try.underlying3]
  · simp [plK, eqFlat, eqCells, eqCell]
theorem QH.lt {A : AH} {qb : Nat} {ob : Option Nat} {L : List It} (h : QH A qb ob L) (hw : A.wf) : qb < A.next ∧ ∀ b, ob = some b → b < A.next := by
  have hobt := h.1
  obtain ⟨v, h1, h2, h3⟩ := hobt
  exact ⟨hw _ _ h1, fun b hb => h2.lt hw hb⟩
theorem QH.kept' {A A' : AH} {qb : Nat} {ob : Option Nat} {L : List It} (h : QH A qb ob L) (hw : A.wf) (hk : ∀ b, b < A.next → b = qb ∨ ob = some b → A'.get b = A.get b) : QH A' qb ob L := by
  have hobt := h.1
  obtain ⟨v, h1, h2, h3⟩ := hobt
  exact ⟨h.1.kept (hk qb (hw _ _ h1) (Or.inl rfl)) fun b hb => hk b (h2.lt hw hb) (Or.inr hb), h.2⟩
/-- Where things lie. -/
structure Wh where
  sp : Nat
  bb : Nat
  db : Nat
  qb : Nat
def Ap3 (n0 : Nat) (W : Wh) (ob : Option Nat) (b : Nat) : Prop := n0 ≤ b ∧ b ≠ W.sp ∧ b ≠ W.bb ∧ b ≠ W.db ∧ b ≠ W.qb ∧ ob ≠ some b
def WM (A : AH) (ap : Nat → Prop) (r : Value) (x : Wy) : Prop := ∃ b c, r = .agg #[.slice (some ⟨b, 0, none⟩) x.l.length c, .int .i64 x.c] ∧ A.get b = some (.row (ints x.l).flatten 3 false) ∧ ap b ∧ lcap x.l.length c ∧ x.l.length ≤ 1000
def K3 (A A' : AH) (W : Wh) (ob : Option Nat) : Prop := ∀ b, b < A.next → b ≠ W.bb → b ≠ W.db → b ≠ W.qb → ob ≠ some b → A'.get b = A.get b
theorem K3.refl (A : AH) (W : Wh) (ob : Option Nat) : K3 A A W ob := fun _ _ _ _ _ _ => rfl
theorem K3.ext {A A' : AH} (h : Ext A A') (W : Wh) (ob : Option Nat) : K3 A A' W ob := fun b h1 _ _ _ _ => h b h1
theorem K3.trans {A B C : AH} {W : Wh} {ob ob' : Option Nat} (h : K3 A B W ob) (hn : A.next ≤ B.next) (h' : K3 B C W ob') (ho : ob' = ob ∨ Fresh A.next ob') : K3 A C W ob := fun b h1 h2 h3 h4 h5 => (h' b (by omega) h2 h3 h4 (by
  rcases ho with rfl | ho
  · exact h5
  · intro e; have := ho b e; omega)).trans (h b h1 h2 h3 h4 h5)
theorem WM.kept {n0 : Nat} {W : Wh} {ob ob' : Option Nat} {A A' : AH} {r : Value} {x : Wy} (h : WM A (Ap3 n0 W ob) r x) (hw : A.wf) (hk : K3 A A' W ob) (ho : ob' = ob ∨ Fresh A.next ob') : WM A' (Ap3 n0 W ob') r x := by
  obtain ⟨b, c, h1, h2, ⟨p1, p2, p3, p4, p5, p6⟩, h4, h5⟩ := h
  have hb := hw _ _ h2
  refine ⟨b, c, h1, (hk b hb p3 p4 p5 p6).trans h2, ⟨p1, p2, p3, p4, p5, ?_⟩, h4, h5⟩
  rcases ho with rfl | ho
  · exact p6
  · intro e; have := ho b e; omega
structure S3 (n0 : Nat) (A : AH) (W : Wh) (ob : Option Nat) (H : Int) (a : Option Addr) (c : Nat) (ks : List Lk) (LB LD : List ((Int × Int) × Value)) (B : PB) (D : PD) (q : List It) : Prop where
  s : A.get W.sp = some (.row [.slice a ks.length c, .int .i64 H, .map (some W.bb), .map (some W.db), .pointer (some ⟨W.qb, 0, none⟩)] 82 false)
  bm : A.get W.bb = some (.mp (mpE plK LB))
  dm : A.get W.db = some (.mp (mpE plK LD))
  bw : ∀ v h, (mget LB (v, h) = none ∧ (B v h).c < 0) ∨ ∃ r, mget LB (v, h) = some r ∧ 0 ≤ (B v h).c ∧ WM A (Ap3 n0 W ob) r (B v h)
  dw : ∀ v h, mget LD (v, h) = if D v h = true then some (plK (v, h)) else none
  qh : QH A W.qb ob q
  lo : n0 ≤ W.sp ∧ n0 ≤ W.bb ∧ n0 ≤ W.db ∧ n0 ≤ W.qb ∧ Fresh n0 ob
  ne : W.sp ≠ W.bb ∧ W.sp ≠ W.db ∧ W.sp ≠ W.qb ∧ W.bb ≠ W.db ∧ W.bb ≠ W.qb ∧ W.db ≠ W.qb ∧ ob ≠ some W.sp ∧ ob ≠ some W.bb ∧ ob ≠ some W.db
section
variable {n0 : Nat} {A A' : AH} {W : Wh} {ob ob' : Option Nat} {H : Int} {a : Option Addr} {c : Nat} {ks : List Lk} {LB LD : List ((Int × Int) × Value)} {B : PB} {D : PD} {q : List It}
theorem S3.move (h : S3 n0 A W ob H a c ks LB LD B D q) (hw : A.wf) (hk : K3 A A' W ob) (ho : ob' = ob ∨ Fresh A.next ob') {LB' LD' : List ((Int × Int) × Value)} {B' : PB} {D' : PD} {q' : List It} (hbm : A'.get W.bb = some (.mp (mpE plK LB'))) (hdm : A'.get W.db = some (.mp (mpE plK LD')))
    (hbw : ∀ v g, (mget LB' (v, g) = mget LB (v, g) ∧ B' v g = B v g) ∨ ∃ r, mget LB' (v, g) = some r ∧ 0 ≤ (B' v g).c ∧ WM A' (Ap3 n0 W ob') r (B' v g)) (hdw : ∀ v g, mget LD' (v, g) = if D' v g = true then some (plK (v, g)) else none) (hq : QH A' W.qb ob' q') : S3 n0 A' W ob' H a c ks LB' LD' B' D' q' := by
  have hobt := h.lo
  obtain ⟨l1, l2, l3, l4, l5⟩ := hobt
  have hobt := h.ne
  obtain ⟨e1, e2, e3, e4, e5, e6, e7, e8, e9⟩ := hobt
  have hf : ∀ b, b < A.next → ob ≠ some b → ob' ≠ some b := fun b hb hne => by
    rcases ho with rfl | ho
    · exact hne
    · exact fun e => by have := ho _ e; omega
  refine ⟨(hk W.sp (hw _ _ h.s) e1 e2 e3 e7).trans h.s, hbm, hdm, fun v g => ?_, hdw, hq, ⟨l1, l2, l3, l4, ?_⟩, ⟨e1, e2, e3, e4, e5, e6, hf _ (hw _ _ h.s) e7, hf _ (hw _ _ h.bm) e8, hf _ (hw _ _ h.dm) e9⟩⟩
  · rcases hbw v g with ⟨h1, h2⟩ | h1
    · rw [h1, h2]
      rcases h.bw v g with h3 | ⟨r, h3, h4, h5⟩
      · exact Or.inl h3
      · exact Or.inr ⟨r, h3, h4, h5.kept hw hk ho⟩
    · exact Or.inr h1
  · rcases ho with rfl | ho
    · exact l5
    · exact fun b hb => by have := ho b hb; have := hw _ _ h.s; omega
theorem S3.ext (h : S3 n0 A W ob H a c ks LB LD B D q) (hw : A.wf) (hx : Ext A A') : S3 n0 A' W ob H a c ks LB LD B D q :=
  h.move hw (K3.ext hx _ _) (Or.inl rfl) ((hx _ (hw _ _ h.bm)).trans h.bm) ((hx _ (hw _ _ h.dm)).trans h.dm) (fun v g => Or.inl ⟨rfl, rfl⟩) h.dw (h.qh.ext hw hx)
theorem S3.ext0 {A0 : AH} (h : S3 n0 A W ob H a c ks LB LD B D q) (hn : A0.next = n0) (hx : Ext A0 A) (hn2 : A0.next ≤ A.next) (hk : K3 A A' W ob) : Ext A0 A' := fun b hb => by
  have := h.lo
  rw [hk b (by omega) (by omega) (by omega) (by omega) (fun e => by have := this.2.2.2.2 b e; omega), hx b hb]
/-- What an offer leaves. -/
def Offd2 (B B' : PB) (q q' : List It) (v g : Int) (l : List Int) (x : Int) : Prop := (tak2 B v g l x = true ∧ B' = upd2 B v g ⟨l, x, false⟩ ∧ q'.Perm (⟨x, g, v⟩ :: q)) ∨ (tak2 B v g l x = false ∧ B' = B ∧ q' = q)
set_option maxHeartbeats 1000000 in
theorem loffer_ok (h : S3 n0 A W ob H a c ks LB LD B D q) {v g : Int} {lb lc : Nat} {l : List Int} {x : Int} (hx0 : 0 ≤ x) (hlen : (l.length : Int) = g + 1) (hg0 : 0 ≤ g) (hlast : l.getLast? = some v) (hlb : A.get lb = some (.row (ints l).flatten 3 false)) (hap : Ap3 n0 W ob lb) (hlc : lcap l.length lc) (hl : l.length ≤ 1000) (hq : q.length < 1024) :
    ACall Try.prog 31 [.pointer (some ⟨W.sp, 0, none⟩), .agg #[.slice (some ⟨lb, 0, none⟩) l.length lc, .int .i64 x]] A fun _ A' => ∃ LB' B' q' ob', S3 n0 A' W ob' H a c ks LB' LD B' D q' ∧ Offd2 B B' q q' v g l x ∧ K3 A A' W ob ∧ (ob' = ob ∨ Fresh A.next ob') := by
  have hobt := h.ne
  obtain ⟨e1, e2, e3, e4, e5, e6, e7, e8, e9⟩ := hobt
  have hs := h.s
  have hbm := h.bm
  have hdm := h.dm
  have hsl : Sl A 3 1 (some ⟨lb, 0, none⟩) (ints l) := Sl.row (ints_rw l) hlb rfl
  obtain ⟨gn, rfl⟩ : ∃ gn : Nat, g = gn := ⟨g.toNat, by omega⟩
  have hgl : gn < l.length := by omega
  have hlv : l[gn] = v := by
    rw [List.getLast?_eq_getElem?, List.getElem?_eq_getElem (by omega)] at hlast
    injection hlast with hlast
    rw [← hlast]; congr 1; omega
  have hobt := hsl.one (Go.AI.ints_at (l := l) (i := gn) hgl)
  obtain ⟨b0, o0, cs0, q0, hb0, y1, y2⟩ := hobt
  injection hb0 with hb0
  injection hb0 with hb1 hb2 _
  subst hb1 hb2
  rw [hlv, Nat.zero_add] at y2
  have hwr : IntKind.i64.wrap ((l.length : Int) - 1) = (gn : Int) := by rw [i64_in (by omega) (by omega)]; omega
  have hlk : ∀ C : AH, C.get W.bb = A.get W.bb → aLookup Try.prog 77 (.map (some W.bb)) (.agg #[.int .i64 v, .int .i64 gn]) true C = some (.tuple #[(mget LB (v, (gn : Int))).getD (.agg #[.slice none 0 0, .int .i64 0]), .bool (mget LB (v, (gn : Int))).isSome]) := fun C hC => (lookup_mp plK_ok mo77 ze85 (hC.trans hbm) (v, (gn : Int))).1
  have hms : ∀ (C : AH) (r : Value), C.get W.bb = A.get W.bb → aMapSet Try.prog 77 (.map (some W.bb)) (.agg #[.int .i64 v, .int .i64 gn]) r C = some (C.set W.bb (.mp (mpE plK (mset LB (v, (gn : Int)) r)))) := fun C r hC => set_mp plK_ok mo77 (hC.trans hbm) (v, (gn : Int)) r
  have hno : ∀ {C : AH}, A.wf → Ext A C → tak2 B v gn l x = false → ∃ LB' B' q' ob', S3 n0 C W ob' H a c ks LB' LD B' D q' ∧ Offd2 B B' q q' v gn l x ∧ K3 A C W ob ∧ (ob' = ob ∨ Fresh A.next ob') := fun hwf hx ht => ⟨LB, B, q, ob, h.ext hwf hx, Or.inr ⟨ht, rfl, rfl⟩, K3.ext hx _ _, Or.inl rfl⟩
  have htake : A.wf → tak2 B v gn l x = true → ∀ C C1 : AH, C.wf → Ext A C → A.next ≤ C.next → C1 = C.set W.bb (.mp (mpE plK (mset LB (v, (gn : Int)) (.agg #[.slice (some ⟨lb, 0, none⟩) l.length lc, .int .i64 x])))) → QH C1 W.qb ob q ∧ ∀ A2 L' ob', QH A2 W.qb ob' L' → L'.Perm (⟨x, gn, v⟩ :: q) → Kn' C1 A2 W.qb ob ob' → ∃ LB' B' q' ob', S3 n0 A2 W ob' H a c ks LB' LD B' D q' ∧ Offd2 B B' q q' v gn l x ∧ K3 A A2 W ob ∧ (ob' = ob ∨ Fresh A.next ob') := by
    intro hwf ht C C1 hwC hxC hnC hC1
    have hqb := h.qh.lt hwf
    have hn := hwf _ _ hbm
    have hnd := hwf _ _ hdm
    have hqC : QH C W.qb ob q := h.qh.ext hwf hxC
    have hq1 : QH C1 W.qb ob q := by
      rw [hC1]
      refine hqC.kept' hwC fun b hb hq => ?_
      rw [AH.get_set, if_neg]
      rintro rfl
      rcases hq with hq | hq
      · exact e5 hq
      · exact e8 hq
    refine ⟨hq1, fun A2 L' ob' hq2 hp2 hk2 => ?_⟩
    have hC1n : C1.next = C.next := by rw [hC1]; rfl
    have hk : K3 A A2 W ob := fun b b1 b2 b3 b4 b5 => by
      rw [hk2.1 b (by omega) b4 b5, hC1, AH.get_set, if_neg b2, hxC b b1]
    have ho : ob' = ob ∨ Fresh A.next ob' := hk2.2.imp id fun hf b hb => by have := hf b hb; omega
    have hlbn := hwf _ _ hlb
    refine ⟨_, _, L', ob', h.move hwf hk ho (LB' := mset LB (v, (gn : Int)) (.agg #[.slice (some ⟨lb, 0, none⟩) l.length lc, .int .i64 x])) (LD' := LD) (B' := upd2 B v gn ⟨l, x, false⟩) (D' := D) ?_ ?_ (fun v' g' => ?_) h.dw hq2, Or.inl ⟨ht, rfl, hp2⟩, hk, ho⟩
    · rw [hk2.1 W.bb (by omega) e5 e8, hC1, AH.get_set, if_pos rfl]
    · rw [hk2.1 W.db (by omega) e6 e9, hC1, AH.get_set, if_neg (fun e => e4 e.symm), hxC _ hnd, hdm]
    · by_cases e : v' = v ∧ g' = gn
      · obtain ⟨rfl, rfl⟩ := e
        refine Or.inr ⟨_, by rw [mget_mset, if_pos rfl], by rw [upd2_at]; exact hx0, ?_⟩
        rw [upd2_at]
        refine ⟨lb, lc, rfl, (hk lb hlbn hap.2.2.1 hap.2.2.2.1 hap.2.2.2.2.1 hap.2.2.2.2.2).trans hlb, ⟨hap.1, hap.2.1, hap.2.2.1, hap.2.2.2.1, hap.2.2.2.2.1, ?_⟩, hlc, hl⟩
        rcases ho with rfl | ho
        · exact hap.2.2.2.2.2
        · intro e; have := ho _ e; omega
      · exact Or.inl ⟨by rw [mget_mset, if_neg fun hh => e ⟨congrArg Prod.fst hh, congrArg Prod.snd hh⟩], upd2_ne e⟩
  have hpush : A.wf → tak2 B v gn l x = true → ∀ C C1 : AH, C1 = C.set W.bb (.mp (mpE plK (mset LB (v, (gn : Int)) (.agg #[.slice (some ⟨lb, 0, none⟩) l.length lc, .int .i64 x])))) → C.wf → Ext A C → A.next ≤ C.next → ACall Try.prog 41 [.pointer (some ⟨W.qb, 0, none⟩), .agg #[.int .i64 x, .int .i64 gn, .int .i64 v]] C1 fun _ A2 => ∃ LB' B' q' ob', S3 n0 A2 W ob' H a c ks LB' LD B' D q' ∧ Offd2 B B' q q' v gn l x ∧ K3 A A2 W ob ∧ (ob' = ob ∨ Fresh A.next ob') := fun hwf ht C C1 hC hwC hxC hnC => by
    have hobt := htake hwf ht C C1 hwC hxC hnC hC
    obtain ⟨t1, t2⟩ := hobt
    refine ACall.mono (push_ok t1 ⟨x, gn, v⟩ hq) fun w A2 _ _ hr => ?_
    obtain ⟨L', ob', q1, q2, q3⟩ := hr
    exact t2 A2 L' ob' q1 q2 q3
  have hbw := h.bw v gn
  refine code31.call (by simp) fun hwf => ?_
  unfold c31
  have n1 := hwf _ _ hs
  have n2 := hwf _ _ hbm
  have n3 := hwf _ _ hlb
  have v1 : ¬ W.sp = A.next := by omega
  have v2 : ¬ W.bb = A.next := by omega
  have v3 : ¬ lb = A.next := by omega
  have v4 : ¬ W.sp = A.next + 1 := by omega
  have v5 : ¬ W.bb = A.next + 1 := by omega
  have v6 : ¬ W.sp = A.next + 1 + 1 := by omega
  have v7 : ¬ W.bb = A.next + 1 + 1 := by omega
  have v8 : ¬ A.next = W.bb := by omega
  have v9 : ¬ A.next + 1 = W.bb := by omega
  have v10 : ¬ A.next + 1 + 1 = W.bb := by omega
  simp [v1, v2, v3, v4, v5, hwr, hgl, y1, y2, hs, hlk, AH.get_set]
  have hone2 : ∀ (u : Value) (y : Int), oneB u = true → ∀ (i : Nat) (hi : i < 2), oneB ([u, Value.int .i64 y][i]'hi) = true := fun u y hu i hi => by
    match i, hi with
    | 0, _ => exact hu
    | 1, _ => rfl
  rcases hbw with ⟨k1, k2⟩ | ⟨r, k1, k2, k3⟩
  · have ht : tak2 B v gn l x = true := tak2_yes.2 (Or.inl k2)
    simp [k1]
    refine ⟨hone2 _ _ rfl, ?_⟩
    simp [v1, v2, v3, v4, v5, v6, v7, hs, hms, AH.get_set, e1, v8, v9]
    refine CN.use (hpush hwf ht _ _ rfl ?_ ?_ ?_) ?_
    · exact AH.wf_set (AH.wf_alloc (AH.wf_set (AH.wf_alloc (AH.wf_alloc hwf _) _) (by simp) _) _) (by simp) _
    · exact ((((Ext.alloc A _).app (by simp) _).setnew (by omega) _).app (by simp; omega) _).setnew (by omega) _
    · simp; omega
    · rintro _ A2 hw2 hn2 hr
      simp
      exact DN.of hr
  · obtain ⟨b1, c1, rfl, r1, r2, r3, r4⟩ := k3
    have hsl2 : Sl A 3 1 (some ⟨b1, 0, none⟩) (ints (B v gn).l) := Sl.row (ints_rw _) r1 rfl
    simp [k1]
    refine ⟨hone2 _ _ rfl, ?_⟩
    have x2 : Ext A (((((A.alloc (.row [.slice (some ⟨lb, 0, none⟩) l.length lc, .int .i64 x] 85 false)).alloc (.row [.int .i64 0, .int .i64 0] 92 false)).set (A.next + 1) (.row [.int .i64 v, .int .i64 gn] 92 false)).alloc (.row [.slice none 0 0, .int .i64 0] 85 false)).set (A.next + 1 + 1) (.row [.slice (some ⟨b1, 0, none⟩) (B v gn).l.length c1, .int .i64 (B v gn).c] 85 false)) := ((((Ext.alloc A _).app (by simp) _).setnew (by omega) _).app (by simp; omega) _).setnew (by omega) _
    refine CN.use (better_ok (c := lc) (c' := c1) (hsl.ext hwf x2) (hsl2.ext hwf x2) (by omega) (by omega) x (B v gn).c) ?_
    rintro _ _ - - ⟨rfl, rfl⟩
    cases hb : betB x l (B v gn).c (B v gn).l with
    | false =>
      simp [k1]
      exact DN.of (hno hwf x2 (tak2_no.2 ⟨k2, hb⟩))
    | true =>
      have ht : tak2 B v gn l x = true := tak2_yes.2 (Or.inr hb)
      simp [k1, v1, v2, v3, v4, v5, v6, v7, hs, hms, AH.get_set, e1, v8, v9]
      refine CN.use (hpush hwf ht _ _ rfl ?_ x2 ?_) ?_
      · exact AH.wf_set (AH.wf_alloc (AH.wf_set (AH.wf_alloc (AH.wf_alloc hwf _) _) (by simp) _) _) (by simp) _
      · simp; omega
      · rintro _ A2 hw2 hn2 hr
        simp
        exact DN.of hr
end
end Go.Proofs.Ytiapgbhnbgccaaa.AC
/- A place is settled. -/
namespace Go.Proofs.Ytiapgbhnbgccaaa.AC
open Go Go.AI Go.Proofs Go.Proofs.Ytiapgbhnbgccaaa.AQ
set_option linter.unusedVariables false
theorem LI.offd {n s H : Int} {ks : List Lk} {B B' : PB} {D : PD} {q q' : List It} {P : Nat → Prop} {ph : Int} (hg : goodN n ks) (h : LI n s ks H B D q P ph) {i : Nat} (hi : i < ks.length) (hu : D (lk ks i).f ph = true) (hmax : ∀ v g, D v g = true → (B v g).c ≤ (B (lk ks i).f ph).c) (hm : (lk ks i).t ∉ (B (lk ks i).f ph).l)
    (ho : Offd2 B B' q q' (lk ks i).t (ph + 1) ((B (lk ks i).f ph).l ++ [(lk ks i).t]) ((B (lk ks i).f ph).c + (lk ks i).m)) :
    LI n s ks H B' D q' (fun j => P j ∧ j ≠ i) ph ∧ (∀ v g, D v g = true → B' v g = B v g) ∧ q'.length ≤ q.length + 1 := by
  have hl := hg.link hi
  rcases ho with ⟨h1, rfl, h3⟩ | ⟨h1, rfl, rfl⟩
  · refine ⟨(h.take hg hi hu hmax hm h1 rfl rfl rfl).perm h3, fun v g hd => upd2_ne fun e => ?_, by rw [h3.length_eq]; simp⟩
    rw [e.1, e.2] at hd
    have h4 := (h.dn _ _ hd).1
    have h5 := hmax _ _ hd
    rcases tak2_yes.1 h1 with h6 | h6
    · omega
    · have := (leB.of_bet h6).cost
      omega
  · exact ⟨h.keep h1, fun v g _ => rfl, by omega⟩
/-- A list and one more, laid anew. -/
theorem appW_more {A1 : AH} {b b' : Nat} {l : List Int} {x : Int} (hb : A1.get b = some (.row (ints l).flatten 3 false)) (hb' : A1.get b' = some (.row [.int .i64 x] 3 false)) (hl : l.length ≤ 1000) :
    appW 3 1 8 (.slice (some ⟨b, 0, none⟩) l.length l.length) (.slice (some ⟨b', 0, none⟩) 1 1) A1 = some (.slice (some ⟨A1.next, 0, none⟩) (l.length + 1) UNK, A1.alloc (.row (ints (l ++ [x])).flatten 3 false)) := by
  have h1 := (Sl.row (ints_rw l) hb rfl).first (c := l.length)
  have h2 := (Sl.row (ints_rw [x]) hb' (by simp [ints])).first (c := 1)
  simp only [ints_len] at h1
  have h2 : firstOf A1 1 1 (.slice (some ⟨b', 0, none⟩) 1 1) = some (ints [x]).flatten := h2
  rw [appW_out h2 (by decide) (by omega) (by omega) (by decide) (by unfold UNK; omega) (by omega) h1]
  simp [ints]
theorem chas_ok {A : AH} {a : Option Addr} {c : Nat} {l : List Int} (h : Sl A 3 1 a (ints l)) (hl : l.length ≤ 1000000) (x : Int) :
    ACall Try.prog 46 [.slice a l.length c, .int .i64 x] A fun v A' => v = .bool (hasL l x) ∧ A' = A := by
  refine code46.call (by simp) fun hwf => ?_
  unfold c46
  simp
  refine LN.use (fun m E A' => ∃ k : Nat, m + k = l.length ∧ A' = A ∧ E.get 1 = .int .i64 x ∧ E.get 7 = .slice a l.length c ∧ E.get 8 = .int .i64 l.length ∧ E.get 9 = .int .i64 k ∧ x ∉ l.take k) l.length
    ⟨0, by omega, rfl, by simp, by simp, by simp, by simp, by simp⟩ ?_
  rintro m E A1 hw1 hn1 ⟨k, hk, rfl, e1, e7, e8, e9, hno⟩
  by_cases hlt : k < l.length
  · have hlt' : (k : Int) < l.length := by omega
    have hobt := h.one (Go.AI.ints_at (l := l) (i := k) hlt)
    obtain ⟨b, o, cs, ro, ha, g1, g2⟩ := hobt
    subst ha
    have hi : IntKind.i64.wrap ((k : Int) + 1) = (k : Int) + 1 := i64_in (by omega) (by omega)
    by_cases hx : l[k] = x
    · simp [e1, e7, e8, e9, hlt, hlt', g1, g2, hx]
      exact DN.of ⟨by congr 1; symm; simp only [hasL, decide_eq_true_eq]; rw [← hx]; exact List.getElem_mem hlt, rfl⟩
    · simp [e1, e7, e8, e9, hlt, hlt', g1, g2, hx]
      refine NX.of ⟨m - 1, by omega, k + 1, by omega, rfl, by simp [e1], by simp [e7], by simp [e8], by simp [hi], ?_⟩
      rw [List.take_succ_eq_append_getElem hlt]
      simp only [List.mem_append, List.mem_singleton, not_or]
      exact ⟨hno, fun e => hx e.symm⟩
  · have hlt' : ¬ (k : Int) < l.length := by omega
    simp [e8, e9, hlt']
    rw [List.take_of_length_le (by omega)] at hno
    exact DN.of ⟨by simp [hasL, hno], rfl⟩
theorem outs_len {n : Int} {ks : List Lk} (hg : goodN n ks) (x : Int) : (outsN ks x ks.length).length < 20 := by
  have hnd : ((outsN ks x ks.length).map fun i => (lk ks i.toNat).t).Nodup := by
    unfold outsN
    rw [List.map_map]
    have hp : (List.filter (fun i => decide ((lk ks i).f = x)) (List.range ks.length)).Pairwise (· < ·) := List.Pairwise.filter _ List.pairwise_lt_range
    unfold List.Nodup
    rw [List.pairwise_map]
    refine List.Pairwise.imp_of_mem (fun {a b} ha hb hab => ?_) hp
    simp only [List.mem_filter, List.mem_range, decide_eq_true_eq] at ha hb
    intro e
    have e : (lk ks a).t = (lk ks b).t := e
    exact hg.2.2.2 b hb.1 (Or.inl ⟨a, hab, by rw [ha.2, hb.2], e⟩)
  have h := nodup_len n.toNat _ hnd fun y hy => by
    have hobt := List.mem_map.1 hy
    obtain ⟨i, hi, rfl⟩ := hobt
    have hobt := outsN_mem.1 hi
    obtain ⟨j, hj, rfl, -⟩ := hobt
    have := hg.link hj
    simp only [Int.toNat_natCast]
    omega
  rw [List.length_map] at h
  have := hg.2.1
  omega
section
variable {n0 : Nat} {A0 A : AH} {W : Wh} {ob : Option Nat} {Hn : Nat} {a : Option Addr} {c : Nat} {ks : List Lk} {LB LD : List ((Int × Int) × Value)} {B : PB} {D : PD} {q : List It} {n s ph : Int}
set_option maxHeartbeats 2000000 in
theorem lsettle_ok (hg : goodN n ks) (hs : 0 ≤ s ∧ s < n) (hHn : (Hn : Int) < n) (hn0 : A0.next = n0) (hw0 : A0.wf) (h0 : Sl A0 52 5 a (ks.map Lk.enc)) (hx0 : Ext A0 A) (hnx : A0.next ≤ A.next)
    (h : S3 n0 A W ob Hn a c ks LB LD B D q) (x : It) (hI : LI n s ks Hn B D (x :: q) (fun _ => False) ph) (hm : ∀ y ∈ x :: q, leI x y) (hlen : q.length + unH ks D Hn ≤ 1000) :
    ACall Try.prog 33 [.pointer (some ⟨W.sp, 0, none⟩), .agg #[.int .i64 x.n, .int .i64 x.h]] A fun _ A' => ∃ LB' LD' B' D' q' ob' ph', S3 n0 A' W ob' Hn a c ks LB' LD' B' D' q' ∧ LI n s ks Hn B' D' q' (fun _ => False) ph' ∧ q'.length + unH ks D' Hn ≤ q.length + unH ks D Hn ∧ K3 A A' W ob ∧ (ob' = ob ∨ Fresh A.next ob') := by
  have hobt := h.ne
  obtain ⟨e1, e2, e3, e4, e5, e6, e7, e8, e9⟩ := hobt
  have hgs := h.s
  have hbm := h.bm
  have hdm := h.dm
  have hdw := h.dw x.n x.h
  have hobt := hI.qin x List.mem_cons_self
  obtain ⟨qi1, qi2⟩ := hobt
  have hobt := hI.path _ _ qi1
  obtain ⟨pn0, pn1, ph0, phH, -, -, phl, -⟩ := hobt
  generalize hxn : x.n = v at *
  generalize hgn : x.h = g0 at *
  obtain ⟨gn, rfl⟩ : ∃ gn : Nat, g0 = gn := ⟨g0.toNat, by omega⟩
  have hlkd : ∀ C : AH, C.get W.db = A.get W.db → aLookup Try.prog 78 (.map (some W.db)) (.agg #[.int .i64 v, .int .i64 gn]) true C = some (.tuple #[(mget LD (v, (gn : Int))).getD (.agg #[.int .i64 0, .int .i64 0]), .bool (mget LD (v, (gn : Int))).isSome]) := fun C hC => (lookup_mp plK_ok mo78 ze92 (hC.trans hdm) (v, (gn : Int))).1
  have hmsd : ∀ (C : AH) (r : Value), C.get W.db = A.get W.db → aMapSet Try.prog 78 (.map (some W.db)) (.agg #[.int .i64 v, .int .i64 gn]) r C = some (C.set W.db (.mp (mpE plK (mset LD (v, (gn : Int)) r)))) := fun C r hC => set_mp plK_ok mo78 (hC.trans hdm) (v, (gn : Int)) r
  have hlkb : ∀ C : AH, C.get W.bb = A.get W.bb → aLookup Try.prog 77 (.map (some W.bb)) (.agg #[.int .i64 v, .int .i64 gn]) false C = some ((mget LB (v, (gn : Int))).getD (.agg #[.slice none 0 0, .int .i64 0])) := fun C hC => (lookup_mp plK_ok mo77 ze85 (hC.trans hbm) (v, (gn : Int))).2
  have hone2 : ∀ (u : Value) (y : Int), oneB u = true → ∀ (i : Nat) (hi : i < 2), oneB ([u, Value.int .i64 y][i]'hi) = true := fun u y hu i hi => by
    match i, hi with
    | 0, _ => exact hu
    | 1, _ => rfl
  cases hd : D v gn with
  | true =>
    rw [hd, if_pos rfl] at hdw
    unfold plK at hdw
    refine code33.call (by simp) fun hwf => ?_
    unfold c33
    have n1 := hwf _ _ hgs
    have n3 := hwf _ _ hdm
    have v1 : ¬ W.sp = A.next := by omega
    have v3 : ¬ W.db = A.next := by omega
    have v4 : ¬ W.sp = A.next + 1 := by omega
    have v6 : ¬ W.db = A.next + 1 := by omega
    have x2 : Ext A (((A.alloc (.row [.int .i64 v, .int .i64 gn] 92 false)).alloc (.row [.int .i64 0, .int .i64 0] 92 false)).set (A.next + 1) (.row [.int .i64 v, .int .i64 gn] 92 false)) := ((Ext.alloc A _).app (by simp) _).setnew (by omega) _
    simp [v1, v3, v4, v6, hgs, hlkd, hdw]
    exact DN.of ⟨LB, LD, B, D, q, ob, ph, h.ext hwf x2, hI.skip (by rw [hxn, hgn]; exact Or.inl hd), Nat.le_refl _, K3.ext x2 _ _, Or.inl rfl⟩
  | false =>
  rw [hd, if_neg (by simp)] at hdw
  by_cases hH : (Hn : Int) ≤ gn
  · refine code33.call (by simp) fun hwf => ?_
    unfold c33
    have n1 := hwf _ _ hgs
    have n3 := hwf _ _ hdm
    have v1 : ¬ W.sp = A.next := by omega
    have v3 : ¬ W.db = A.next := by omega
    have v4 : ¬ W.sp = A.next + 1 := by omega
    have v6 : ¬ W.db = A.next + 1 := by omega
    have hH' : Hn ≤ gn := by omega
    have x2 : Ext A (((A.alloc (.row [.int .i64 v, .int .i64 gn] 92 false)).alloc (.row [.int .i64 0, .int .i64 0] 92 false)).set (A.next + 1) (.row [.int .i64 0, .int .i64 0] 92 false)) := ((Ext.alloc A _).app (by simp) _).setnew (by omega) _
    simp [v1, v3, v4, v6, hgs, hlkd, hdw, hH, hH', AH.get_set]
    exact DN.of ⟨LB, LD, B, D, q, ob, ph, h.ext hwf x2, hI.skip (by rw [hxn, hgn]; exact Or.inr hH), Nat.le_refl _, K3.ext x2 _ _, Or.inl rfl⟩
  have hHlt : (gn : Int) < Hn := by omega
  have hH' : ¬ Hn ≤ gn := by omega
  have hwk := hI.path v gn qi1
  obtain ⟨-, -, -, -, wk1, wk2, wk3, -⟩ := hwk
  rcases h.bw v gn with ⟨-, k2⟩ | ⟨r, k1, k2, b1, c1, rfl, r1, r2, r3, r4⟩
  · omega
  refine code33.call (by simp) fun hwf => ?_
  unfold c33
  have n1 := hwf _ _ hgs
  have n2 := hwf _ _ hbm
  have n3 := hwf _ _ hdm
  have n4 := hwf _ _ r1
  have v1 : ¬ W.sp = A.next := by omega
  have v2 : ¬ W.bb = A.next := by omega
  have v3 : ¬ W.db = A.next := by omega
  have v4 : ¬ W.sp = A.next + 1 := by omega
  have v5 : ¬ W.bb = A.next + 1 := by omega
  have v6 : ¬ W.db = A.next + 1 := by omega
  have v7 : ¬ A.next = W.db := by omega
  have v8 : ¬ A.next + 1 = W.db := by omega
  have v9 : ¬ W.sp = A.next + 1 + 1 := by omega
  have v10 : ¬ A.next + 1 + 1 = W.db := by omega
  have v11 : ¬ W.bb = W.db := e4
  simp [v1, v2, v3, v4, v5, v6, v7, v8, v9, v10, v11, e2, hgs, hlkd, hdw, hmsd, hlkb, k1, hH, hH', AH.get_set]
  have k1' : K3 A ((((((A.alloc (.row [.int .i64 v, .int .i64 gn] 92 false)).alloc (.row [.int .i64 0, .int .i64 0] 92 false)).set (A.next + 1) (.row [.int .i64 0, .int .i64 0] 92 false)).set W.db (.mp (mpE plK (mset LD (v, (gn : Int)) (.agg #[.int .i64 v, .int .i64 gn]))))).alloc (.row [.slice none 0 0, .int .i64 0] 85 false)).set (A.next + 1 + 1) (.row [.slice (some ⟨b1, 0, none⟩) (B v gn).l.length c1, .int .i64 (B v gn).c] 85 false)) W ob := fun b b1 b2 b3 b4 b5 => by
    rw [AH.get_set, if_neg (by omega), AH.get_alloc, if_neg (by simp; omega), AH.get_set, if_neg b3, AH.get_set, if_neg (by omega), AH.get_alloc, if_neg (by simp; omega), AH.get_alloc, if_neg (by omega)]
  have hwS : (((((((A.alloc (.row [.int .i64 v, .int .i64 gn] 92 false)).alloc (.row [.int .i64 0, .int .i64 0] 92 false)).set (A.next + 1) (.row [.int .i64 0, .int .i64 0] 92 false)).set W.db (.mp (mpE plK (mset LD (v, (gn : Int)) (.agg #[.int .i64 v, .int .i64 gn]))))).alloc (.row [.slice none 0 0, .int .i64 0] 85 false)).set (A.next + 1 + 1) (.row [.slice (some ⟨b1, 0, none⟩) (B v gn).l.length c1, .int .i64 (B v gn).c] 85 false))).wf := AH.wf_set (AH.wf_alloc (AH.wf_set (AH.wf_set (AH.wf_alloc (AH.wf_alloc hwf _) _) (by simp) _) (by simp; omega) _) _) (by simp) _
  have s1 : S3 n0 ((((((A.alloc (.row [.int .i64 v, .int .i64 gn] 92 false)).alloc (.row [.int .i64 0, .int .i64 0] 92 false)).set (A.next + 1) (.row [.int .i64 0, .int .i64 0] 92 false)).set W.db (.mp (mpE plK (mset LD (v, (gn : Int)) (.agg #[.int .i64 v, .int .i64 gn]))))).alloc (.row [.slice none 0 0, .int .i64 0] 85 false)).set (A.next + 1 + 1) (.row [.slice (some ⟨b1, 0, none⟩) (B v gn).l.length c1, .int .i64 (B v gn).c] 85 false)) W ob Hn a c ks LB (mset LD (v, (gn : Int)) (plK (v, (gn : Int)))) B (don2 D v gn) q := by
    refine h.move hwf k1' (Or.inl rfl) ?_ ?_ (fun v' g' => Or.inl ⟨rfl, rfl⟩) (fun v' g' => ?_) ?_
    · rw [AH.get_set, if_neg (by omega), AH.get_alloc, if_neg (by simp; omega), AH.get_set, if_neg e4, AH.get_set, if_neg (by omega), AH.get_alloc, if_neg (by simp; omega), AH.get_alloc, if_neg (by omega)]
      exact hbm
    · rw [AH.get_set, if_neg (by omega), AH.get_alloc, if_neg (by simp; omega), AH.get_set, if_pos rfl]
      rfl
    · rw [mget_mset]
      by_cases e : v' = v ∧ g' = gn
      · obtain ⟨rfl, rfl⟩ := e
        rw [if_pos rfl, don2_at]; simp
      · rw [if_neg fun hh => e ⟨congrArg Prod.fst hh, congrArg Prod.snd hh⟩, don2_ne e]
        exact h.dw v' g'
    · have hqb := h.qh.lt hwf
      refine h.qh.kept' hwf fun b hb hq => ?_
      have h3 : b ≠ W.db := by
        rintro rfl
        rcases hq with hq | hq
        · exact e6 hq
        · exact e9 hq
      rw [AH.get_set, if_neg (by omega), AH.get_alloc, if_neg (by simp; omega), AH.get_set, if_neg h3, AH.get_set, if_neg (by omega), AH.get_alloc, if_neg (by simp; omega), AH.get_alloc, if_neg (by omega)]
  have rw1 : (((((((A.alloc (.row [.int .i64 v, .int .i64 gn] 92 false)).alloc (.row [.int .i64 0, .int .i64 0] 92 false)).set (A.next + 1) (.row [.int .i64 0, .int .i64 0] 92 false)).set W.db (.mp (mpE plK (mset LD (v, (gn : Int)) (.agg #[.int .i64 v, .int .i64 gn]))))).alloc (.row [.slice none 0 0, .int .i64 0] 85 false)).set (A.next + 1 + 1) (.row [.slice (some ⟨b1, 0, none⟩) (B v gn).l.length c1, .int .i64 (B v gn).c] 85 false))).get (A.next + 1 + 1) = some (.row [.slice (some ⟨b1, 0, none⟩) (B v gn).l.length c1, .int .i64 (B v gn).c] 85 false) := by rw [AH.get_set, if_pos rfl]
  have nS : (((((((A.alloc (.row [.int .i64 v, .int .i64 gn] 92 false)).alloc (.row [.int .i64 0, .int .i64 0] 92 false)).set (A.next + 1) (.row [.int .i64 0, .int .i64 0] 92 false)).set W.db (.mp (mpE plK (mset LD (v, (gn : Int)) (.agg #[.int .i64 v, .int .i64 gn]))))).alloc (.row [.slice none 0 0, .int .i64 0] 85 false)).set (A.next + 1 + 1) (.row [.slice (some ⟨b1, 0, none⟩) (B v gn).l.length c1, .int .i64 (B v gn).c] 85 false))).next = A.next + 3 := by simp
  have rb1 := (k1' b1 n4 r2.2.2.1 r2.2.2.2.1 r2.2.2.2.2.1 r2.2.2.2.2.2).trans r1
  generalize hA1 : ((((((A.alloc (.row [.int .i64 v, .int .i64 gn] 92 false)).alloc (.row [.int .i64 0, .int .i64 0] 92 false)).set (A.next + 1) (.row [.int .i64 0, .int .i64 0] 92 false)).set W.db (.mp (mpE plK (mset LD (v, (gn : Int)) (.agg #[.int .i64 v, .int .i64 gn]))))).alloc (.row [.slice none 0 0, .int .i64 0] 85 false)).set (A.next + 1 + 1) (.row [.slice (some ⟨b1, 0, none⟩) (B v gn).l.length c1, .int .i64 (B v gn).c] 85 false)) = A1 at k1' hwS s1 rw1 nS rb1
  have hobt := hI.settle (by rw [hxn, hgn]; exact hd) (by rw [hgn]; exact hHlt) hm
  obtain ⟨i1, m1⟩ := hobt
  rw [hxn, hgn] at i1 m1
  have hq0 := unH_don (ks := ks) hd Hn (by omega)
  have x1 := h.ext0 hn0 hx0 hnx k1'
  have hlk := h0.ext hw0 x1
  have hks64 := hg.2.2.1
  refine CN.use (outs_ok (c := c) hlk v (by omega) (outs_len hg v)) ?_
  rintro vL A2 hw2 hn2 ⟨ob2, L', hp, hq2, hf2, x2⟩
  have hobt := hq2.sl
  obtain ⟨aL, cL, rfl, hsl, hbl⟩ := hobt
  rw [ints_len] at hq2
  simp
  have s2 := s1.ext hwS x2
  have k2' := k1'.trans (by omega) (K3.ext x2 W ob) (Or.inl rfl)
  have hlen' := hp.length_eq
  have hqb := h.qh.lt hwf
  have rw2 := x2.get hwS rw1
  have rb2 := x2.get hwS rb1
  have x02 : Ext A0 A2 := x1.trans (by omega) x2
  refine LN.use (fun m E A' => ∃ (j : Nat) (ob3 : Option Nat) (LB3 : List ((Int × Int) × Value)) (B3 : PB) (q3 : List It), m + j = L'.length ∧ S3 n0 A' W ob3 Hn a c ks LB3 (mset LD (v, (gn : Int)) (plK (v, (gn : Int)))) B3 (don2 D v gn) q3 ∧ LI n s ks Hn B3 (don2 D v gn) q3 (fun i => (lk ks i).f = v ∧ (i : Int) ∈ L'.drop j) gn ∧ (∀ u g, don2 D v gn u g = true → B3 u g = B u g) ∧ q3.length ≤ q.length + j ∧ K3 A2 A' W ob ∧ (ob3 = ob ∨ Fresh A2.next ob3) ∧ A2.next ≤ A'.next ∧ E.get 0 = .pointer (some ⟨W.sp, 0, none⟩) ∧ E.get 6 = .pointer (some ⟨A.next + 1 + 1, 0, none⟩) ∧ E.get 47 = .slice aL L'.length cL ∧ E.get 48 = .int .i64 L'.length ∧ E.get 49 = .int .i64 j) L'.length
    ⟨0, ob, LB, B, q, by omega, s2, i1.weak (fun i hi g hfi => ⟨⟨hfi.1, by rw [List.drop_zero, hp.mem_iff]; exact outsN_mem.2 ⟨i, hi, rfl, hfi.1⟩⟩, hfi.2⟩), fun _ _ _ => rfl, by omega, K3.refl _ _ _, Or.inl rfl, Nat.le_refl _, by simp, by simp, by simp, by simp, by simp⟩ ?_
  rintro m E A3 hw3 hn3 ⟨j, ob3, LB3, B3, q3, hj, s3, i3, same3, l3, k3, f3, n3', E0, E6, E47, E48, E49⟩
  by_cases hlt : (j : Int) < L'.length
  rotate_left
  · obtain rfl : j = L'.length := by omega
    simp [E48, E49]
    refine DN.of ⟨LB3, _, B3, _, q3, ob3, gn, s3, i3.weak (fun i _ g hP => by have := hP.1.2; simp at this), by omega, k2'.trans (by omega) k3 (Or.inl rfl), ?_⟩
    exact f3.imp id fun f => fun b hb => by have := f b hb; omega
  have hlt' : j < L'.length := by omega
  have x03 := s2.ext0 hn0 x02 (by omega) k3
  have hlk3 := h0.ext hw0 x03
  have hsl3 : Sl A3 3 1 aL (ints L') := hsl.kept fun b o y ha hy => by
    have hb := (hbl b o ha).1
    have := hf2 b hb
    exact k3 b (hw2 _ _ hy) (by omega) (by omega) (by omega) (fun e => by have := hqb.2 b e; omega)
  have hobt := hsl3.one (Go.AI.ints_at hlt')
  obtain ⟨bj, oj, csj, qj, rfl, y1, y2⟩ := hobt
  have hobt := outsN_mem.1 (hp.mem_iff.1 (List.getElem_mem hlt'))
  obtain ⟨i0, hi0, hi0e, hif⟩ := hobt
  rw [hi0e] at y2
  have hobt := lks_at hlk3 hi0
  obtain ⟨bk, ok, csk, qk, rfl, z1, z2, z3, z4, z5, z6⟩ := hobt
  have rw3 := (k3 (A.next + 1 + 1) (by omega) (by omega) (by omega) (by omega) (fun e => by have := hqb.2 _ e; omega)).trans rw2
  have rb3 := (k3 b1 (by omega) r2.2.2.1 r2.2.2.2.1 r2.2.2.2.2.1 r2.2.2.2.2.2).trans rb2
  have hgl := hg.link hi0
  have hup := wk1.up hg
  have hln := nodup_len n.toNat _ wk2 fun y hy => by have := wk1.rng hg hs y hy; omega
  have hn16 := hg.2.1
  have hcs := wk1.cost hg
  have n3w := hw3 _ _ rw3
  have n3s := hw3 _ _ s3.s
  have n3k := hw3 _ _ z1
  have n3l := hw3 _ _ rb3
  have n3j := hw3 _ _ y1
  have w1 : ¬ bk = A3.next := by omega
  have w2 : ¬ A.next + 1 + 1 = A3.next := by omega
  have w3 : ¬ W.sp = A3.next := by omega
  have w4 : ¬ b1 = A3.next := by omega
  have w5 : ¬ A.next + 1 + 1 = A3.next + 1 := by omega
  have w6 : ¬ A.next + 1 + 1 = A3.next + 2 := by omega
  have w7 : ¬ A3.next = A3.next + 1 := by omega
  have w9 : ¬ A.next = A3.next := by omega
  have w10 : ¬ A.next + 1 = A3.next := by omega
  have w8 : ¬ A3.next = A3.next + 2 := by omega
  have lke : (lk ks i0).enc.length = 5 := rfl
  have lk0 : (lk ks i0).enc[1] = .int .i64 (lk ks i0).t := rfl
  have lk3 : (lk ks i0).enc[3] = .int .i64 (lk ks i0).m := rfl
  have hoc : ∀ y ∈ (lk ks i0).enc, oneB y = true := List.all_eq_true.1 (rfl : (lk ks i0).enc.all oneB = true)
  have hgs3 := s3.s
  have hwS3 : Sl A3 3 1 (some ⟨b1, 0, none⟩) (ints (B v gn).l) := Sl.row (ints_rw _) rb3 rfl
  have sl3 := fun C => slW_full (P := Try.prog) (z := 1) (b := b1) (k := .i64) (k' := .i64) (A := C) r3 (by unfold UNK; omega)
  have happ := appW_more (A1 := (A3.alloc (.row (lk ks i0).enc 52 false)).alloc (.row [.int .i64 (lk ks i0).t] 3 false)) (b := b1) (b' := A3.next + 1) (l := (B v gn).l) (x := (lk ks i0).t) (by rw [AH.get_alloc, if_neg (by simp; omega), AH.get_alloc, if_neg w4]; exact rb3) (by rw [AH.get_alloc, if_pos (by simp)]) (by omega)
  have hwr : IntKind.i64.wrap ((B v gn).c + (lk ks i0).m) = (B v gn).c + (lk ks i0).m := i64_in (by omega) (by omega)
  have hj1 : IntKind.i64.wrap ((j : Int) + 1) = ((j + 1 : Nat) : Int) := by rw [i64_in (by omega) (by omega)]; simp
  have hsm : B3 v gn = B v gn := same3 v gn (don2_at _ _ _)
  have hnext : ∀ i, i < ks.length → ∀ g, ((((lk ks i).f = v ∧ (i : Int) ∈ L'.drop j) ∧ i ≠ i0) ∧ g = (gn : Int)) → ((lk ks i).f = v ∧ (i : Int) ∈ L'.drop (j + 1)) ∧ g = (gn : Int) := fun i hi g hP => by
    obtain ⟨⟨⟨hP1, hP2⟩, hP3⟩, hP4⟩ := hP
    refine ⟨⟨hP1, ?_⟩, hP4⟩
    rw [List.drop_eq_getElem_cons hlt', List.mem_cons, hi0e] at hP2
    rcases hP2 with hP2 | hP2
    · omega
    · exact hP2
  have xl := Ext.alloc A3 (.row (lk ks i0).enc 52 false)
  simp [E0, E6, E47, E48, E49, hlt, hlt', y1, y2, hgs3, hi0, z1, z2, z3, lke, hoc, lk0, rw3, w1, w2, w3]
  refine ⟨hoc, ?_⟩
  refine CN.use (chas_ok (c := c1) (hwS3.ext hw3 xl) (by omega) (lk ks i0).t) ?_
  rintro _ A4 - - ⟨rfl, hA4⟩
  subst hA4
  cases hh : hasL (B v gn).l (lk ks i0).t with
  | true =>
    simp [E49, hj1]
    exact NX.of ⟨m - 1, by omega, j + 1, ob3, LB3, B3, q3, by omega, s3.ext hw3 xl, (i3.back (i := i0) (by rw [hif, hsm]; exact of_decide_eq_true hh)).weak hnext, same3, by omega, k3.trans (by omega) (K3.ext xl _ _) f3, f3, by simp; omega, by simp [E0], by simp [E6], by simp [E47], by simp [E48], by simp⟩
  | false =>
    have hnin := of_decide_eq_false hh
    simp [E0, E6, E47, E48, E49, rw3, w1, w2, w3, w4, w5, w6, w7, w8, w9, w10, lke, lk0, lk3, sl3, happ, hwr]
    have x4 : Ext A3 (((A3.alloc (.row (lk ks i0).enc 52 false)).alloc (.row [.int .i64 (lk ks i0).t] 3 false)).alloc (.row (ints ((B v gn).l ++ [(lk ks i0).t])).flatten 3 false)) := ((Ext.alloc A3 _).app (by simp) _).app (by simp; omega) _
    have s4 := s3.ext hw3 x4
    have hob3 := (s3.qh.lt hw3).2
    have hqb3 := (s3.qh.lt hw3).1
    have nb3 := hw3 _ _ s3.bm
    have nd3 := hw3 _ _ s3.dm
    have hql : q3.length < 1024 := by
      have h1 : unH ks (don2 D v gn) Hn + L'.length = unH ks D Hn := by rw [hlen']; exact hq0
      omega
    have hapl : Ap3 n0 W ob3 (A3.next + 1 + 1) := by
      have h1 := s3.lo
      refine ⟨by omega, by omega, by omega, by omega, by omega, fun e => ?_⟩
      have := hob3 _ e
      omega
    have hof := loffer_ok s4 (v := (lk ks i0).t) (g := (gn : Int) + 1) (lb := A3.next + 1 + 1) (lc := UNK) (l := (B v gn).l ++ [(lk ks i0).t]) (x := (B v gn).c + (lk ks i0).m) (by omega) (by simp; omega) (by omega) (by simp) (by rw [AH.get_alloc, if_pos (by simp)]) hapl (Or.inl rfl) (by simp; omega) hql
    simp only [List.length_append, List.length_singleton] at hof
    refine CN.use hof ?_
    rintro _ A5 hw5 hn5 ⟨LB5, B5, q5, ob5, s5, o5, k5, f5⟩
    simp only [AH.next_alloc] at hn5 f5
    have hobt := i3.offd hg hi0 (by rw [hif]; exact don2_at _ _ _) (fun u g hu => by rw [hif, hsm, same3 u g hu]; exact m1 u g hu) (by rw [hif, hsm]; exact hnin) (by rw [hif, hsm]; exact o5)
    obtain ⟨t1, t2, t3⟩ := hobt
    simp [E49, hj1]
    refine NX.of ⟨m - 1, by omega, j + 1, ob5, LB5, B5, q5, by omega, s5, t1.weak hnext, fun u g hu => by rw [t2 u g hu, same3 u g hu], by omega, ?_, ?_, by omega, by simp [E0], by simp [E6], by simp [E47], by simp [E48], by simp⟩
    · exact k3.trans (by omega) ((K3.ext x4 W ob3).trans (by simp; omega) k5 (Or.inl rfl)) f3
    · rcases f5 with rfl | f5
      · exact f3
      · exact Or.inr fun b hb => by have := f5 b hb; omega
end
end Go.Proofs.Ytiapgbhnbgccaaa.AC
/- The best route that is like what is asked. -/
namespace Go.Proofs.Ytiapgbhnbgccaaa.AC
open Go Go.AI Go.Proofs Go.Proofs.Ytiapgbhnbgccaaa.AQ
set_option linter.unusedVariables false
theorem goodN_iff {n : Int} {ks : List Lk} : goodN n ks ↔ 1 ≤ n ∧ n ≤ 16 ∧ ks.length ≤ 64 ∧ (∀ x ∈ ks, 0 ≤ x.f ∧ x.f < n ∧ 0 ≤ x.t ∧ x.t < n ∧ x.f ≠ x.t ∧ 1 ≤ x.m ∧ x.m ≤ 65535) ∧ ks.Pairwise fun x y => ¬ (x.f = y.f ∧ x.t = y.t) := by
  constructor
  · intro h
    refine ⟨h.1, h.2.1, h.2.2.1, fun x hx => ?_, List.pairwise_iff_getElem.2 fun i j hi hj hij e => ?_⟩
    · obtain ⟨i, hi, rfl⟩ := List.getElem_of_mem hx
      have := h.link hi
      rw [lk_eq hi] at this
      exact this
    · refine h.2.2.2 j hj (Or.inl ⟨i, hij, ?_⟩)
      unfold same
      rw [lk_eq hi, lk_eq hj]; exact e
  · rintro ⟨h1, h2, h3, h4, h5⟩
    refine ⟨h1, h2, h3, fun k hk hb => ?_⟩
    have hr := h4 _ (List.getElem_mem hk)
    rw [← lk_eq hk] at hr
    rcases hb with ⟨j, hj, hs⟩ | hb
    · have := List.pairwise_iff_getElem.1 h5 j k (by omega) hk hj
      unfold same at hs
      rw [lk_eq (by omega), lk_eq hk] at hs
      exact this hs
    · omega
theorem goodN.sub {n : Int} {ks M : List Lk} (h : goodN n ks) (hs : M.Sublist ks) : goodN n M := by
  rw [goodN_iff] at h ⊢
  exact ⟨h.1, h.2.1, by have := hs.length_le; omega, fun x hx => h.2.2.2.1 x (hs.subset hx), h.2.2.2.2.sublist hs⟩
theorem fitL_sub (l : List Adv) (a : Ask) : (fitL l a).Sublist (l.map Adv.k) := (List.filter_sublist (p := fun x => fitB x a) (l := l)).map _
/-- How many links are allowed. -/
def hopsN (n hops : Int) : Nat := (if 0 < hops then (if hops < n - 1 then hops else n - 1) else n - 1).toNat
/-- What may be asked. -/
def goodF (n : Int) (l : List Adv) (a : Ask) (s t : Int) : Prop := goodN n (l.map Adv.k) ∧ (0 ≤ s ∧ s < n) ∧ (0 ≤ t ∧ t < n) ∧ s ≠ t ∧ rightB a.w = true ∧ 0 ≤ a.hops
def FndP (n : Int) (l : List Adv) (a : Ask) (s t e : Int) (r : List Int) (c : Int) : Prop :=
  (e = 2 ∧ ¬ goodF n l a s t ∧ r = [] ∧ c = 0) ∨ (goodF n l a s t ∧ ∃ x, BH n (fitL l a) s (hopsN n a.hops) t x ∧ ((e = 8 ∧ x.c < 0 ∧ r = [] ∧ c = 0) ∨ (e = 0 ∧ 0 ≤ x.c ∧ r = x.l ∧ c = x.c)))
theorem FndP.same {n : Int} {l : List Adv} {a : Ask} {s t e e' c c' : Int} {r r' : List Int} (h : FndP n l a s t e r c) (h' : FndP n l a s t e' r' c') : e = e' ∧ r = r' ∧ c = c' := by
  rcases h with ⟨h1, h2, h3, h4⟩ | ⟨h1, x, h3, h4⟩
  · rcases h' with ⟨g1, g2, g3, g4⟩ | ⟨g1, y, g3, g4⟩
    · exact ⟨by omega, by rw [h3, g3], by omega⟩
    · exact absurd g1 h2
  · rcases h' with ⟨g1, g2, g3, g4⟩ | ⟨g1, y, g3, g4⟩
    · exact absurd h1 g2
    · obtain ⟨k1, k2⟩ := h3.same g3
      rcases h4 with ⟨a1, a2, a3, a4⟩ | ⟨a1, a2, a3, a4⟩
      · rcases g4 with ⟨b1, b2, b3, b4⟩ | ⟨b1, b2, b3, b4⟩
        · exact ⟨by omega, by rw [a3, b3], by omega⟩
        · omega
      · rcases g4 with ⟨b1, b2, b3, b4⟩ | ⟨b1, b2, b3, b4⟩
        · omega
        · exact ⟨by omega, by rw [a3, b3, k2], by omega⟩
/-- The best of the places at a node. -/
structure Pk (B : PB) (t : Int) (h : Int) (y : Wy) : Prop where
  from_ : 0 ≤ y.c → ∃ g, 1 ≤ g ∧ g < h ∧ y = B t g
  none : y.c < 0 → y.c = -1 ∧ y.l = []
  le : ∀ g, 1 ≤ g → g < h → 0 ≤ (B t g).c → 0 ≤ y.c ∧ leB y.c y.l (B t g).c (B t g).l
theorem Pk.done {n s H : Int} {ks : List Lk} {B : PB} {D : PD} {t : Int} {y : Wy} {Hn : Nat} {ph : Int} (hg : goodN n ks) (h : LI n s ks Hn B D [] (fun _ => False) ph) (hst : s ≠ t) (hp : Pk B t (Hn + 1) y) : BH n ks s Hn t y := by
  refine ⟨fun hc => ?_, hp.none, fun l c hw hl => ?_⟩
  · obtain ⟨g, g1, g2, rfl⟩ := hp.from_ hc
    have hobt := h.path _ _ hc
    obtain ⟨-, -, -, -, p5, p6, p7, -⟩ := hobt
    exact ⟨p5, p6, by omega⟩
  · obtain ⟨g, g1, g2, g3⟩ := h.done hg t l c hw (by omega)
    have hg1 : 1 ≤ (g : Int) := by
      by_cases e : g = 0
      · subst e
        have hobt := h.path _ _ g2
        obtain ⟨-, -, -, -, p5, -, p7, -⟩ := hobt
        have h0 := p5.head
        have h1 := p5.last
        match hl2 : (B t ((0 : Nat) : Int)).l, p7 with
        | [z], _ =>
          rw [hl2] at h0 h1
          simp at h0 h1
          exact absurd (h0.symm.trans h1) hst
      · omega
    have hobt := hp.le g hg1 (by omega) g2
    obtain ⟨h4, h5⟩ := hobt
    exact ⟨h4, h5.trans g3⟩
theorem Pk.no {B : PB} {t h : Int} {y : Wy} (hp : Pk B t h y) (hc : (B t h).c < 0) : Pk B t (h + 1) y :=
  ⟨fun h0 => by obtain ⟨g, g1, g2, g3⟩ := hp.from_ h0; exact ⟨g, g1, by omega, g3⟩, hp.none, fun g g1 g2 g3 => by
    by_cases e : g = h
    · subst e; omega
    · exact hp.le g g1 (by omega) g3⟩
theorem Pk.stay {B : PB} {t h : Int} {y : Wy} (hp : Pk B t h y) (h0 : 0 ≤ y.c) (hc : leB y.c y.l (B t h).c (B t h).l) : Pk B t (h + 1) y :=
  ⟨fun h0 => by obtain ⟨g, g1, g2, g3⟩ := hp.from_ h0; exact ⟨g, g1, by omega, g3⟩, hp.none, fun g g1 g2 g3 => by
    by_cases e : g = h
    · subst e; exact ⟨h0, hc⟩
    · exact hp.le g g1 (by omega) g3⟩
theorem Pk.take {B : PB} {t h : Int} {y : Wy} (hp : Pk B t h y) (h1 : 1 ≤ h) (h0 : 0 ≤ (B t h).c) (hc : y.c < 0 ∨ betB (B t h).c (B t h).l y.c y.l = true) : Pk B t (h + 1) (B t h) :=
  ⟨fun _ => ⟨h, h1, by omega, rfl⟩, fun h2 => by omega, fun g g1 g2 g3 => by
    by_cases e : g = h
    · subst e; exact ⟨h0, leB.refl _ _⟩
    · obtain ⟨h3, h4⟩ := hp.le g g1 (by omega) g3
      rcases hc with hc | hc
      · omega
      · exact ⟨h0, (leB.of_bet hc).trans h4⟩⟩
theorem lnext_ok {n0 : Nat} {A : AH} {W : Wh} {ob : Option Nat} {Hn : Nat} {a : Option Addr} {c : Nat} {ks : List Lk} {LB LD : List ((Int × Int) × Value)} {B : PB} {D : PD} {q : List It} {n s ph : Int} (h : S3 n0 A W ob Hn a c ks LB LD B D q) (hI : LI n s ks Hn B D q (fun _ => False) ph) (hl : q.length ≤ 100000) :
    ACall Try.prog 32 [.pointer (some ⟨W.qb, 0, none⟩)] A fun v A' => ∃ q' x e, v = .tuple #[.agg x.enc.toArray, .int .i64 e] ∧ S3 n0 A' W ob Hn a c ks LB LD B D q' ∧ K3 A A' W ob ∧ ((e = 8 ∧ q' = [] ∧ q = []) ∨ (e = 0 ∧ LI n s ks Hn B D (x :: q') (fun _ => False) ph ∧ (∀ y ∈ x :: q', leI x y) ∧ q.length = q'.length + 1)) := by
  refine ACall.wf fun hwf => ?_
  have hobt := h.ne
  obtain ⟨e1, e2, e3, e4, e5, e6, e7, e8, e9⟩ := hobt
  by_cases h0 : q = []
  · subst h0
    refine (pop_none h.qh).mono fun v A' h1 h2 h3 => ?_
    obtain ⟨rfl, hx⟩ := h3
    exact ⟨[], ⟨0, 0, 0⟩, 8, rfl, h.ext hwf hx, K3.ext hx _ _, Or.inl ⟨rfl, rfl, rfl⟩⟩
  · have hpos : 0 < q.length := List.length_pos_iff.2 h0
    refine (pop_ok h.qh hpos hl).mono fun v A' h1 h2 h3 => ?_
    obtain ⟨L', x, rfl, hq, hp, hm, hk⟩ := h3
    have hk' : K3 A A' W ob := fun b b1 _ _ b3 b4 => hk b b1 b3 b4
    refine ⟨L', x, 0, rfl, h.move hwf hk' (Or.inl rfl) ((hk _ (hwf _ _ h.bm) e5 e8).trans h.bm) ((hk _ (hwf _ _ h.dm) e6 e9).trans h.dm) (fun v g => Or.inl ⟨rfl, rfl⟩) h.dw hq, hk', Or.inr ⟨rfl, hI.perm hp.symm, fun y hy => hm y (hp.mem_iff.2 hy), by have := hp.length_eq; simpa using this⟩⟩
theorem fnode_ok {A : AH} {p : Nat} {n : Int} (hb : A.get p = some (.row [.int .i64 n] 3 false)) (x : Int) : ACall Try.prog 26 [.int .i64 x, .pointer (some ⟨p, 0, none⟩)] A fun v A' => v = .bool (decide (0 ≤ x ∧ x < n)) ∧ A' = A := by
  refine code26.call (by simp) fun hwf => ?_
  unfold c26
  simp
  by_cases h1 : 0 ≤ x
  · simp [h1, hb]
    exact DN.of ⟨by simp [h1], rfl⟩
  · simp [h1]
    exact DN.of ⟨by simp [h1], rfl⟩
/-- Behind the search: the best of the places. -/
theorem min_hops (n hops : Int) (hn : 1 ≤ n) : 0 < hops → (hopsN n hops : Int) = if hops < n - 1 then hops else n - 1 := fun h => by
  unfold hopsN; rw [if_pos h]; split <;> omega
theorem max_hops (n hops : Int) (hn : 1 ≤ n) : ¬ 0 < hops → (hopsN n hops : Int) = n - 1 := fun h => by
  unfold hopsN; rw [if_neg h]; omega
end Go.Proofs.Ytiapgbhnbgccaaa.AC
/- cspf.Find, walked. -/
namespace Go.Proofs.Ytiapgbhnbgccaaa.AC
open Go Go.AI Go.Proofs Go.Proofs.Ytiapgbhnbgccaaa.AQ
set_option linter.unusedVariables false
set_option maxHeartbeats 4000000 in
theorem cfind_ok {A : AH} {al : Option Addr} {cl : Nat} {l : List Adv} (hl : Sl A 55 15 al (l.map Adv.enc)) (hx : ∀ x ∈ l, x.wf) (hn : l.length ≤ 1000) (a : AskM) (h : a.ok A 96) (hw : a.q.wf) (n s t : Int) :
    ACall Try.prog 16 [.int .i64 n, .slice al l.length cl, .agg a.enc.toArray, .int .i64 s, .int .i64 t] A fun v A' => Ext A A' ∧ ∃ a' c' r x e, v = .tuple #[.slice a' r.length c', .int .i64 x, .int .i64 e] ∧ FndP n l a.q s t e r x ∧ Sl A' 3 1 a' (ints r) ∧ CapOk A' 3 a' r.length c' ∧ r.length ≤ 1000 := by
  have hobt := a.cells
  obtain ⟨ael, ao, at6, -, -, -, -, -, k9⟩ := hobt
  have at10 : List.take 10 a.enc = a.enc := List.take_of_length_le (by omega)
  have a9g : a.enc[9] = .int .i64 a.q.hops := rfl
  have goal : ∀ A' : AH, Ext A A' → ¬ goodF n l a.q s t → Ext A A' ∧ ∃ a' c' r x e, Value.tuple #[.slice none 0 0, .int .i64 0, .int .i64 2] = .tuple #[.slice a' r.length c', .int .i64 x, .int .i64 e] ∧ FndP n l a.q s t e r x ∧ Sl A' 3 1 a' (ints r) ∧ CapOk A' 3 a' r.length c' ∧ r.length ≤ 1000 := fun A' hx' hb => ⟨hx', none, 0, [], 0, 2, rfl, Or.inl ⟨rfl, hb, rfl, rfl⟩, Sl.nil Pla.no _ _ _, Or.inl ⟨by simp, by unfold UNK; omega⟩, by simp⟩
  refine code16.call (by simp) fun hwf => ?_
  unfold c16
  have x0 : Ext A ((A.alloc (.row [.int .i64 n] 3 false)).alloc (.row a.enc 59 false)) := (Ext.alloc A _).app (by simp) _
  simp
  refine LN.use (fun m E A' => ∃ (k : Nat) (u : Value), m + k = l.length ∧ Ext A A' ∧ A.next + 2 ≤ A'.next ∧ A'.get A.next = some (.row [.int .i64 n] 3 false) ∧ A'.get (A.next + 1) = some (.row a.enc 59 false) ∧ Own (A.next + 2) A' 52 5 u (((l.take k).map Adv.k).map Lk.enc) ∧ E.get 1 = .slice al l.length cl ∧ E.get 3 = .int .i64 s ∧ E.get 4 = .int .i64 t ∧ E.get 5 = .pointer (some ⟨A.next, 0, none⟩) ∧ E.get 7 = .pointer (some ⟨A.next + 1, 0, none⟩) ∧ E.get 13 = u ∧ E.get 24 = .slice al l.length cl ∧ E.get 25 = .int .i64 l.length ∧ E.get 26 = .int .i64 k) l.length
    ⟨0, _, by omega, x0, by simp, by simp [AH.get_alloc], by simp [AH.get_alloc], Own.nil _ _ _ _, by simp, by simp, by simp, by simp, by simp, by simp, by simp, by simp, by simp⟩ ?_
  rintro m E A1 hw1 hn1 ⟨k, u, hk, x1, n1, r0, r1, o1, E1, E3, E4, E5, E7, E13, E24, E25, E26⟩
  by_cases hlt : k < l.length
  · have hlt' : (k : Int) < l.length := by omega
    have hgi : IntKind.i64.wrap ((k : Int) + 1) = ((k + 1 : Nat) : Int) := by rw [i64_in (by omega) (by omega)]; simp
    have hobt := (hl.ext hwf x1).at (i := k) (by simpa using hlt)
    obtain ⟨b, o, cs, q, rfl, g1, g2, g3⟩ := hobt
    rw [List.getElem_map] at g3
    have hxk := hx _ (List.getElem_mem hlt)
    have hobt := Adv.cells hxk.1
    obtain ⟨xl, xo, xt5, -⟩ := hobt
    have xo' := List.all_eq_true.1 xo
    have xt15 : List.take 15 l[k].enc = l[k].enc := List.take_of_length_le (by omega)
    have x2 := Ext.alloc A1 (.row l[k].enc 55 false)
    have hw2 := AH.wf_alloc hw1 (.row l[k].enc 55 false)
    have hobt := own_push (o1.ext hw1 x2) (y := 40) (r := l[k].k.enc) hw2 (by simp; omega) ⟨rfl, rfl⟩ (by omega) (by omega) (by simp; omega)
    obtain ⟨u', A3, p1, p2, p3, p4⟩ := hobt
    simp only [AH.next_alloc] at p1 p3
    have hobt := own_slm o1
    obtain ⟨a2, c2, rfl, -⟩ := hobt
    have kl : l[k].k.enc.length = 5 := rfl
    have ko : ∀ v ∈ l[k].k.enc, oneB v = true := List.all_eq_true.1 (rfl : l[k].k.enc.all oneB = true)
    have hlk : (List.map Adv.k (l.take k)).length = k := by simp; omega
    rw [hlk] at E13 p1
    have x02 := x1.trans (by omega) x2
    have r02 := x2.get hw1 r0
    have r12 := x2.get hw1 r1
    simp [E13, E24, E25, E26, hlt, hlt', g1, g2, g3, xl, xt15, xt5, kl, p1, hgi]
    refine ⟨xo', NX.of ⟨m - 1, by omega, k + 1, u', by omega, fun c hc => by rw [p4 c (by omega), x02 c hc], by omega, by rw [p4 _ (by omega)]; exact r02, by rw [p4 _ (by omega)]; exact r12, ?_, by simp [E1], by simp [E3], by simp [E4], by simp [E5], by simp [E7], by simp, by simp [E24], by simp [E25], by simp⟩⟩
    rw [take_snoc hlt, List.map_append, List.map_append]; exact p2
  have hlt' : ¬ (k : Int) < l.length := by omega
  rw [List.take_of_length_le (by omega)] at o1
  have hobt := own_slm o1
  obtain ⟨a2, c2, rfl, s2, f2, -⟩ := hobt
  simp [E5, E13, E25, E26, hlt', r0]
  have hck := check_ok (c := c2) s2 n
  rw [List.length_map] at hck
  refine CN.use hck ?_
  rintro _ A2 hw2 hn2 ⟨x2, r, rfl, hr⟩
  have r02 := x2.get hw1 r0
  have r12 := x2.get hw1 r1
  have x02 := x1.trans (by omega) x2
  by_cases b1 : r = 0
  rotate_left
  · have hbad : ¬ goodF n l a.q s t := fun hg => b1 (hr.zero.2 hg.1)
    simp [b1]
    exact DN.of (goal _ x02 hbad)
  have hgn := hr.zero.1 b1
  simp [b1, E3, E5]
  refine CN.use (fnode_ok r02 s) ?_
  rintro _ A2 - - ⟨rfl, rfl⟩
  by_cases b2 : 0 ≤ s ∧ s < n
  rotate_left
  · have hbad : ¬ goodF n l a.q s t := fun hg => b2 hg.2.1
    simp [b2]
    exact DN.of (goal _ x02 hbad)
  simp [b2, E4, E5]
  refine CN.use (fnode_ok r02 t) ?_
  rintro _ A2 - - ⟨rfl, rfl⟩
  by_cases b3 : 0 ≤ t ∧ t < n
  rotate_left
  · have hbad : ¬ goodF n l a.q s t := fun hg => b3 hg.2.2.1
    simp [b2, b3]
    exact DN.of (goal _ x02 hbad)
  by_cases b4 : s = t
  · have hbad : ¬ goodF n l a.q s t := fun hg => hg.2.2.2.1 b4
    simp [b2, b3, b4, E3, E4]
    exact DN.of (goal _ x02 hbad)
  simp [b2, b3, b4, E3, E4, E7, r12, ael, at6]
  refine CN.use (right_ok a.q.w _) ?_
  rintro _ A3 hw3 hn3 ⟨rfl, x3⟩
  have r03 := x3.get hw2 r02
  have r13 := x3.get hw2 r12
  have x03 := x02.trans (by omega) x3
  cases b5 : rightB a.q.w with
  | false =>
    have hbad : ¬ goodF n l a.q s t := fun hg => by rw [hg.2.2.2.2.1] at b5; cases b5
    simp [b2, b3, b4]
    exact DN.of (goal _ x03 hbad)
  | true =>
  by_cases b6 : a.q.hops < 0
  · have hbad : ¬ goodF n l a.q s t := fun hg => by have := hg.2.2.2.2.2; omega
    simp [b2, b3, b4, E7, r13, ael, a9g, b6]
    exact DN.of (goal _ x03 hbad)
  have hgood : goodF n l a.q s t := ⟨hgn, b2, b3, b4, b5, by omega⟩
  simp [b2, b3, b4, E1, E5, E7, r03, r13, ael, a9g, b6, at10]
  refine CN.use (plinks_ok (hl.ext hwf x03) hx hn a (h.ext hwf x03) hw) ?_
  rintro vL A4 hw4 hn4 ⟨x4, o4⟩
  have hobt := own_slm o4
  obtain ⟨aL, cL, rfl, sL, fL, -⟩ := hobt
  have r04 := x4.get hw3 r03
  have r14 := x4.get hw3 r13
  have x04 := x03.trans (by omega) x4
  have hn1' := hgn.1
  have hn16 := hgn.2.1
  have hwn : IntKind.i64.wrap (n - 1) = n - 1 := i64_in (by omega) (by omega)
  have hgk : goodN n (fitL l a.q) := hgn.sub (fitL_sub l a.q)
  simp [r04, hwn, E5]
  refine CN.use (qnew_ok A4) ?_
  rintro _ A5 hw5 hn5 ⟨rfl, q5, x5⟩
  have hq5 := (q5.lt hw5).1
  have r05 := x5.get hw4 r04
  have r15 := x5.get hw4 r14
  have n05 := hw5 _ _ r05
  have n15 := hw5 _ _ r15
  have w1 : ¬ A.next + 1 = A5.next := by omega
  have w2 : ¬ A.next + 1 = A5.next + 1 := by omega
  have w3 : ¬ A.next + 1 = A5.next + 1 + 1 := by omega
  have w4 : ¬ A.next = A5.next := by omega
  have w5 : ¬ A.next = A5.next + 1 := by omega
  simp [E3, E5, E7, r05, r15, w1, w2, w3, w4, w5, ael, a9g, hwn]
  -- TAIL
  split
  · rename_i b7
    have hwH : (((((A5.alloc (.mp [])).alloc (.mp [])).alloc (.row [.slice aL (fitL l a.q).length cL, .int .i64 (n - 1), .map (some A5.next), .map (some (A5.next + 1)), .pointer (some ⟨A4.next, 0, none⟩)] 82 false)).set (A5.next + 1 + 1) (.row [.slice aL (fitL l a.q).length cL, .int .i64 (if a.q.hops < n - 1 then a.q.hops else n - 1), .map (some A5.next), .map (some (A5.next + 1)), .pointer (some ⟨A4.next, 0, none⟩)] 82 false))).wf := AH.wf_set (AH.wf_alloc (AH.wf_alloc (AH.wf_alloc hw5 _) _) _) (by simp) _
    have xH : Ext A4 ((((A5.alloc (.mp [])).alloc (.mp [])).alloc (.row [.slice aL (fitL l a.q).length cL, .int .i64 (n - 1), .map (some A5.next), .map (some (A5.next + 1)), .pointer (some ⟨A4.next, 0, none⟩)] 82 false)).set (A5.next + 1 + 1) (.row [.slice aL (fitL l a.q).length cL, .int .i64 (if a.q.hops < n - 1 then a.q.hops else n - 1), .map (some A5.next), .map (some (A5.next + 1)), .pointer (some ⟨A4.next, 0, none⟩)] 82 false)) := (((((x5.app (by omega) _).app (by simp; omega) _).app (by simp; omega) _)).setnew (by omega) _)
    have xq : Ext A5 ((((A5.alloc (.mp [])).alloc (.mp [])).alloc (.row [.slice aL (fitL l a.q).length cL, .int .i64 (n - 1), .map (some A5.next), .map (some (A5.next + 1)), .pointer (some ⟨A4.next, 0, none⟩)] 82 false)).set (A5.next + 1 + 1) (.row [.slice aL (fitL l a.q).length cL, .int .i64 (if a.q.hops < n - 1 then a.q.hops else n - 1), .map (some A5.next), .map (some (A5.next + 1)), .pointer (some ⟨A4.next, 0, none⟩)] 82 false)) := ((((Ext.alloc A5 _).app (by simp) _).app (by simp; omega) _).setnew (by omega) _)
    have nH : (((((A5.alloc (.mp [])).alloc (.mp [])).alloc (.row [.slice aL (fitL l a.q).length cL, .int .i64 (n - 1), .map (some A5.next), .map (some (A5.next + 1)), .pointer (some ⟨A4.next, 0, none⟩)] 82 false)).set (A5.next + 1 + 1) (.row [.slice aL (fitL l a.q).length cL, .int .i64 (if a.q.hops < n - 1 then a.q.hops else n - 1), .map (some A5.next), .map (some (A5.next + 1)), .pointer (some ⟨A4.next, 0, none⟩)] 82 false))).next = A5.next + 3 := by simp
    have gS : (((((A5.alloc (.mp [])).alloc (.mp [])).alloc (.row [.slice aL (fitL l a.q).length cL, .int .i64 (n - 1), .map (some A5.next), .map (some (A5.next + 1)), .pointer (some ⟨A4.next, 0, none⟩)] 82 false)).set (A5.next + 1 + 1) (.row [.slice aL (fitL l a.q).length cL, .int .i64 (if a.q.hops < n - 1 then a.q.hops else n - 1), .map (some A5.next), .map (some (A5.next + 1)), .pointer (some ⟨A4.next, 0, none⟩)] 82 false))).get (A5.next + 1 + 1) = some (.row [.slice aL (fitL l a.q).length cL, .int .i64 (hopsN n a.q.hops : Nat), .map (some A5.next), .map (some (A5.next + 1)), .pointer (some ⟨A4.next, 0, none⟩)] 82 false) := by rw [AH.get_set, if_pos rfl, min_hops n a.q.hops hn1' b7]
    have gB : (((((A5.alloc (.mp [])).alloc (.mp [])).alloc (.row [.slice aL (fitL l a.q).length cL, .int .i64 (n - 1), .map (some A5.next), .map (some (A5.next + 1)), .pointer (some ⟨A4.next, 0, none⟩)] 82 false)).set (A5.next + 1 + 1) (.row [.slice aL (fitL l a.q).length cL, .int .i64 (if a.q.hops < n - 1 then a.q.hops else n - 1), .map (some A5.next), .map (some (A5.next + 1)), .pointer (some ⟨A4.next, 0, none⟩)] 82 false))).get A5.next = some (.mp []) := by rw [AH.get_set, if_neg (by omega), AH.get_alloc, if_neg (by simp <;> omega), AH.get_alloc, if_neg (by simp), AH.get_alloc, if_pos rfl]
    have gD : (((((A5.alloc (.mp [])).alloc (.mp [])).alloc (.row [.slice aL (fitL l a.q).length cL, .int .i64 (n - 1), .map (some A5.next), .map (some (A5.next + 1)), .pointer (some ⟨A4.next, 0, none⟩)] 82 false)).set (A5.next + 1 + 1) (.row [.slice aL (fitL l a.q).length cL, .int .i64 (if a.q.hops < n - 1 then a.q.hops else n - 1), .map (some A5.next), .map (some (A5.next + 1)), .pointer (some ⟨A4.next, 0, none⟩)] 82 false))).get (A5.next + 1) = some (.mp []) := by rw [AH.get_set, if_neg (by omega), AH.get_alloc, if_neg (by simp), AH.get_alloc, if_pos (by simp)]
    have s6 : S3 A4.next ((((A5.alloc (.mp [])).alloc (.mp [])).alloc (.row [.slice aL (fitL l a.q).length cL, .int .i64 (n - 1), .map (some A5.next), .map (some (A5.next + 1)), .pointer (some ⟨A4.next, 0, none⟩)] 82 false)).set (A5.next + 1 + 1) (.row [.slice aL (fitL l a.q).length cL, .int .i64 (if a.q.hops < n - 1 then a.q.hops else n - 1), .map (some A5.next), .map (some (A5.next + 1)), .pointer (some ⟨A4.next, 0, none⟩)] 82 false)) ⟨A5.next + 1 + 1, A5.next, A5.next + 1, A4.next⟩ none (hopsN n a.q.hops) aL cL (fitL l a.q) [] [] b0 (fun _ _ => false) [] :=
      ⟨gS, gB, gD, fun v g => Or.inl ⟨rfl, by simp [b0]⟩, fun v g => by simp [mget], q5.ext hw5 xq, ⟨by dsimp only; try omega, by dsimp only; try omega, by dsimp only; try omega, by dsimp only; try omega, Fresh.no _⟩, ⟨by dsimp only; try omega, by dsimp only; try omega, by dsimp only; try omega, by dsimp only; try omega, by dsimp only; try omega, by dsimp only; try omega, by simp, by simp, by simp⟩⟩
    have hof := loffer_ok (s6.ext hwH (Ext.alloc _ (.row [.int .i64 s] 3 false))) (v := s) (g := 0) (lb := A5.next + 1 + 1 + 1) (lc := 1) (l := [s]) (x := 0) (by omega) (by simp) (by omega) (by simp) (by rw [AH.get_alloc, if_pos (by simp)]; rfl) ⟨by omega, by simp, by simp only []; omega, by simp only []; omega, by simp only []; omega, by simp⟩ (Or.inr ⟨by simp, by unfold UNK; omega⟩) (by simp) (by simp)
    simp only [List.length_singleton] at hof
    refine CN.use hof ?_
    rintro _ A7 hw7 hn7 ⟨LB7, B7, q7, ob7, s7, o7, k7, f7⟩
    have hB7 : B7 = upd2 b0 s 0 ⟨[s], 0, false⟩ ∧ q7.Perm [⟨0, 0, s⟩] := by
      rcases o7 with ⟨-, h1, h2⟩ | ⟨h1, -⟩
      · exact ⟨h1, h2⟩
      · simp [tak2, b0] at h1
    have i7 : LI n s (fitL l a.q) (hopsN n a.q.hops) B7 (fun _ _ => false) q7 (fun _ => False) 0 := by
      rw [hB7.1]
      exact (LI.start b2 (by omega) (x := ⟨0, 0, s⟩) ⟨rfl, rfl, rfl⟩).perm hB7.2
    have hl7 : q7.length = 1 := by rw [hB7.2.length_eq]; rfl
    have hHn : (hopsN n a.q.hops : Int) < n ∧ hopsN n a.q.hops ≤ 15 := by unfold hopsN; split <;> (try split) <;> omega
    have hks := hgk.2.2.1
    have hu7 : unH (fitL l a.q) (fun _ _ => false) (hopsN n a.q.hops) ≤ 960 := Nat.le_trans (unH_le _) (Nat.mul_le_mul hHn.2 hks)
    have hnx7 : A4.next ≤ A7.next := by simp only [AH.next_alloc] at hn7; omega
    have x7 : Ext A4 A7 := (s6.ext hwH (Ext.alloc _ (.row [.int .i64 s] 3 false))).ext0 rfl (xH.app (by omega) _) (by simp only [AH.next_alloc]; omega) k7
    clear hof o7 k7
    simp
    refine LN.use (fun m E A' => ∃ (LB LD : List ((Int × Int) × Value)) (B : PB) (D : PD) (q : List It) (ob : Option Nat) (ph : Int), m = q.length + unH (fitL l a.q) D (hopsN n a.q.hops) ∧ m ≤ 1000 ∧ S3 A4.next A' ⟨A5.next + 1 + 1, A5.next, A5.next + 1, A4.next⟩ ob (hopsN n a.q.hops) aL cL (fitL l a.q) LB LD B D q ∧ LI n s (fitL l a.q) (hopsN n a.q.hops) B D q (fun _ => False) ph ∧ Ext A4 A' ∧ A4.next ≤ A'.next ∧ E.get 4 = .int .i64 t ∧ E.get 17 = .pointer (some ⟨A5.next + 1 + 1, 0, none⟩)) (q7.length + unH (fitL l a.q) (fun _ _ => false) (hopsN n a.q.hops))
      ⟨LB7, [], B7, _, q7, ob7, 0, rfl, by omega, s7, i7, x7, hnx7, by simp [E4], by simp⟩ ?_
    clear hl7 hB7 hu7 i7 s7 x7 hnx7 s6 gS gB gD xH xq hwH nH
    rintro m E A8 hw8 hn8 ⟨LB, LD, B, D, q, ob, ph, hm, hm2, s8, i8, x8, n8, E4', E17⟩
    have hgs8 := s8.s
    dsimp only at hgs8
    simp [E17, hgs8]
    refine CN.use (lnext_ok s8 i8 (by omega)) ?_
    rintro _ A9 hw9 hn9 ⟨q9, x, e, rfl, s9, k9', hc9⟩
    have x9 := s8.ext0 rfl x8 n8 k9'
    have xl : x.enc.length = 3 := rfl
    have xo : ∀ y ∈ x.enc, oneB y = true := List.all_eq_true.1 (rfl : x.enc.all oneB = true)
    have xe2 : x.enc[2] = .int .i64 x.n := rfl
    have xe1 : x.enc[1] = .int .i64 x.h := rfl
    have s10 := s9.ext hw9 (Ext.alloc A9 (.row x.enc 87 false))
    have x10 : Ext A4 (A9.alloc (.row x.enc 87 false)) := x9.app (by omega) _
    simp [xl]
    refine ⟨xo, ?_⟩
    rcases hc9 with ⟨rfl, rfl, rfl⟩ | ⟨rfl, h2, h3, h4⟩
    rotate_left
    · simp [E17, xl, xe1, xe2]
      refine CN.use (lsettle_ok hgk b2 hHn.1 rfl hw4 sL x10 (by simp; omega) s10 x h2 h3 (by omega)) ?_
      rintro _ A11 hw11 hn11 ⟨LB', LD', B', D', q', ob', ph', s11, i11, l11, k11, f11⟩
      have x11 := s10.ext0 rfl x10 (by simp; omega) k11
      simp only [AH.next_alloc] at hn11
      simp
      exact NX.of ⟨_, by omega, LB', LD', B', D', q', ob', ph', rfl, by omega, s11, i11, x11, by omega, by simp [E4'], by simp [E17]⟩
    simp
    have hxf : Ext A9 (((A9.alloc (.row x.enc 87 false)).alloc (.row [.slice none 0 0, .int .i64 0] 85 false)).set (A9.next + 1) (.row [.slice none 0 0, .int .i64 (-1)] 85 false)) := ((Ext.alloc A9 _).app (by simp) _).setnew (by omega) _
    refine LN.use (fun m E A' => ∃ (k : Nat) (y : Wy) (v : Value), m + k = hopsN n a.q.hops + 1 ∧ 1 ≤ k ∧ Ext A9 A' ∧ A9.next + 2 ≤ A'.next ∧ A'.get (A9.next + 1) = some (.row [v, .int .i64 y.c] 85 false) ∧ Pk B t k y ∧ ((y.c < 0 ∧ v = .slice none 0 0) ∨ (0 ≤ y.c ∧ ∃ b c, v = .slice (some ⟨b, 0, none⟩) y.l.length c ∧ A9.get b = some (.row (ints y.l).flatten 3 false) ∧ lcap y.l.length c ∧ y.l.length ≤ 1000)) ∧ E.get 4 = .int .i64 t ∧ E.get 17 = .pointer (some ⟨A5.next + 1 + 1, 0, none⟩) ∧ E.get 20 = .pointer (some ⟨A9.next + 1, 0, none⟩) ∧ E.get 21 = .int .i64 k) (hopsN n a.q.hops)
      ⟨1, ⟨[], -1, false⟩, _, by omega, Nat.le_refl _, hxf, by simp, by rw [AH.get_set, if_pos rfl], ⟨fun h => by simp at h, fun _ => ⟨rfl, rfl⟩, fun g g1 g2 => by omega⟩, Or.inl ⟨by simp, rfl⟩, by simp [E4'], by simp [E17], by simp, by simp⟩ ?_
    clear hxf E4' E17 s10 x10
    rintro m E A11 hw11 hn11 ⟨k, y, v, hk, hk1, x11, n11, g11, pk, hv, E4', E17, E20, E21⟩
    have s11 := s9.ext hw9 x11
    have hgs11 := s11.s
    have hbm11 := s11.bm
    dsimp only at hgs11 hbm11
    have hbw := s9.bw t k
    have nsp := hw11 _ _ hgs11
    have nbb := hw11 _ _ hbm11
    have hone : oneB v = true := by rcases hv with ⟨-, rfl⟩ | ⟨-, b, c, rfl, -⟩ <;> rfl
    have hvc : v.cells = #[v] := oneB_cells hone
    by_cases hlt : k ≤ hopsN n a.q.hops
    · have hlt' : (k : Int) ≤ (hopsN n a.q.hops : Nat) := by omega
      have hgi : IntKind.i64.wrap ((k : Int) + 1) = ((k + 1 : Nat) : Int) := by rw [i64_in (by omega) (by omega)]; simp
      have hlk : aLookup Try.prog 77 (.map (some A5.next)) (.agg #[.int .i64 t, .int .i64 k]) true A11 = some (.tuple #[(mget LB (t, (k : Int))).getD (.agg #[.slice none 0 0, .int .i64 0]), .bool (mget LB (t, (k : Int))).isSome]) := (lookup_mp plK_ok mo77 ze85 hbm11 (t, (k : Int))).1
      have hone2 : ∀ (u : Value) (y : Int), oneB u = true → ∀ (i : Nat) (hi : i < 2), oneB ([u, Value.int .i64 y][i]'hi) = true := fun u y hu i hi => by
        match i, hi with
        | 0, _ => exact hu
        | 1, _ => rfl
      have z1 : ¬ A9.next + 1 = A11.next := by omega
      have z2 : ¬ A11.next = A9.next + 1 := by omega
      have hk0 : ((k + 1 : Nat) : Int) = (k : Int) + 1 := by omega
      rcases hbw with ⟨k1, k2⟩ | ⟨r, k1, k2, b1, c1, rfl, r1, r2, r3, r4⟩
      · simp [E4', E17, E20, E21, hlt, hlt', hgs11, hlk, k1, hgi]
        exact NX.of ⟨m - 1, by omega, k + 1, y, v, by omega, by omega, x11.app (by omega) _, by simp; omega, by rw [AH.get_alloc, if_neg z1]; exact g11, by rw [hk0]; exact pk.no k2, hv, by simp [E4'], by simp [E17], by simp [E20], by simp⟩
      · have x12 := (x11.app (by omega) (.row [.slice none 0 0, .int .i64 0] 85 false)).setnew (c := A11.next) (by omega) (.row [.slice (some ⟨b1, 0, none⟩) (B t k).l.length c1, .int .i64 (B t k).c] 85 false)
        have hs1 : Sl A9 3 1 (some ⟨b1, 0, none⟩) (ints (B t k).l) := Sl.row (ints_rw _) r1 rfl
        have n12 : A9.next + 2 ≤ A11.next + 1 := by omega
        rcases hv with ⟨hy, rfl⟩ | ⟨hy, b2', c2', rfl, q1, q2, q3⟩
        · simp [E4', E17, E20, E21, hlt, hlt', hgs11, hlk, k1, z1, z2, g11, hgi, hy]
          exact NX.of ⟨m - 1, by omega, k + 1, B t k, _, by omega, by omega, (x11.app (by omega) _).setnew (by omega) _, by simp; omega, by rw [AH.get_set, if_pos rfl], by rw [hk0]; exact pk.take (by omega) k2 (Or.inl hy), Or.inr ⟨k2, b1, c1, rfl, r1, r3, r4⟩, by simp [E4'], by simp [E17], by simp [E20], by simp⟩
        · have hy' : ¬ y.c < 0 := by omega
          have hs2 : Sl A9 3 1 (some ⟨b2', 0, none⟩) (ints y.l) := Sl.row (ints_rw _) q1 rfl
          simp [E4', E17, E20, E21, hlt, hlt', hgs11, hlk, k1, z1, z2, g11, hgi, hy']
          refine CN.use (better_ok (c := c1) (c' := c2') (hs1.ext hw9 (x11.app (by omega) _)) (hs2.ext hw9 (x11.app (by omega) _)) (by omega) (by omega) (B t k).c y.c) ?_
          rintro _ A2 - - ⟨rfl, rfl⟩
          cases hbt : betB (B t k).c (B t k).l y.c y.l
          · simp [E4', E17, E20, E21, z1, z2, g11, hgi]
            exact NX.of ⟨m - 1, by omega, k + 1, y, _, by omega, by omega, x11.app (by omega) _, by simp; omega, by rw [AH.get_alloc, if_neg z1]; exact g11, by rw [hk0]; exact pk.stay hy (hbt), Or.inr ⟨hy, b2', c2', rfl, q1, q2, q3⟩, by simp [E4'], by simp [E17], by simp [E20], by simp⟩
          · simp [E4', E17, E20, E21, z1, z2, g11, hgi]
            exact NX.of ⟨m - 1, by omega, k + 1, B t k, _, by omega, by omega, (x11.app (by omega) _).setnew (by omega) _, by simp; omega, by rw [AH.get_set, if_pos rfl], by rw [hk0]; exact pk.take (by omega) k2 (Or.inr hbt), Or.inr ⟨k2, b1, c1, rfl, r1, r3, r4⟩, by simp [E4'], by simp [E17], by simp [E20], by simp⟩
    · have hlt' : ¬ (k : Int) ≤ (hopsN n a.q.hops : Nat) := by omega
      obtain rfl : k = hopsN n a.q.hops + 1 := by omega
      have hlt2 : ¬ ((hopsN n a.q.hops : Nat) : Int) + 1 ≤ (hopsN n a.q.hops : Nat) := by omega
      have hbh := Pk.done (H := 0) hgk i8 b4 (by simpa using pk)
      have xfin := (x04.trans (by omega) x9).trans (by omega) x11
      rcases hv with ⟨hy, rfl⟩ | ⟨hy, b2', c2', rfl, q1, q2, q3⟩
      · simp [E17, E20, E21, hgs11, g11, hy, hlt2]
        exact DN.of ⟨xfin, none, 0, [], 0, 8, rfl, Or.inr ⟨hgood, y, hbh, Or.inl ⟨rfl, hy, rfl, rfl⟩⟩, Sl.nil Pla.no _ _ _, Or.inl ⟨by simp, by unfold UNK; omega⟩, by simp⟩
      · have hy' : ¬ y.c < 0 := by omega
        have q1' := x11.get hw9 q1
        simp [E17, E20, E21, hgs11, g11, hy', hlt2]
        refine DN.of ⟨xfin, _, c2', y.l, y.c, 0, rfl, Or.inr ⟨hgood, y, hbh, Or.inr ⟨rfl, hy, rfl, rfl⟩⟩, Sl.row (ints_rw _) q1' rfl, ?_, q3⟩
        rcases q2 with rfl | q2
        · exact Or.inr ⟨rfl, fun b o e => by injection e with e; injection e with e; subst e; exact ⟨_, _, q1'⟩⟩
        · exact Or.inl q2
  · rename_i b7
    have hwH : ((((A5.alloc (.mp [])).alloc (.mp [])).alloc (.row [.slice aL (fitL l a.q).length cL, .int .i64 (n - 1), .map (some A5.next), .map (some (A5.next + 1)), .pointer (some ⟨A4.next, 0, none⟩)] 82 false))).wf := AH.wf_alloc (AH.wf_alloc (AH.wf_alloc hw5 _) _) _
    have xH : Ext A4 (((A5.alloc (.mp [])).alloc (.mp [])).alloc (.row [.slice aL (fitL l a.q).length cL, .int .i64 (n - 1), .map (some A5.next), .map (some (A5.next + 1)), .pointer (some ⟨A4.next, 0, none⟩)] 82 false)) := (((x5.app (by omega) _).app (by simp; omega) _).app (by simp; omega) _)
    have xq : Ext A5 (((A5.alloc (.mp [])).alloc (.mp [])).alloc (.row [.slice aL (fitL l a.q).length cL, .int .i64 (n - 1), .map (some A5.next), .map (some (A5.next + 1)), .pointer (some ⟨A4.next, 0, none⟩)] 82 false)) := (((Ext.alloc A5 _).app (by simp) _).app (by simp; omega) _)
    have nH : ((((A5.alloc (.mp [])).alloc (.mp [])).alloc (.row [.slice aL (fitL l a.q).length cL, .int .i64 (n - 1), .map (some A5.next), .map (some (A5.next + 1)), .pointer (some ⟨A4.next, 0, none⟩)] 82 false))).next = A5.next + 3 := by simp
    have gS : ((((A5.alloc (.mp [])).alloc (.mp [])).alloc (.row [.slice aL (fitL l a.q).length cL, .int .i64 (n - 1), .map (some A5.next), .map (some (A5.next + 1)), .pointer (some ⟨A4.next, 0, none⟩)] 82 false))).get (A5.next + 1 + 1) = some (.row [.slice aL (fitL l a.q).length cL, .int .i64 (hopsN n a.q.hops : Nat), .map (some A5.next), .map (some (A5.next + 1)), .pointer (some ⟨A4.next, 0, none⟩)] 82 false) := by rw [AH.get_alloc, if_pos (by simp), max_hops n a.q.hops hn1' b7]
    have gB : ((((A5.alloc (.mp [])).alloc (.mp [])).alloc (.row [.slice aL (fitL l a.q).length cL, .int .i64 (n - 1), .map (some A5.next), .map (some (A5.next + 1)), .pointer (some ⟨A4.next, 0, none⟩)] 82 false))).get A5.next = some (.mp []) := by rw [AH.get_alloc, if_neg (by simp <;> omega), AH.get_alloc, if_neg (by simp), AH.get_alloc, if_pos rfl]
    have gD : ((((A5.alloc (.mp [])).alloc (.mp [])).alloc (.row [.slice aL (fitL l a.q).length cL, .int .i64 (n - 1), .map (some A5.next), .map (some (A5.next + 1)), .pointer (some ⟨A4.next, 0, none⟩)] 82 false))).get (A5.next + 1) = some (.mp []) := by rw [AH.get_alloc, if_neg (by simp), AH.get_alloc, if_pos (by simp)]
    have s6 : S3 A4.next (((A5.alloc (.mp [])).alloc (.mp [])).alloc (.row [.slice aL (fitL l a.q).length cL, .int .i64 (n - 1), .map (some A5.next), .map (some (A5.next + 1)), .pointer (some ⟨A4.next, 0, none⟩)] 82 false)) ⟨A5.next + 1 + 1, A5.next, A5.next + 1, A4.next⟩ none (hopsN n a.q.hops) aL cL (fitL l a.q) [] [] b0 (fun _ _ => false) [] :=
      ⟨gS, gB, gD, fun v g => Or.inl ⟨rfl, by simp [b0]⟩, fun v g => by simp [mget], q5.ext hw5 xq, ⟨by dsimp only; try omega, by dsimp only; try omega, by dsimp only; try omega, by dsimp only; try omega, Fresh.no _⟩, ⟨by dsimp only; try omega, by dsimp only; try omega, by dsimp only; try omega, by dsimp only; try omega, by dsimp only; try omega, by dsimp only; try omega, by simp, by simp, by simp⟩⟩
    have hof := loffer_ok (s6.ext hwH (Ext.alloc _ (.row [.int .i64 s] 3 false))) (v := s) (g := 0) (lb := A5.next + 1 + 1 + 1) (lc := 1) (l := [s]) (x := 0) (by omega) (by simp) (by omega) (by simp) (by rw [AH.get_alloc, if_pos (by simp)]; rfl) ⟨by omega, by simp, by simp only []; omega, by simp only []; omega, by simp only []; omega, by simp⟩ (Or.inr ⟨by simp, by unfold UNK; omega⟩) (by simp) (by simp)
    simp only [List.length_singleton] at hof
    refine CN.use hof ?_
    rintro _ A7 hw7 hn7 ⟨LB7, B7, q7, ob7, s7, o7, k7, f7⟩
    have hB7 : B7 = upd2 b0 s 0 ⟨[s], 0, false⟩ ∧ q7.Perm [⟨0, 0, s⟩] := by
      rcases o7 with ⟨-, h1, h2⟩ | ⟨h1, -⟩
      · exact ⟨h1, h2⟩
      · simp [tak2, b0] at h1
    have i7 : LI n s (fitL l a.q) (hopsN n a.q.hops) B7 (fun _ _ => false) q7 (fun _ => False) 0 := by
      rw [hB7.1]
      exact (LI.start b2 (by omega) (x := ⟨0, 0, s⟩) ⟨rfl, rfl, rfl⟩).perm hB7.2
    have hl7 : q7.length = 1 := by rw [hB7.2.length_eq]; rfl
    have hHn : (hopsN n a.q.hops : Int) < n ∧ hopsN n a.q.hops ≤ 15 := by unfold hopsN; split <;> (try split) <;> omega
    have hks := hgk.2.2.1
    have hu7 : unH (fitL l a.q) (fun _ _ => false) (hopsN n a.q.hops) ≤ 960 := Nat.le_trans (unH_le _) (Nat.mul_le_mul hHn.2 hks)
    have hnx7 : A4.next ≤ A7.next := by simp only [AH.next_alloc] at hn7; omega
    have x7 : Ext A4 A7 := (s6.ext hwH (Ext.alloc _ (.row [.int .i64 s] 3 false))).ext0 rfl (xH.app (by omega) _) (by simp only [AH.next_alloc]; omega) k7
    clear hof o7 k7
    simp
    refine LN.use (fun m E A' => ∃ (LB LD : List ((Int × Int) × Value)) (B : PB) (D : PD) (q : List It) (ob : Option Nat) (ph : Int), m = q.length + unH (fitL l a.q) D (hopsN n a.q.hops) ∧ m ≤ 1000 ∧ S3 A4.next A' ⟨A5.next + 1 + 1, A5.next, A5.next + 1, A4.next⟩ ob (hopsN n a.q.hops) aL cL (fitL l a.q) LB LD B D q ∧ LI n s (fitL l a.q) (hopsN n a.q.hops) B D q (fun _ => False) ph ∧ Ext A4 A' ∧ A4.next ≤ A'.next ∧ E.get 4 = .int .i64 t ∧ E.get 17 = .pointer (some ⟨A5.next + 1 + 1, 0, none⟩)) (q7.length + unH (fitL l a.q) (fun _ _ => false) (hopsN n a.q.hops))
      ⟨LB7, [], B7, _, q7, ob7, 0, rfl, by omega, s7, i7, x7, hnx7, by simp [E4], by simp⟩ ?_
    clear hl7 hB7 hu7 i7 s7 x7 hnx7 s6 gS gB gD xH xq hwH nH
    rintro m E A8 hw8 hn8 ⟨LB, LD, B, D, q, ob, ph, hm, hm2, s8, i8, x8, n8, E4', E17⟩
    have hgs8 := s8.s
    dsimp only at hgs8
    simp [E17, hgs8]
    refine CN.use (lnext_ok s8 i8 (by omega)) ?_
    rintro _ A9 hw9 hn9 ⟨q9, x, e, rfl, s9, k9', hc9⟩
    have x9 := s8.ext0 rfl x8 n8 k9'
    have xl : x.enc.length = 3 := rfl
    have xo : ∀ y ∈ x.enc, oneB y = true := List.all_eq_true.1 (rfl : x.enc.all oneB = true)
    have xe2 : x.enc[2] = .int .i64 x.n := rfl
    have xe1 : x.enc[1] = .int .i64 x.h := rfl
    have s10 := s9.ext hw9 (Ext.alloc A9 (.row x.enc 87 false))
    have x10 : Ext A4 (A9.alloc (.row x.enc 87 false)) := x9.app (by omega) _
    simp [xl]
    refine ⟨xo, ?_⟩
    rcases hc9 with ⟨rfl, rfl, rfl⟩ | ⟨rfl, h2, h3, h4⟩
    rotate_left
    · simp [E17, xl, xe1, xe2]
      refine CN.use (lsettle_ok hgk b2 hHn.1 rfl hw4 sL x10 (by simp; omega) s10 x h2 h3 (by omega)) ?_
      rintro _ A11 hw11 hn11 ⟨LB', LD', B', D', q', ob', ph', s11, i11, l11, k11, f11⟩
      have x11 := s10.ext0 rfl x10 (by simp; omega) k11
      simp only [AH.next_alloc] at hn11
      simp
      exact NX.of ⟨_, by omega, LB', LD', B', D', q', ob', ph', rfl, by omega, s11, i11, x11, by omega, by simp [E4'], by simp [E17]⟩
    simp
    have hxf : Ext A9 (((A9.alloc (.row x.enc 87 false)).alloc (.row [.slice none 0 0, .int .i64 0] 85 false)).set (A9.next + 1) (.row [.slice none 0 0, .int .i64 (-1)] 85 false)) := ((Ext.alloc A9 _).app (by simp) _).setnew (by omega) _
    refine LN.use (fun m E A' => ∃ (k : Nat) (y : Wy) (v : Value), m + k = hopsN n a.q.hops + 1 ∧ 1 ≤ k ∧ Ext A9 A' ∧ A9.next + 2 ≤ A'.next ∧ A'.get (A9.next + 1) = some (.row [v, .int .i64 y.c] 85 false) ∧ Pk B t k y ∧ ((y.c < 0 ∧ v = .slice none 0 0) ∨ (0 ≤ y.c ∧ ∃ b c, v = .slice (some ⟨b, 0, none⟩) y.l.length c ∧ A9.get b = some (.row (ints y.l).flatten 3 false) ∧ lcap y.l.length c ∧ y.l.length ≤ 1000)) ∧ E.get 4 = .int .i64 t ∧ E.get 17 = .pointer (some ⟨A5.next + 1 + 1, 0, none⟩) ∧ E.get 20 = .pointer (some ⟨A9.next + 1, 0, none⟩) ∧ E.get 21 = .int .i64 k) (hopsN n a.q.hops)
      ⟨1, ⟨[], -1, false⟩, _, by omega, Nat.le_refl _, hxf, by simp, by rw [AH.get_set, if_pos rfl], ⟨fun h => by simp at h, fun _ => ⟨rfl, rfl⟩, fun g g1 g2 => by omega⟩, Or.inl ⟨by simp, rfl⟩, by simp [E4'], by simp [E17], by simp, by simp⟩ ?_
    clear hxf E4' E17 s10 x10
    rintro m E A11 hw11 hn11 ⟨k, y, v, hk, hk1, x11, n11, g11, pk, hv, E4', E17, E20, E21⟩
    have s11 := s9.ext hw9 x11
    have hgs11 := s11.s
    have hbm11 := s11.bm
    dsimp only at hgs11 hbm11
    have hbw := s9.bw t k
    have nsp := hw11 _ _ hgs11
    have nbb := hw11 _ _ hbm11
    have hone : oneB v = true := by rcases hv with ⟨-, rfl⟩ | ⟨-, b, c, rfl, -⟩ <;> rfl
    have hvc : v.cells = #[v] := oneB_cells hone
    by_cases hlt : k ≤ hopsN n a.q.hops
    · have hlt' : (k : Int) ≤ (hopsN n a.q.hops : Nat) := by omega
      have hgi : IntKind.i64.wrap ((k : Int) + 1) = ((k + 1 : Nat) : Int) := by rw [i64_in (by omega) (by omega)]; simp
      have hlk : aLookup Try.prog 77 (.map (some A5.next)) (.agg #[.int .i64 t, .int .i64 k]) true A11 = some (.tuple #[(mget LB (t, (k : Int))).getD (.agg #[.slice none 0 0, .int .i64 0]), .bool (mget LB (t, (k : Int))).isSome]) := (lookup_mp plK_ok mo77 ze85 hbm11 (t, (k : Int))).1
      have hone2 : ∀ (u : Value) (y : Int), oneB u = true → ∀ (i : Nat) (hi : i < 2), oneB ([u, Value.int .i64 y][i]'hi) = true := fun u y hu i hi => by
        match i, hi with
        | 0, _ => exact hu
        | 1, _ => rfl
      have z1 : ¬ A9.next + 1 = A11.next := by omega
      have z2 : ¬ A11.next = A9.next + 1 := by omega
      have hk0 : ((k + 1 : Nat) : Int) = (k : Int) + 1 := by omega
      rcases hbw with ⟨k1, k2⟩ | ⟨r, k1, k2, b1, c1, rfl, r1, r2, r3, r4⟩
      · simp [E4', E17, E20, E21, hlt, hlt', hgs11, hlk, k1, hgi]
        exact NX.of ⟨m - 1, by omega, k + 1, y, v, by omega, by omega, x11.app (by omega) _, by simp; omega, by rw [AH.get_alloc, if_neg z1]; exact g11, by rw [hk0]; exact pk.no k2, hv, by simp [E4'], by simp [E17], by simp [E20], by simp⟩
      · have x12 := (x11.app (by omega) (.row [.slice none 0 0, .int .i64 0] 85 false)).setnew (c := A11.next) (by omega) (.row [.slice (some ⟨b1, 0, none⟩) (B t k).l.length c1, .int .i64 (B t k).c] 85 false)
        have hs1 : Sl A9 3 1 (some ⟨b1, 0, none⟩) (ints (B t k).l) := Sl.row (ints_rw _) r1 rfl
        have n12 : A9.next + 2 ≤ A11.next + 1 := by omega
        rcases hv with ⟨hy, rfl⟩ | ⟨hy, b2', c2', rfl, q1, q2, q3⟩
        · simp [E4', E17, E20, E21, hlt, hlt', hgs11, hlk, k1, z1, z2, g11, hgi, hy]
          exact NX.of ⟨m - 1, by omega, k + 1, B t k, _, by omega, by omega, (x11.app (by omega) _).setnew (by omega) _, by simp; omega, by rw [AH.get_set, if_pos rfl], by rw [hk0]; exact pk.take (by omega) k2 (Or.inl hy), Or.inr ⟨k2, b1, c1, rfl, r1, r3, r4⟩, by simp [E4'], by simp [E17], by simp [E20], by simp⟩
        · have hy' : ¬ y.c < 0 := by omega
          have hs2 : Sl A9 3 1 (some ⟨b2', 0, none⟩) (ints y.l) := Sl.row (ints_rw _) q1 rfl
          simp [E4', E17, E20, E21, hlt, hlt', hgs11, hlk, k1, z1, z2, g11, hgi, hy']
          refine CN.use (better_ok (c := c1) (c' := c2') (hs1.ext hw9 (x11.app (by omega) _)) (hs2.ext hw9 (x11.app (by omega) _)) (by omega) (by omega) (B t k).c y.c) ?_
          rintro _ A2 - - ⟨rfl, rfl⟩
          cases hbt : betB (B t k).c (B t k).l y.c y.l
          · simp [E4', E17, E20, E21, z1, z2, g11, hgi]
            exact NX.of ⟨m - 1, by omega, k + 1, y, _, by omega, by omega, x11.app (by omega) _, by simp; omega, by rw [AH.get_alloc, if_neg z1]; exact g11, by rw [hk0]; exact pk.stay hy (hbt), Or.inr ⟨hy, b2', c2', rfl, q1, q2, q3⟩, by simp [E4'], by simp [E17], by simp [E20], by simp⟩
          · simp [E4', E17, E20, E21, z1, z2, g11, hgi]
            exact NX.of ⟨m - 1, by omega, k + 1, B t k, _, by omega, by omega, (x11.app (by omega) _).setnew (by omega) _, by simp; omega, by rw [AH.get_set, if_pos rfl], by rw [hk0]; exact pk.take (by omega) k2 (Or.inr hbt), Or.inr ⟨k2, b1, c1, rfl, r1, r3, r4⟩, by simp [E4'], by simp [E17], by simp [E20], by simp⟩
    · have hlt' : ¬ (k : Int) ≤ (hopsN n a.q.hops : Nat) := by omega
      obtain rfl : k = hopsN n a.q.hops + 1 := by omega
      have hlt2 : ¬ ((hopsN n a.q.hops : Nat) : Int) + 1 ≤ (hopsN n a.q.hops : Nat) := by omega
      have hbh := Pk.done (H := 0) hgk i8 b4 (by simpa using pk)
      have xfin := (x04.trans (by omega) x9).trans (by omega) x11
      rcases hv with ⟨hy, rfl⟩ | ⟨hy, b2', c2', rfl, q1, q2, q3⟩
      · simp [E17, E20, E21, hgs11, g11, hy, hlt2]
        exact DN.of ⟨xfin, none, 0, [], 0, 8, rfl, Or.inr ⟨hgood, y, hbh, Or.inl ⟨rfl, hy, rfl, rfl⟩⟩, Sl.nil Pla.no _ _ _, Or.inl ⟨by simp, by unfold UNK; omega⟩, by simp⟩
      · have hy' : ¬ y.c < 0 := by omega
        have q1' := x11.get hw9 q1
        simp [E17, E20, E21, hgs11, g11, hy', hlt2]
        refine DN.of ⟨xfin, _, c2', y.l, y.c, 0, rfl, Or.inr ⟨hgood, y, hbh, Or.inr ⟨rfl, hy, rfl, rfl⟩⟩, Sl.row (ints_rw _) q1' rfl, ?_, q3⟩
        rcases q2 with rfl | q2
        · exact Or.inr ⟨rfl, fun b o e => by injection e with e; injection e with e; subst e; exact ⟨_, _, q1'⟩⟩
        · exact Or.inl q2
end Go.Proofs.Ytiapgbhnbgccaaa.AC
/- The reference's ways of one link more. -/
namespace Go.Proofs.Ytiapgbhnbgccaaa.AC
open Go Go.AI Go.Proofs Go.Proofs.Ytiapgbhnbgccaaa.AQ
set_option linter.unusedVariables false
theorem one_row {A : AH} (x : Int) : Sl (A.alloc (.row [.int .i64 x] 3 false)) 3 1 (some ⟨A.next, 0, none⟩) (ints [x]) := Sl.row (ints_rw [x]) (AH.get_new _ _) (by simp [ints])
def W4M (A : AH) (wb : Nat) (r : List Value) (x : Wy) : Prop :=
  ∃ a c, r = [.slice a x.l.length c, .int .i64 x.c] ∧ Sl A 3 1 a (ints x.l) ∧ (x.l = [] → a = none) ∧ (∀ b o, a = some ⟨b, o, none⟩ → b ≠ wb) ∧ x.l.length ≤ 1000
theorem sl_lt {A : AH} {a : Option Addr} {l : List Int} {b o : Nat} (h : Sl A 3 1 a (ints l)) (hw : A.wf) (hn : l = [] → a = none) (ha : a = some ⟨b, o, none⟩) : b < A.next := by
  cases l with
  | nil => rw [hn rfl] at ha; cases ha
  | cons x l =>
    have hobt := h.one (Go.AI.ints_at (l := x :: l) (i := 0) (by simp))
    obtain ⟨b', o', cs, ro, h0, h1, h2⟩ := hobt
    rw [ha] at h0
    injection h0 with h0; injection h0 with h0 _ _
    rw [h0]; exact hw _ _ h1
theorem W4M.kept {A A' : AH} {wb : Nat} {r : List Value} {x : Wy} (h : W4M A wb r x) (hw : A.wf) (hk : ∀ b, b < A.next → b ≠ wb → A'.get b = A.get b) : W4M A' wb r x := by
  obtain ⟨a, c, h1, h2, h3, h4, h5⟩ := h
  exact ⟨a, c, h1, h2.kept fun b o y hb hy => hk b (hw _ _ hy) (h4 b o hb), h3, h4, h5⟩
theorem W4M.move {A A' : AH} {wb wb' : Nat} {r : List Value} {x : Wy} (h : W4M A wb r x) (hw : A.wf) (hx : Ext A A') (hn : A.next ≤ wb') : W4M A' wb' r x := by
  obtain ⟨a, c, h1, h2, h3, h4, h5⟩ := h
  exact ⟨a, c, h1, h2.ext hw hx, h3, fun b o hb => by have := sl_lt h2 hw h3 hb; omega, h5⟩
structure RS4 (A : AH) (wb n : Nat) (R : Nat → List Value) (w : Int → Wy) : Prop where
  ws : A.get wb = some (.row ((List.range n).map R).flatten 67 false)
  wy : ∀ v : Nat, v < n → W4M A wb (R v) (w v)
theorem RS4.rw {A : AH} {wb n : Nat} {R : Nat → List Value} {w : Int → Wy} (h : RS4 A wb n R w) : Rw 2 ((List.range n).map R) := by
  intro r hr
  have hobt := List.mem_map.1 hr
  obtain ⟨v, hv, rfl⟩ := hobt
  have hobt := h.wy v (List.mem_range.1 hv)
  obtain ⟨a, c, e, -⟩ := hobt
  rw [e]; exact ⟨rfl, rfl⟩
theorem RS4.at {A : AH} {wb n : Nat} {R : Nat → List Value} {w : Int → Wy} (h : RS4 A wb n R w) {v : Nat} (hv : v < n) : ∃ cs a c, A.get wb = some (.row cs 67 false) ∧ cs = ((List.range n).map R).flatten ∧ Sl A 3 1 a (ints (w v).l) ∧ (w v).l.length ≤ 1000 ∧ v * 2 + 2 ≤ cs.length ∧ (cs.drop (v * 2)).take 2 = [.slice a (w v).l.length c, .int .i64 (w v).c] ∧ cs[v * 2]? = some (.slice a (w v).l.length c) ∧ cs[v * 2 + 1]? = some (.int .i64 (w v).c) ∧ R v = [.slice a (w v).l.length c, .int .i64 (w v).c] := by
  have hobt := h.wy v hv
  obtain ⟨a, c, e, h2, h3, h4, h5⟩ := hobt
  have hr := h.rw
  have hat := flat_at hr.len (i := v) (by simpa using hv)
  simp only [List.getElem_map, List.getElem_range, e] at hat
  have hlen := flat_len hr.len
  simp only [List.length_map, List.length_range] at hlen
  have hm : (v + 1) * 2 ≤ n * 2 := Nat.mul_le_mul_right _ hv
  refine ⟨_, a, c, h.ws, rfl, h2, h5, by omega, hat, ?_, ?_, e⟩
  · have := at_cell (i := 0) hat (by omega); simpa using this
  · have := at_cell (i := 1) hat (by omega); simpa using this
theorem RS4.ext {A A' : AH} {wb n : Nat} {R : Nat → List Value} {w : Int → Wy} (h : RS4 A wb n R w) (hw : A.wf) (hx : Ext A A') : RS4 A' wb n R w :=
  ⟨(hx wb (hw _ _ h.ws)).trans h.ws, fun v hv => (h.wy v hv).kept hw fun b hb _ => hx b hb⟩
theorem RS4.move {A A' : AH} {wb wb' n : Nat} {R : Nat → List Value} {w : Int → Wy} (h : RS4 A wb n R w) (hw : A.wf) (hx : Ext A A') (hn : A.next ≤ wb') (hg : A'.get wb' = some (.row ((List.range n).map R).flatten 67 false)) : RS4 A' wb' n R w :=
  ⟨hg, fun v hv => (h.wy v hv).move hw hx hn⟩
/-- A row is written over. -/
theorem RS4.put {A A' : AH} {wb n : Nat} {R : Nat → List Value} {w : Int → Wy} {cs : List Value} (h : RS4 A wb n R w) (hw : A.wf) (hcs : cs = ((List.range n).map R).flatten) {v : Nat} (hv : v < n) {r : List Value} {x : Wy} (hA : ∀ b, b < A.next → b ≠ wb → A'.get b = A.get b) (hwb : A'.get wb = some (.row (spl cs (v * 2) r) 67 false)) (hr : W4M A' wb r x) :
    RS4 A' wb n (fun u => if u = v then r else R u) (upd w v x) := by
  refine ⟨?_, fun u hu => ?_⟩
  · rw [hwb, hcs]
    obtain ⟨a, c, e, -⟩ := hr
    have hrl : r.length = 2 := by rw [e]; rfl
    have h1 := spl_flat (j := 0) (vs := r) h.rw.len (i := v) (by simpa using hv) (by omega)
    rw [Nat.add_zero] at h1
    rw [h1, spl_all (by rw [hrl]; exact (h.rw _ (List.getElem_mem (by simpa using hv))).1), range_set]
  · by_cases e : u = v
    · subst e; rw [if_pos rfl, upd_at]; exact hr
    · rw [if_neg e, upd_ne (by omega)]; exact (h.wy u hu).kept hw hA
set_option maxHeartbeats 4000000 in
theorem grown_ok {A : AH} {a : Option Addr} {c : Nat} {ks : List Lk} (h : Sl A 52 5 a (ks.map Lk.enc)) {n : Nat} {s : Int} (hg : goodN n ks) (hs : 0 ≤ s ∧ s < n) {hh : Nat} {w : Int → Wy} {wb : Nat} {R : Nat → List Value} (hR : RS4 A wb n R w) (hw : GI n s ks hh w) :
    ACall Try.prog 22 [.slice (some ⟨wb, 0, none⟩) n UNK, .slice a ks.length c] A fun v A' => Ext A A' ∧ ∃ wb' R' o, v = .slice (some ⟨wb', 0, none⟩) n UNK ∧ RS4 A' wb' n R' o ∧ GI n s ks (hh + 1) o := by
  have hn16 := hg.2.1
  have hl64 := hg.2.2.1
  have hn1 : 0 < n := by omega
  refine code22.call (by simp) fun hwf => ?_
  unfold c22
  simp
  refine LN.use (fun m E A' => ∃ (k : Nat) (u : Value), m + k = n ∧ Ext A A' ∧ A.next ≤ A'.next ∧ Own A.next A' 67 2 u ((List.range k).map R) ∧ E.get 0 = .slice (some ⟨wb, 0, none⟩) n UNK ∧ E.get 1 = .slice a ks.length c ∧ E.get 5 = u ∧ E.get 6 = .int .i64 k) n
    ⟨0, _, by omega, Ext.refl A, Nat.le_refl _, Own.nil _ _ _ _, by simp, by simp, by simp, by simp⟩ ?_
  rintro m E A2 hw2 hn2 ⟨k, u, hk, x2, n2, o2, E0, E1, E5, E6⟩
  by_cases hlt : (k : Int) < n
  · have hlt' : k < n := by omega
    have hr2 := hR.ext hwf x2
    have hobt := hr2.at hlt'
    obtain ⟨cs, a1, c1, u1, u2, u3, u4, u5, u6, u7, u8, u9⟩ := hobt
    have hobt := own_push o2 (y := 32) (r := R k) hw2 n2 (by rw [u9]; exact ⟨rfl, rfl⟩) (by omega) (by omega) (by simp; omega)
    obtain ⟨u', A3, p1, p2, p3, p4⟩ := hobt
    have hobt := o2.sl
    obtain ⟨a2, c2, rfl, -⟩ := hobt
    have hgi : IntKind.i64.wrap ((k : Int) + 1) = ((k + 1 : Nat) : Int) := by rw [i64_in (by omega) (by omega)]; simp
    simp only [List.length_map, List.length_range] at p1 E5
    rw [u9] at p1
    simp [E0, E5, E6, hlt, hlt', u1, u5, u6, p1, hgi]
    refine NX.of ⟨m - 1, by omega, k + 1, u', by omega, fun b hb => by rw [p4 b hb, x2 b hb], by omega, ?_, by simp [E0], by simp [E1], by simp, by simp⟩
    rw [List.range_succ, List.map_append]; exact p2
  obtain rfl : n = k := by omega
  obtain ⟨wo, rfl, hwo, g2⟩ : ∃ b, u = .slice (some ⟨b, 0, none⟩) n UNK ∧ A.next ≤ b ∧ A2.get b = some (.row ((List.range n).map R).flatten 67 false) := by
    rcases o2.2 with ⟨_, hnil⟩ | ⟨b, q1, q2, q3⟩
    · have := congrArg List.length hnil
      simp at this; omega
    · exact ⟨b, by simpa using q1, q2, q3⟩
  have hq0 := hR.move hwf x2 hwo g2
  simp [E0, E1, E5, E6]
  refine LN.use (fun m E A' => ∃ (i : Nat) (Ro : Nat → List Value) (o : Int → Wy), m + i = ks.length ∧ Ext A A' ∧ A2.next ≤ A'.next ∧ RS4 A' wo n Ro o ∧ GR n s ks hh w o i ∧ E.get 0 = .slice (some ⟨wb, 0, none⟩) n UNK ∧ E.get 1 = .slice a ks.length c ∧ E.get 5 = .slice (some ⟨wo, 0, none⟩) n UNK ∧ E.get 7 = .int .i64 i) ks.length
    ⟨0, R, w, by omega, x2, Nat.le_refl _, hq0, GR.start hw, by simp [E0], by simp [E1], by simp [E5], by simp⟩ ?_
  clear E0 E1 E5 E6 hq0
  rintro m E A4 hw4 hn4 ⟨i, R4, o4, hi, x4, n4, rs4, b4, E0, E1, E5, E7⟩
  by_cases hlt2 : (i : Int) < ks.length
  rotate_left
  · obtain rfl : i = ks.length := by omega
    simp [E1, E5, E7]
    exact DN.of ⟨x4, wo, R4, o4, rfl, rs4, b4.done hg hs hw⟩
  have hil : i < ks.length := by omega
  have hgl := hg.link hil
  have hlk4 := h.ext hwf x4
  have hobt := lks_at hlk4 hil
  obtain ⟨bk, ok, csk, qk, rfl, z1, z2, z3, z4, z5, z6⟩ := hobt
  obtain ⟨fu, hf⟩ : ∃ fu : Nat, (lk ks i).f = fu := ⟨(lk ks i).f.toNat, by omega⟩
  obtain ⟨tu, ht'⟩ : ∃ tu : Nat, (lk ks i).t = tu := ⟨(lk ks i).t.toNat, by omega⟩
  have hfn : fu < n := by omega
  have htn : tu < n := by omega
  have hr4 := hR.ext hwf x4
  have hobt := hr4.at hfn
  obtain ⟨csw, af, cf, u1, u2, u3, u4, u5, u6, u7, u8, u9⟩ := hobt
  have hb4 := hw4 _ _ u1
  have hbk := hw4 _ _ z1
  have hbo := hw4 _ _ rs4.ws
  have hgi : IntKind.i64.wrap ((i : Int) + 1) = ((i + 1 : Nat) : Int) := by rw [i64_in (by omega) (by omega)]; simp
  rw [hf] at z4
  rw [ht'] at z5
  have v1 : ¬ wb = A4.next := by omega
  have v2 : ¬ bk = A4.next := by omega
  have v3 : ¬ wo = A4.next := by omega
  have v4 : ¬ bk = A4.next + 1 := by omega
  have v5 : ¬ wo = A4.next + 1 := by omega
  have xl := Ext.alloc A4 (.row [.slice af (w fu).l.length cf, .int .i64 (w fu).c] 67 false)
  have hwl := AH.wf_alloc hw4 (.row [.slice af (w fu).l.length cf, .int .i64 (w fu).c] 67 false)
  by_cases hc : (w fu).c < 0
  · simp [E0, E1, E5, E7, hlt2, hil, z1, z4, z5, hfn, u1, u5, u6, v1, v2, hc, hgi]
    exact NX.of ⟨m - 1, by omega, i + 1, R4, o4, by omega, x4.app (by omega) _, by simp; omega, rs4.ext hw4 xl, b4.no (by rw [hf]; exact hc), by simp [E0], by simp [E1], by simp [E5], by simp⟩
  simp [E0, E1, E5, E7, hlt2, hil, z1, z4, z5, hfn, u1, u5, u6, v1, v2, hc, hgi]
  refine CN.use (has_ok (c := cf) (u3.ext hw4 xl) (by omega) (tu : Int)) ?_
  rintro _ _ - - ⟨rfl, rfl⟩
  cases hh' : hasL (w fu).l tu with
  | true =>
    simp [E7, hgi]
    exact NX.of ⟨m - 1, by omega, i + 1, R4, o4, by omega, x4.app (by omega) _, by simp; omega, rs4.ext hw4 xl, b4.back hg hw hil (by rw [hf]; omega) (by rw [hf, ht']; exact of_decide_eq_true hh'), by simp [E0], by simp [E1], by simp [E5], by simp⟩
  | false =>
    have hnin := of_decide_eq_false hh'
    have hobt := (hw.bh fu (by omega) (by omega)).path (by omega)
    obtain ⟨p1, p2, p3⟩ := hobt
    have hup := p1.up hg
    have hln := nodup_len n _ p2 fun y hy => p1.rng hg hs y hy
    have hwr : IntKind.i64.wrap ((w fu).c + (lk ks i).m) = (w fu).c + (lk ks i).m := i64_in (by omega) (by omega)
    simp [E0, E1, E5, E7, hil, z1, z6, z5, hfn, u1, v1, v2, v4, hwr]
    refine LN.use (fun mm E A' => ∃ (k : Nat) (u : Value), mm + k = (w fu).l.length ∧ Ext A4 A' ∧ A4.next + 2 ≤ A'.next ∧ A'.get A4.next = some (.row [.slice af (w fu).l.length cf, .int .i64 (w fu).c] 67 false) ∧ A'.get (A4.next + 1) = some (.row [u, .int .i64 ((w fu).c + (lk ks i).m)] 67 false) ∧ Own (A4.next + 2) A' 3 1 u (ints ((w fu).l.take k)) ∧ E.get 0 = .slice (some ⟨wb, 0, none⟩) n UNK ∧ E.get 1 = .slice (some ⟨bk, ok, none⟩) ks.length c ∧ E.get 5 = .slice (some ⟨wo, 0, none⟩) n UNK ∧ E.get 7 = .int .i64 i ∧ E.get 8 = .pointer (some ⟨A4.next, 0, none⟩) ∧ E.get 9 = .pointer (some ⟨A4.next + 1, 0, none⟩) ∧ E.get 10 = .int .i64 k) (w fu).l.length
      ⟨0, .slice none 0 0, by omega, (xl.app (by simp) _).setnew (by omega) _, by simp, by rw [AH.get_set, if_neg (by omega)]; simp [AH.get_alloc], by rw [AH.get_set, if_pos rfl], Own.nil _ _ _ _, by simp [E0], by simp [E1], by simp [E5], by simp [E7], by simp, by simp, by simp⟩ ?_
    clear E0 E1 E5 E7
    rintro mm E A5 hw5 hn5 ⟨k, u, hk, x5, n5, g1, gx, o1, E0, E1, E5, E7, E8, E9, E10⟩
    by_cases hlt : (k : Int) < (w fu).l.length
    · have hlt' : k < (w fu).l.length := by omega
      have hs1 := u3.ext hw4 x5
      have hobt := hs1.one (Go.AI.ints_at (l := (w fu).l) (i := k) hlt')
      obtain ⟨b, o, cs, ro, rfl, h1, h2⟩ := hobt
      have hb1 := hw5 _ _ h1
      have hobt := own_push o1 (y := 8) (r := [.int .i64 (w fu).l[k]]) hw5 n5 ⟨rfl, rfl⟩ (by omega) (by omega) (by simp; omega)
      obtain ⟨u', A6, p1, p2, p3, p4⟩ := hobt
      have hobt := o1.sl
      obtain ⟨a2, c2, rfl, -⟩ := hobt
      have hobt := p2.sl
      obtain ⟨a3, c3, rfl, -⟩ := hobt
      have hgk : IntKind.i64.wrap ((k : Int) + 1) = ((k + 1 : Nat) : Int) := by rw [i64_in (by omega) (by omega)]; simp
      have htk := List.take_succ_eq_append_getElem hlt'
      have hl2 : (ints ((w fu).l.take k)).length = k := by simp; omega
      rw [hl2] at p1 gx
      have gx' := (p4 _ (by omega)).trans gx
      have g1' := (p4 _ (by omega)).trans g1
      simp [E8, E9, E10, hlt, hlt', g1, gx, h1, h2, p1, hgk, gx']
      refine NX.of ⟨mm - 1, by omega, k + 1, _, by omega, fun b hb => by rw [AH.get_set, if_neg (by omega), p4 b (by omega), x5 b hb], by simp; omega, by rw [AH.get_set, if_neg (by omega)]; exact g1', by rw [AH.get_set, if_pos rfl], ?_, by simp [E0], by simp [E1], by simp [E5], by simp [E7], by simp [E8], by simp [E9], by simp⟩
      have hk := own_kept (A' := A6.set (A4.next + 1) (.row [.slice a3 (min k (w fu).l.length + 1) c3, .int .i64 ((w fu).c + (lk ks i).m)] 67 false)) p2 fun b x hb _ => by rw [AH.get_set, if_neg (by omega)]
      rw [htk]
      have : ints ((w fu).l.take k ++ [(w fu).l[k]]) = ints ((w fu).l.take k) ++ [[.int .i64 (w fu).l[k]]] := by unfold ints; rw [List.map_append]; rfl
      rw [this]
      simpa using hk
    · obtain rfl : k = (w fu).l.length := by omega
      rw [List.take_length] at o1
      have hobt := own_push o1 (y := 8) (r := [.int .i64 tu]) hw5 n5 ⟨rfl, rfl⟩ (by omega) (by omega) (by simp; omega)
      obtain ⟨u', A6, p1, p2', p3', p4⟩ := hobt
      have hobt := o1.sl
      obtain ⟨a2, c2, rfl, -⟩ := hobt
      have hobt := p2'.sl
      obtain ⟨ax, cx, rfl, sx⟩ := hobt
      have hl2 : (ints (w fu).l).length = (w fu).l.length := by simp
      simp only [List.length_append, List.length_singleton, hl2] at p1 gx p2'
      have gx' := (p4 _ (by omega)).trans gx
      have g1' := (p4 _ (by omega)).trans g1
      have w1 : ¬ bk = A4.next + 1 := by omega
      have w2 : ¬ wo = A4.next + 1 := by omega
      have zk5 := x5.get hw4 z1
      have zk6 := (p4 bk (by omega)).trans zk5
      have gw5 := (x5.get hw4 rs4.ws)
      have hobt := rs4.at htn
      obtain ⟨cs4, at5, ct5, q1, q2, q3, q4, q5, q6, q7, q8, q9⟩ := hobt
      have gw6 := (p4 wo (by omega)).trans (x5.get hw4 q1)
      have hn6 : A5.next ≤ A6.next := by omega
      have w3 : ¬ bk = A6.next := by omega
      have w4 : ¬ wo = A6.next := by omega
      have w5 : ¬ A4.next + 1 = A6.next := by omega
      have hnc : A4.next + 1 < A6.next := by omega
      have x46 : Ext A4 A6 := fun b hb => by rw [p4 b (by omega), x5 b hb]
      have x47 : Ext A4 ((((A6.set (A4.next + 1) (.row [.slice ax ((w fu).l.length + 1) cx, .int .i64 ((w fu).c + (lk ks i).m)] 67 false)).alloc (.row [.slice none 0 0, .int .i64 0] 67 false)).set A6.next (.row [.slice at5 (o4 tu).l.length ct5, .int .i64 (o4 tu).c] 67 false))) := fun b hb => by rw [AH.get_set, if_neg (by omega), AH.get_alloc, AH.next_set, if_neg (by omega), AH.get_set, if_neg (by omega), x46 b hb]
      have n7 : ((((A6.set (A4.next + 1) (.row [.slice ax ((w fu).l.length + 1) cx, .int .i64 ((w fu).c + (lk ks i).m)] 67 false)).alloc (.row [.slice none 0 0, .int .i64 0] 67 false)).set A6.next (.row [.slice at5 (o4 tu).l.length ct5, .int .i64 (o4 tu).c] 67 false))).next = A6.next + 1 := by simp
      have hints : ints ((w fu).l ++ [(tu : Int)]) = ints (w fu).l ++ [[.int .i64 tu]] := by unfold ints; rw [List.map_append]; rfl
      rw [← hints] at sx
      have ha : ∀ b o, ax = some ⟨b, o, none⟩ → A4.next + 2 ≤ b := fun b o e => by
        rcases p2'.2 with ⟨e1, _⟩ | ⟨b', e1, e2, _⟩
        · injection e1 with e1 _ _; rw [e1] at e; cases e
        · injection e1 with e1 _ _; rw [e1] at e; injection e with e; injection e with e _; omega
      have hw6 : A6.wf := appW_wf p1 (AH.wf_alloc hw5 _)
      have sx7 : Sl ((((A6.set (A4.next + 1) (.row [.slice ax ((w fu).l.length + 1) cx, .int .i64 ((w fu).c + (lk ks i).m)] 67 false)).alloc (.row [.slice none 0 0, .int .i64 0] 67 false)).set A6.next (.row [.slice at5 (o4 tu).l.length ct5, .int .i64 (o4 tu).c] 67 false))) 3 1 ax (ints ((w fu).l ++ [(tu : Int)])) := sx.kept fun b o y hb hy => by
        have h1 := ha b o hb
        have h2 := hw6 _ _ hy
        rw [AH.get_set, if_neg (by omega), AH.get_alloc, AH.next_set, if_neg (by omega), AH.get_set, if_neg (by omega)]
      have sy7 := q3.ext hw4 x47
      have rs7 := rs4.ext hw4 x47
      have x07 := x4.trans (by omega) x47
      have hlen1 : ((w fu).l ++ [(tu : Int)]).length = (w fu).l.length + 1 := by simp
      have hsp : (spl cs4 (tu * 2) [.slice ax ((w fu).l.length + 1) cx, .int .i64 ((w fu).c + (lk ks i).m)]).length = cs4.length := spl_length _ _ _ (by simp; omega)
      have hbet : ∀ A7, A7 = ((((A6.set (A4.next + 1) (.row [.slice ax ((w fu).l.length + 1) cx, .int .i64 ((w fu).c + (lk ks i).m)] 67 false)).alloc (.row [.slice none 0 0, .int .i64 0] 67 false)).set A6.next (.row [.slice at5 (o4 tu).l.length ct5, .int .i64 (o4 tu).c] 67 false))).set wo (.row (spl cs4 (tu * 2) [.slice ax ((w fu).l.length + 1) cx, .int .i64 ((w fu).c + (lk ks i).m)]) 67 false) → RS4 A7 wo n (fun u => if u = tu then [.slice ax ((w fu).l.length + 1) cx, .int .i64 ((w fu).c + (lk ks i).m)] else R4 u) (upd o4 tu ⟨(w fu).l ++ [(tu : Int)], (w fu).c + (lk ks i).m, false⟩) ∧ Ext A A7 ∧ A2.next ≤ A7.next := by
        intro A7 hA7
        have hoth : ∀ b, b ≠ wo → A7.get b = ((((A6.set (A4.next + 1) (.row [.slice ax ((w fu).l.length + 1) cx, .int .i64 ((w fu).c + (lk ks i).m)] 67 false)).alloc (.row [.slice none 0 0, .int .i64 0] 67 false)).set A6.next (.row [.slice at5 (o4 tu).l.length ct5, .int .i64 (o4 tu).c] 67 false))).get b := fun b b2 => by rw [hA7, AH.get_set, if_neg b2]
        refine ⟨rs4.put hw4 q2 htn (fun b b1 b2 => by rw [hoth b b2, x47 b b1]) (by rw [hA7, AH.get_set, if_pos rfl]) ⟨ax, cx, by simp, ?_, fun hnil => by simp at hnil, fun b o hb => by have := ha b o hb; omega, by simp; omega⟩, ?_, by rw [hA7]; simp; omega⟩
        · exact sx7.kept fun b o y hb hy => hoth b (by have := ha b o hb; omega)
        · rw [hA7]
          exact x07.setnew (by omega) _
      have hn8 : A2.next ≤ ((((A6.set (A4.next + 1) (.row [.slice ax ((w fu).l.length + 1) cx, .int .i64 ((w fu).c + (lk ks i).m)] 67 false)).alloc (.row [.slice none 0 0, .int .i64 0] 67 false)).set A6.next (.row [.slice at5 (o4 tu).l.length ct5, .int .i64 (o4 tu).c] 67 false))).next := by omega
      by_cases hy : (o4 tu).c < 0
      · simp [E0, E1, E5, E7, E8, E9, E10, hil, g1, gx, zk5, z5, p1, gx', g1', w1, w2, w3, w4, w5, zk6, gw6, htn, q5, q6, hy, hgi, hsp]
        have hobt := hbet _ rfl
        obtain ⟨r7, x7, n7'⟩ := hobt
        exact NX.of ⟨m - 1, by omega, i + 1, _, _, by omega, x7, n7', r7, by have := b4.better hg hw hil (by rw [hf]; omega) (by rw [hf, ht']; exact hnin) (Or.inl (by rw [ht']; exact hy)); rw [hf, ht'] at this; exact this, by simp [E0], by simp [E1], by simp [E5], by simp⟩
      · simp [E0, E1, E5, E7, E8, E9, E10, hil, g1, gx, zk5, z5, p1, gx', g1', w1, w2, w3, w4, w5, zk6, gw6, htn, q5, q6, hy]
        have hbt := rbetter_ok (c := cx) (c' := ct5) sx7 sy7 (by simp; omega) ((w fu).c + (lk ks i).m) (o4 tu).c
        rw [hlen1] at hbt
        refine CN.use hbt ?_
        rintro _ _ - - ⟨rfl, rfl⟩
        cases hb : betB ((w fu).c + (lk ks i).m) ((w fu).l ++ [(tu : Int)]) (o4 tu).c (o4 tu).l with
        | true =>
          simp [E0, E1, E5, E7, E8, E9, E10, hil, g1, gx, zk5, z5, p1, gx', g1', w1, w2, w3, w4, w5, zk6, gw6, htn, q5, q6, hy, hgi, hsp]
          have hobt := hbet _ rfl
          obtain ⟨r7, x7, n7'⟩ := hobt
          exact NX.of ⟨m - 1, by omega, i + 1, _, _, by omega, x7, n7', r7, by have := b4.better hg hw hil (by rw [hf]; omega) (by rw [hf, ht']; exact hnin) (Or.inr (by rw [hf, ht']; exact hb)); rw [hf, ht'] at this; exact this, by simp [E0], by simp [E1], by simp [E5], by simp⟩
        | false =>
          simp [E7, hy, hgi]
          exact NX.of ⟨m - 1, by omega, i + 1, R4, o4, by omega, x07, hn8, rs7, b4.stay (by rw [ht']; omega) (by rw [hf, ht']; exact hb), by simp [E0], by simp [E1], by simp [E5], by simp⟩
end Go.Proofs.Ytiapgbhnbgccaaa.AC
/- The reference's route, walked. -/
namespace Go.Proofs.Ytiapgbhnbgccaaa.AC
open Go Go.AI Go.Proofs Go.Proofs.Ytiapgbhnbgccaaa.AQ
set_option linter.unusedVariables false
set_option maxHeartbeats 4000000 in
theorem rfind_ok {A : AH} {al : Option Addr} {cl : Nat} {l : List Adv} (hl : Sl A 72 15 al (l.map Adv.enc)) (hx : ∀ x ∈ l, x.wf) (hn : l.length ≤ 1000) (a : AskM) (h : a.ok A 95) (hw : a.q.wf) (n s t : Int) :
    ACall Try.prog 10 [.int .i64 n, .slice al l.length cl, .agg a.enc.toArray, .int .i64 s, .int .i64 t] A fun v A' => Ext A A' ∧ ∃ a' c' r x e, v = .tuple #[.slice a' r.length c', .int .i64 x, .int .i64 e] ∧ FndP n l a.q s t e r x ∧ Sl A' 3 1 a' (ints r) ∧ r.length ≤ 1000 := by
  have hobt := a.cells
  obtain ⟨ael, ao, at6, -, -, -, -, -, k9⟩ := hobt
  have at10 : List.take 10 a.enc = a.enc := List.take_of_length_le (by omega)
  have a9g : a.enc[9] = .int .i64 a.q.hops := rfl
  have goal : ∀ A' : AH, Ext A A' → ¬ goodF n l a.q s t → Ext A A' ∧ ∃ a' c' r x e, Value.tuple #[.slice none 0 0, .int .i64 0, .int .i64 2] = .tuple #[.slice a' r.length c', .int .i64 x, .int .i64 e] ∧ FndP n l a.q s t e r x ∧ Sl A' 3 1 a' (ints r) ∧ r.length ≤ 1000 := fun A' hx' hb => ⟨hx', none, 0, [], 0, 2, rfl, Or.inl ⟨rfl, hb, rfl, rfl⟩, Sl.nil Pla.no _ _ _, by simp⟩
  refine code10.call (by simp) fun hwf => ?_
  unfold c10
  have x0 : Ext A (A.alloc (.row a.enc 33 false)) := Ext.alloc A _
  simp
  refine CN.use (rall17_ok (hl.ext hwf x0) hx hn) ?_
  rintro _ A1 hw1 hn1 ⟨x1, o1⟩
  simp only [AH.next_alloc] at hn1
  have hobt := own_slm o1
  obtain ⟨a2, c2, rfl, s2, -⟩ := hobt
  simp
  have hck := rcheck_ok (c := c2) s2 n
  rw [List.length_map] at hck
  refine CN.use hck ?_
  rintro _ A2 hw2 hn2 ⟨x2, r, rfl, hr⟩
  have x02 : Ext A A2 := (x0.trans (by simp) x1).trans (by omega) x2
  have r0 : (A.alloc (.row a.enc 33 false)).get A.next = some (.row a.enc 33 false) := AH.get_new _ _
  have r2 := x2.get hw1 (x1.get (AH.wf_alloc hwf _) r0)
  by_cases b1 : r = 0
  rotate_left
  · have hbad : ¬ goodF n l a.q s t := fun hg => b1 (hr.zero.2 hg.1)
    simp [b1]
    exact DN.of (goal _ x02 hbad)
  have hgn := hr.zero.1 b1
  have hn1' := hgn.1
  have hn16 := hgn.2.1
  by_cases b2 : 0 ≤ s ∧ s < n ∧ 0 ≤ t ∧ t < n ∧ s ≠ t
  rotate_left
  · have hbad : ¬ goodF n l a.q s t := fun hg => b2 ⟨hg.2.1.1, hg.2.1.2, hg.2.2.1.1, hg.2.2.1.2, hg.2.2.2.1⟩
    have b3 : s < 0 ∨ (¬ s < 0 ∧ n ≤ s) ∨ (¬ s < 0 ∧ ¬ n ≤ s ∧ t < 0) ∨ (¬ s < 0 ∧ ¬ n ≤ s ∧ ¬ t < 0 ∧ n ≤ t) ∨ (¬ s < 0 ∧ ¬ n ≤ s ∧ ¬ t < 0 ∧ ¬ n ≤ t ∧ s = t) := by omega
    rcases b3 with b3 | ⟨b3, b4⟩ | ⟨b3, b4, b5⟩ | ⟨b3, b4, b5, b6⟩ | ⟨b3, b4, b5, b6, b7⟩
    · simp [b1, b3]; exact DN.of (goal _ x02 hbad)
    · simp [b1, b3, b4]; exact DN.of (goal _ x02 hbad)
    · simp [b1, b3, b4, b5]; exact DN.of (goal _ x02 hbad)
    · simp [b1, b3, b4, b5, b6]; exact DN.of (goal _ x02 hbad)
    · subst b7; simp [b1, b3, b4]; exact DN.of (goal _ x02 hbad)
  obtain ⟨b21, b22, b23, b24, b25⟩ := b2
  have c1 : ¬ s < 0 := by omega
  have c2' : ¬ n ≤ s := by omega
  have c3 : ¬ t < 0 := by omega
  have c4 : ¬ n ≤ t := by omega
  simp [b1, c1, c2', c3, c4, b25, r2, ael, at6]
  refine CN.use (rright_ok a.q.w _) ?_
  rintro _ A3 hw3 hn3 ⟨rfl, x3⟩
  have r3 := x3.get hw2 r2
  have x03 := x02.trans (by omega) x3
  cases b5 : rightB a.q.w with
  | false =>
    have hbad : ¬ goodF n l a.q s t := fun hg => by rw [hg.2.2.2.2.1] at b5; cases b5
    simp
    exact DN.of (goal _ x03 hbad)
  | true =>
  by_cases b6 : a.q.hops < 0
  · have hbad : ¬ goodF n l a.q s t := fun hg => by have := hg.2.2.2.2.2; omega
    simp [r3, ael, a9g, b6]
    exact DN.of (goal _ x03 hbad)
  have hgood : goodF n l a.q s t := ⟨hgn, ⟨b21, b22⟩, ⟨b23, b24⟩, b25, b5, by omega⟩
  simp [r3, ael, a9g, b6]
  obtain ⟨nn, rfl⟩ : ∃ nn : Nat, n = nn := ⟨n.toNat, by omega⟩
  obtain ⟨t, rfl⟩ : ∃ t' : Nat, t = t' := ⟨t.toNat, by omega⟩
  obtain ⟨s, rfl⟩ : ∃ s' : Nat, s = s' := ⟨s.toNat, by omega⟩
  refine LN.use (fun m E A' => ∃ (k : Nat) (u : Value), m + k = nn ∧ Ext A3 A' ∧ A3.next ≤ A'.next ∧ Own A3.next A' 67 2 u ((List.range k).map fun _ => [.slice none 0 0, .int .i64 (-1)]) ∧ E.get 0 = .int .i64 nn ∧ E.get 1 = .slice al l.length cl ∧ E.get 3 = .int .i64 s ∧ E.get 4 = .int .i64 t ∧ E.get 7 = .pointer (some ⟨A.next, 0, none⟩) ∧ E.get 13 = u ∧ E.get 14 = .int .i64 k) nn
    ⟨0, .slice none 0 0, by omega, Ext.refl A3, Nat.le_refl _, Own.nil _ _ _ _, by simp, by simp, by simp, by simp, by simp, by simp, by simp⟩ ?_
  rintro m E A4 hw4 hn4 ⟨k, u, hk, x4, n4, o4, E0, E1, E3, E4, E7, E13, E14⟩
  by_cases hlt : (k : Int) < nn
  · obtain ⟨u', A5, p1, p2, p3, p4⟩ := own_push o4 (y := 32) (r := [.slice none 0 0, .int .i64 (-1)]) hw4 n4 ⟨rfl, rfl⟩ (by omega) (by omega) (by simp; omega)
    have hobt := o4.sl
    obtain ⟨a2, c2, rfl, -⟩ := hobt
    have hgi : IntKind.i64.wrap ((k : Int) + 1) = ((k + 1 : Nat) : Int) := by rw [i64_in (by omega) (by omega)]; simp
    simp only [List.length_map, List.length_range] at p1 E13
    simp [E0, E13, E14, hlt, p1, hgi]
    refine NX.of ⟨m - 1, by omega, k + 1, u', by omega, fun b hb => by rw [p4 b hb, x4 b hb], by omega, ?_, by simp [E0], by simp [E1], by simp [E3], by simp [E4], by simp [E7], by simp, by simp⟩
    rw [List.range_succ, List.map_append]; exact p2
  obtain rfl : nn = k := by omega
  have hsn : s < nn := by omega
  obtain ⟨wb, rfl, hwb, g2⟩ : ∃ b, u = .slice (some ⟨b, 0, none⟩) nn UNK ∧ A3.next ≤ b ∧ A4.get b = some (.row ((List.range nn).map fun _ => [Value.slice none 0 0, .int .i64 (-1)]).flatten 67 false) := by
    rcases o4.2 with ⟨_, hnil⟩ | ⟨b, q1, q2, q3⟩
    · have := congrArg List.length hnil
      simp at this; omega
    · exact ⟨b, by simpa using q1, q2, q3⟩
  have hwb2 := hw4 _ _ g2
  have hne : ¬ wb = A4.next := by omega
  have rs0 : RS4 A4 wb nn (fun _ => [.slice none 0 0, .int .i64 (-1)]) w0 := ⟨g2, fun v _ => ⟨none, 0, rfl, Sl.nil Pla.no _ _ _, fun _ => rfl, by simp, by simp [w0]⟩⟩
  have hl0 := flat_len rs0.rw.len
  simp only [List.length_map, List.length_range] at hl0
  generalize hcs : ((List.range nn).map fun _ => [Value.slice none 0 0, .int .i64 (-1)]).flatten = cs at g2 hl0
  have hfit : s * 2 + 2 ≤ cs.length := by omega
  have hA : A.next < A3.next := hw3 _ _ r3
  have r4 := x4.get hw3 r3
  have w1 : ¬ A.next = A4.next := by omega
  have w2 : ¬ A.next = wb := by omega
  have hwn : IntKind.i64.wrap ((nn : Int) - 1) = (nn : Int) - 1 := i64_in (by omega) (by omega)
  have x04 := x03.trans (by omega) x4
  have xa := x04.app (by omega) (.row [.int .i64 s] 3 false)
  have xb := xa.setnew (c := wb) (by omega) (.row (spl cs (s * 2) [.slice (some ⟨A4.next, 0, none⟩) 1 1, .int .i64 0]) 67 false)
  have rs1 : RS4 ((A4.alloc (.row [.int .i64 s] 3 false)).set wb (.row (spl cs (s * 2) [.slice (some ⟨A4.next, 0, none⟩) 1 1, .int .i64 0]) 67 false)) wb nn (fun u => if u = s then [.slice (some ⟨A4.next, 0, none⟩) 1 1, .int .i64 0] else [.slice none 0 0, .int .i64 (-1)]) (upd w0 s ⟨[(s : Int)], 0, false⟩) := by
    refine rs0.put hw4 hcs.symm hsn (fun b b1 b2 => by rw [AH.get_set, if_neg b2, AH.get_alloc, if_neg (by omega)]) (by rw [AH.get_set, if_pos rfl]) ⟨_, _, rfl, ?_, fun hnil => by simp at hnil, fun b o e => ?_, by simp⟩
    · refine (one_row (A := A4) (s : Int)).kept fun b o y hb hy => ?_
      injection hb with hb; injection hb with hb _
      rw [AH.get_set, if_neg (by omega)]
    · injection e with e; injection e with e _
      omega
  have hws := AH.wf_set (AH.wf_alloc hw4 (.row [.int .i64 s] 3 false)) (c := wb) (by simp; omega) (.row (spl cs (s * 2) [.slice (some ⟨A4.next, 0, none⟩) 1 1, .int .i64 0]) 67 false)
  have hgk : goodN nn (fitL l a.q) := hgn.sub (fitL_sub l a.q)
  have b8 : (0 < a.q.hops ∧ (if a.q.hops < (nn : Int) - 1 then a.q.hops else (nn : Int) - 1) = (hopsN nn a.q.hops : Nat)) ∨ (¬ 0 < a.q.hops ∧ (nn : Int) - 1 = (hopsN nn a.q.hops : Nat)) := by
    by_cases b7 : 0 < a.q.hops
    · exact Or.inl ⟨b7, (min_hops nn a.q.hops hn1' b7).symm⟩
    · exact Or.inr ⟨b7, (max_hops nn a.q.hops hn1' b7).symm⟩
  have hHn : (hopsN nn a.q.hops : Int) < nn ∧ hopsN nn a.q.hops ≤ 15 := by unfold hopsN; split <;> (try split) <;> omega
  have hwH : IntKind.i64.wrap (hopsN nn a.q.hops : Nat) = (hopsN nn a.q.hops : Nat) := i64_in (by omega) (by omega)
  rcases b8 with ⟨b7, b8⟩ | ⟨b7, b8⟩
  all_goals
    simp [E0, E1, E3, E4, E7, E13, E14, hsn, hne, g2, hfit, hwn, w1, w2, r4, ael, a9g, b7, b8, hwH, at10]
    refine CN.use (rlinks_ok (hl.ext hwf xb) hx hn a (h.ext hwf xb) hw) ?_
    rintro vL A5 hw5 hn5 ⟨x5, o5⟩
    have hobt := own_slm o5
    obtain ⟨aL, cL, rfl, sL, -⟩ := hobt
    have x05 := xb.trans (by simp; omega) x5
    simp only [AH.next_set, AH.next_alloc] at hn5
    simp
    refine LN.use (fun m E A' => ∃ (i : Nat) (wb : Nat) (R : Nat → List Value) (w : Int → Wy), m + i = hopsN nn a.q.hops ∧ Ext A5 A' ∧ A5.next ≤ A'.next ∧ RS4 A' wb nn R w ∧ GI nn s (fitL l a.q) i w ∧ E.get 4 = .int .i64 t ∧ E.get 13 = .slice (some ⟨wb, 0, none⟩) nn UNK ∧ E.get 15 = .int .i64 (hopsN nn a.q.hops : Nat) ∧ E.get 16 = .slice aL (fitL l a.q).length cL ∧ E.get 17 = .int .i64 i) (hopsN nn a.q.hops)
      ⟨0, wb, _, _, by omega, Ext.refl A5, Nat.le_refl _, rs1.ext hws x5, GI.start ⟨by omega, by omega⟩, by simp [E4], by simp [E13], by simp, by simp, by simp⟩ ?_
    clear E0 E1 E3 E4 E7 E13 E14
    rintro m E A6 hw6 hn6 ⟨i, wb6, R6, w6, hi, x6, n6, rs6, gi6, E4, E13, E15, E16, E17⟩
    by_cases hlt : (i : Int) < (hopsN nn a.q.hops : Nat)
    · have hgi : IntKind.i64.wrap ((i : Int) + 1) = ((i + 1 : Nat) : Int) := by rw [i64_in (by omega) (by omega)]; simp
      simp [E13, E15, E16, E17, hlt]
      refine CN.use (grown_ok (c := cL) (sL.ext hw5 x6) hgk ⟨by omega, by omega⟩ rs6 gi6) ?_
      rintro _ A7 hw7 hn7 ⟨x7, wb7, R7, w7, rfl, rs7, gi7⟩
      simp [E17, hgi]
      exact NX.of ⟨m - 1, by omega, i + 1, wb7, R7, w7, by omega, x6.trans (by omega) x7, by omega, rs7, gi7, by simp [E4], by simp, by simp [E15], by simp [E16], by simp⟩
    · obtain rfl : i = hopsN nn a.q.hops := by omega
      have htn : t < nn := by omega
      have hobt := rs6.at htn
      obtain ⟨cs6, a6, c6, u1, u2, u3, u4, u5, u6, u7, u8, u9⟩ := hobt
      have hbh := gi6.bh t b23 b24
      have xf := x05.trans (by omega) x6
      by_cases hc : (w6 t).c < 0
      · simp [E4, E13, E15, E17, u1, u8, hc, htn]
        exact DN.of ⟨xf, none, 0, [], 0, 8, rfl, Or.inr ⟨hgood, _, hbh, Or.inl ⟨rfl, hc, rfl, rfl⟩⟩, Sl.nil Pla.no _ _ _, by simp⟩
      · simp [E4, E13, E15, E17, u1, u7, u8, hc, htn]
        exact DN.of ⟨xf, a6, c6, _, _, 0, rfl, Or.inr ⟨hgood, _, hbh, Or.inr ⟨rfl, by omega, rfl, rfl⟩⟩, u3, u4⟩
end Go.Proofs.Ytiapgbhnbgccaaa.AC
/- The reference's routes, and what can be come to. -/
namespace Go.Proofs.Ytiapgbhnbgccaaa.AC
open Go Go.AI Go.Proofs Go.Proofs.Ytiapgbhnbgccaaa.AQ
set_option linter.unusedVariables false
theorem Wk.step {ks : List Lk} {s v c : Int} {l : List Int} (h : Wk ks s v l c) : ∀ k, 1 ≤ k → ∀ (hk : k < l.length), ∃ i, i < ks.length ∧ same ks i (l[k - 1]'(by omega)) l[k] := by
  induction h with
  | one => intro k h1 hk; simp at hk; omega
  | snoc u l c i h hi hf ih =>
    intro k h1 hk
    simp only [List.length_append, List.length_singleton] at hk
    by_cases e : k < l.length
    · obtain ⟨j, hj, hs⟩ := ih k h1 e
      refine ⟨j, hj, ?_⟩
      rw [List.getElem_append_left (by omega), List.getElem_append_left e]
      exact hs
    · obtain rfl : k = l.length := by omega
      refine ⟨i, hi, ?_, ?_⟩
      · rw [List.getElem_append_left (by omega), hf]
        have := h.last
        rw [List.getLast?_eq_getElem?, List.getElem?_eq_getElem (by omega)] at this
        injection this with this
        exact this.symm
      · simp
theorem Wk.ends {ks : List Lk} {s v c : Int} {l : List Int} (h : Wk ks s v l c) (h0 : 0 < l.length) : l[0] = s ∧ l[l.length - 1] = v := by
  constructor
  · have := h.head
    rw [List.head?_eq_getElem?, List.getElem?_eq_getElem h0] at this
    injection this
  · have := h.last
    rw [List.getLast?_eq_getElem?, List.getElem?_eq_getElem (by omega)] at this
    injection this
theorem Wk.same_cost {n : Int} {ks : List Lk} (hg : goodN n ks) {s v c : Int} {l : List Int} (h : Wk ks s v l c) : ∀ {s' v' c' : Int}, Wk ks s' v' l c' → c = c' := by
  induction h with
  | one =>
    intro s' v' c' h'
    generalize hl : [s] = l at h'
    cases h' with
    | one => rfl
    | snoc u l c i h hi hf =>
      have := congrArg List.length hl
      simp at this
      exact absurd this h.ne
  | snoc u l c i h hi hf ih =>
    intro s' v' c' h'
    generalize hl : l ++ [(lk ks i).t] = l2 at h'
    cases h' with
    | one =>
      have := congrArg List.length hl
      simp at this
      exact absurd this h.ne
    | snoc u' l' c'' i' h' hi' hf' =>
      have h1 := List.append_inj_left' hl rfl
      have h2 := List.append_inj_right' hl rfl
      subst h1
      simp only [List.cons.injEq, and_true] at h2
      have hc := ih h'
      have hu : u = u' := by
        have a := h.last
        have b := h'.last
        rw [a] at b; injection b
      have hii : i = i' := by
        rcases Nat.lt_trichotomy i i' with hlt | heq | hgt
        · exact absurd (Or.inl ⟨i, hlt, by rw [hf, hf', hu], h2⟩) (hg.2.2.2 i' hi')
        · exact heq
        · exact absurd (Or.inl ⟨i', hgt, by rw [hf, hf', hu], h2.symm⟩) (hg.2.2.2 i hi)
      rw [hc, hii]
/-- What is told of a route. -/
def RteP (ks : List Lk) (l : List Int) (m e : Int) : Prop := (e = 0 ∧ 2 ≤ l.length ∧ l.length ≤ 16 ∧ l.Nodup ∧ ∃ s v, Wk ks s v l m) ∨ (e = 12 ∧ m = 0 ∧ ¬ (2 ≤ l.length ∧ l.length ≤ 16 ∧ l.Nodup ∧ ∃ s v c, Wk ks s v l c))
theorem route_ok {A : AH} {a a' : Option Addr} {c c' : Nat} {ks : List Lk} {l : List Int} (h : Sl A 52 5 a (ks.map Lk.enc)) (hk64 : ks.length ≤ 1000) (h' : Sl A 3 1 a' (ints l)) (hc : CapOk A 3 a' l.length c') (hl : l.length ≤ 1000000) :
    ACall Try.prog 13 [.slice a ks.length c, .slice a' l.length c'] A fun v A' => A' = A ∧ ∃ m e, v = .tuple #[.int .i64 m, .int .i64 e] ∧ (e = 0 ∨ e = 12) ∧ ∀ n, goodN n ks → RteP ks l m e := by
  refine code13.call (by simp) fun hwf => ?_
  unfold c13
  simp
  by_cases b1 : (l.length : Int) < 2
  · simp [b1]
    exact DN.of ⟨rfl, _, _, rfl, Or.inr rfl, fun n hg => Or.inr ⟨rfl, rfl, by omega⟩⟩
  by_cases b2 : (16 : Int) < l.length
  · simp [b1, b2]
    exact DN.of ⟨rfl, _, _, rfl, Or.inr rfl, fun n hg => Or.inr ⟨rfl, rfl, by omega⟩⟩
  simp [b1, b2]
  refine LN.use (fun m E A' => ∃ (k : Nat) (x : Int), m + k = l.length ∧ A' = A ∧ E.get 0 = .slice a ks.length c ∧ E.get 1 = .slice a' l.length c' ∧ E.get 6 = .int .i64 x ∧ E.get 7 = .int .i64 k ∧ (l.take k).Nodup ∧ ((k = 0 ∧ x = 0) ∨ (0 < k ∧ ∃ s v x', Wk ks s v (l.take k) x' ∧ ∀ n, goodN n ks → x = x'))) l.length
    ⟨0, 0, by simp, rfl, by simp, by simp, by simp, by simp, by simp, Or.inl ⟨rfl, rfl⟩⟩ ?_
  rintro m E _ - - ⟨k, x, hk, rfl, E0, E1, E6, E7, hN, hW⟩
  by_cases hlt : k < l.length
  · obtain ⟨b, o, cs, ro, rfl, h1, h2⟩ := h'.one (Go.AI.ints_at (l := l) (i := k) hlt)
    have hs := slW_pre (o := o) (h := k) (n := l.length) (c := c') (k := .i64) (z := 1) h1 (by omega) (CapOk.pre hc h1 sz3)
    have hpre : Sl _ 3 1 (some ⟨b, o, none⟩) (ints (l.take k)) := h'.pre (k := k) (by simp [ints])
    have hlk : (l.take k).length = k := by simp <;> omega
    have hco := has_ok (c := c') hpre (by omega) l[k]
    rw [hlk] at hco
    have htk := List.take_succ_eq_append_getElem hlt
    have hi : IntKind.i64.wrap ((k : Int) + 1) = ((k + 1 : Nat) : Int) := by rw [i64_in (by omega) (by omega)]; simp
    simp [E0, E1, E6, E7, hlt, h1, h2, hs]
    refine CN.use hco ?_
    rintro _ _ - - ⟨rfl, rfl⟩
    cases hb : hasL (l.take k) l[k] with
    | true =>
      simp
      refine DN.of ⟨rfl, _, _, rfl, Or.inr rfl, fun n hg => Or.inr ⟨rfl, rfl, fun hh => ?_⟩⟩
      have hn := hh.2.2.1.sublist (List.take_sublist (k + 1) l)
      rw [htk, List.nodup_append] at hn
      exact hn.2.2 _ (of_decide_eq_true hb) _ (List.mem_singleton.2 rfl) rfl
    | false =>
      have hnin := of_decide_eq_false hb
      have hN' : (l.take (k + 1)).Nodup := by
        rw [htk, List.nodup_append]
        exact ⟨hN, by simp, fun a ha b hb => by simp at hb; rw [hb]; intro e; rw [e] at ha; exact hnin ha⟩
      by_cases hk0 : k = 0
      · subst hk0
        obtain rfl : x = 0 := by rcases hW with ⟨_, h⟩ | ⟨h, _⟩; exact h; omega
        have hi1 : IntKind.i64.wrap 1 = 1 := by decide
        simp [E7, hi1]
        refine NX.of ⟨m - 1, by omega, 1, 0, by omega, rfl, by simp [E0], by simp [E1], by simp [E6], by simp, hN', Or.inr ⟨by omega, l[0], l[0], 0, ?_, fun _ _ => rfl⟩⟩
        rw [htk]; exact Wk.one
      · obtain ⟨s, v, x', hwk, hxx⟩ : ∃ s v x', Wk ks s v (l.take k) x' ∧ ∀ n, goodN n ks → x = x' := by rcases hW with ⟨h, _⟩ | ⟨_, h⟩; omega; exact h
        have hk1 : IntKind.i64.wrap ((k : Int) - 1) = ((k - 1 : Nat) : Int) := by rw [i64_in (by omega) (by omega)]; omega
        have hkl : k - 1 < l.length := by omega
        have hobt := h'.one (Go.AI.ints_at (l := l) (i := k - 1) hkl)
        obtain ⟨b', o', cs', ro', hb', g1, g2⟩ := hobt
        injection hb' with hb'
        injection hb' with hb1 hb2 _
        subst hb1 hb2
        rw [h1] at g1
        injection g1 with g1
        injection g1 with g1 _ _
        subst g1
        simp [E0, E1, E7, hk0, hk1, h1, h2, g2, hkl, hlt]
        refine CN.use (find_ok (c := c) h (by omega) _ _) ?_
        rintro _ _ - - ⟨rfl, r, rfl, ⟨rfl, hno⟩ | ⟨j, rfl, hj, hs, -⟩⟩
        · simp
          refine DN.of ⟨rfl, _, _, rfl, Or.inr rfl, fun n hg => Or.inr ⟨rfl, rfl, fun hh => ?_⟩⟩
          obtain ⟨_, _, _, s', v', c', hw'⟩ := hh
          have hobt := hw'.step k (by omega) hlt
          obtain ⟨i, hi, his⟩ := hobt
          exact hno i hi his
        · obtain ⟨bk, ok, csk, qk, rfl, z1, z2, z3, z4, z5, z6⟩ := lks_at h hj
          have hjn : ¬ (j : Int) < 0 := by omega
          have hlast : v = l[k - 1] := by
            have := hwk.last
            rw [List.getLast?_eq_getElem?, hlk, List.getElem?_take, if_pos (by omega), List.getElem?_eq_getElem hkl] at this
            injection this with this
            exact this.symm
          have hw2 := Wk.snoc _ _ _ j hwk hj (by rw [hs.1, hlast])
          rw [hs.2, ← htk] at hw2
          have hwr : ∀ n, goodN n ks → IntKind.i64.wrap (x + (lk ks j).m) = x' + (lk ks j).m := fun n hg => by
            have hup := hw2.up hg
            have hcs := hwk.cost hg
            have hgl := hg.link hj
            rw [List.length_take] at hup
            have hmin := Nat.min_le_left (k + 1) l.length
            rw [hxx n hg]
            exact i64_in (by omega) (by omega)
          simp [E0, E6, E7, hjn, hj, z1, z6, hi]
          exact NX.of ⟨m - 1, by omega, k + 1, IntKind.i64.wrap (x + (lk ks j).m), by omega, rfl, by simp [E0], by simp [E1], by simp, by simp [hi], hN', Or.inr ⟨by omega, _, _, _, hw2, hwr⟩⟩
  · obtain rfl : k = l.length := by omega
    rw [List.take_length] at hN hW
    simp [E1, E6, E7]
    refine DN.of ⟨rfl, x, 0, rfl, Or.inl rfl, fun n hg => Or.inl ⟨rfl, by omega, by omega, hN, ?_⟩⟩
    rcases hW with ⟨h, _⟩ | ⟨_, s, v, x', h1, h2⟩
    · omega
    · rw [h2 n hg]; exact ⟨s, v, h1⟩
end Go.Proofs.Ytiapgbhnbgccaaa.AC
/- The law's helpers, walked. -/
namespace Go.Proofs.Ytiapgbhnbgccaaa.AC
open Go Go.AI Go.Proofs Go.Proofs.Ytiapgbhnbgccaaa.AQ
set_option linter.unusedVariables false
/-- What a route that meets what is asked is said to be. -/
def meetB (a : Ask) (k : Nat) (e : Int) : Bool := decide (e = 0) && (decide (a.hops = 0) || decide ((k : Int) - 1 ≤ a.hops))
theorem rmeets_ok {A : AH} {al : Option Addr} {cl : Nat} {l : List Adv} (hl : Sl A 72 15 al (l.map Adv.enc)) (hx : ∀ x ∈ l, x.wf) (hn : l.length ≤ 1000) (a : AskM) (h : a.ok A 95) (hw : a.q.wf) {a' : Option Addr} {c' : Nat} {r : List Int} (hr : Sl A 3 1 a' (ints r)) (hc : CapOk A 3 a' r.length c') (hrl : r.length ≤ 1000000) :
    ACall Try.prog 12 [.slice al l.length cl, .agg a.enc.toArray, .slice a' r.length c'] A fun v A' => Ext A A' ∧ ∃ m e, v = .bool (meetB a.q r.length e) ∧ (e = 0 ∨ e = 12) ∧ ∀ n, goodN n (fitL l a.q) → RteP (fitL l a.q) r m e := by
  have hobt := a.cells
  obtain ⟨ael, ao, at6, -, -, -, -, -, k9⟩ := hobt
  have at10 : List.take 10 a.enc = a.enc := List.take_of_length_le (by omega)
  have a9g : a.enc[9] = .int .i64 a.q.hops := rfl
  refine code12.call (by simp) fun hwf => ?_
  unfold c12
  have x0 : Ext A (A.alloc (.row a.enc 33 false)) := Ext.alloc A _
  simp [ael, at10]
  refine CN.use (rlinks_ok (hl.ext hwf x0) hx hn a (h.ext hwf x0) hw) ?_
  rintro _ A1 hw1 hn1 ⟨x1, o1⟩
  simp only [AH.next_alloc] at hn1
  have hobt := own_slm o1
  obtain ⟨aL, cL, rfl, sL, -⟩ := hobt
  have x01 := x0.trans (by simp) x1
  have r0 : (A.alloc (.row a.enc 33 false)).get A.next = some (.row a.enc 33 false) := AH.get_new _ _
  have r1 := x1.get (AH.wf_alloc hwf _) r0
  simp
  have hfl := fitL_len l a.q
  refine CN.use (route_ok sL (by omega) (hr.ext hwf x01) (hc.ext hwf x01) hrl) ?_
  rintro _ A2 - - ⟨rfl, m, e, rfl, he, hp⟩
  by_cases b1 : e = 0
  rotate_left
  · simp [b1]
    exact DN.of ⟨x01, m, e, by simp [meetB, b1], he, hp⟩
  by_cases b2 : a.q.hops = 0
  · simp [b1, b2, r1, ael, a9g]
    exact DN.of ⟨x01, m, e, by simp [meetB, b1, b2], he, hp⟩
  have hwr : IntKind.i64.wrap ((r.length : Int) - 1) = (r.length : Int) - 1 := i64_in (by omega) (by omega)
  simp [b1, b2, r1, ael, a9g, hwr]
  exact DN.of ⟨x01, m, e, by simp [meetB, b1, b2], he, hp⟩
theorem lfind_ok {A : AH} {al : Option Addr} {cl : Nat} {l : List Adv} (hl : Sl A 72 15 al (l.map Adv.enc)) (hx : ∀ x ∈ l, x.wf) (hn : l.length ≤ 1000) (a : AskM) (h : a.ok A 95) (hw : a.q.wf) (n s t : Int) :
    ACall Try.prog 9 [.agg #[.int .i64 n, .slice al l.length cl, .int .i64 s, .int .i64 t], .agg a.enc.toArray] A fun v A' => Ext A A' ∧ ∃ a' c' r x e, v = .tuple #[.slice a' r.length c', .int .i64 x, .int .i64 e] ∧ FndP n l a.q s t e r x ∧ Sl A' 3 1 a' (ints r) ∧ CapOk A' 3 a' r.length c' ∧ r.length ≤ 1000 := by
  have hobt := a.cells
  obtain ⟨ael, ao, at6, -, -, -, -, -, k9⟩ := hobt
  have at10 : List.take 10 a.enc = a.enc := List.take_of_length_le (by omega)
  have a9g : a.enc[9] = .int .i64 a.q.hops := rfl
  refine code9.call (by simp) fun hwf => ?_
  unfold c9
  have x0 : Ext A ((A.alloc (.row [.int .i64 n, .slice al l.length cl, .int .i64 s, .int .i64 t] 24 false)).alloc (.row a.enc 33 false)) := (Ext.alloc A _).app (by simp) _
  simp [ael, at10]
  refine CN.use (adverts_ok (hl.ext hwf x0) hx hn) ?_
  rintro _ A1 hw1 hn1 ⟨x1, o1⟩
  simp only [AH.next_alloc] at hn1 o1
  have hobt := own_slm o1
  obtain ⟨aL, cL, rfl, sL, -⟩ := hobt
  have x01 := x0.trans (by simp; omega) x1
  have hw0 := AH.wf_alloc (AH.wf_alloc hwf (.row [.int .i64 n, .slice al l.length cl, .int .i64 s, .int .i64 t] 24 false)) (.row a.enc 33 false)
  have r0 := x1.get hw0 (b := A.next) (by rw [AH.get_alloc, if_neg (by simp), AH.get_new])
  have r1 := x1.get hw0 (b := A.next + 1) (by rw [AH.get_alloc, if_pos (by simp)])
  simp [r0, r1, ael, at10]
  refine CN.use (theirsQ_ok a (h.ext hwf x01) (by have := hw.2.2.2.2; omega)) ?_
  rintro _ A2 hw2 hn2 ⟨x2, a', rfl, hq, ha⟩
  have x02 := x01.trans (by omega) x2
  have r02 := x2.get hw1 r0
  have r12 := x2.get hw1 r1
  simp [r02, r12, ael, at10]
  have hf := cfind_ok (cl := cL) (sL.ext hw1 x2) hx hn a' ha (by rw [hq]; exact hw) n s t
  refine CN.use hf ?_
  rintro _ A3 hw3 hn3 ⟨x3, a3, c3, r, x, e, rfl, g1, g2, g3, g4⟩
  simp
  rw [hq] at g1
  exact DN.of ⟨x02.trans (by omega) x3, a3, c3, r, x, e, rfl, g1, g2, g3, g4⟩
end Go.Proofs.Ytiapgbhnbgccaaa.AC
/- The law's example. -/
namespace Go.Proofs.Ytiapgbhnbgccaaa.AC
open Go Go.AI Go.Proofs
set_option linter.unusedVariables false
def dk : List Lk := [⟨0, 1, 0, 1, 0⟩, ⟨1, 2, 0, 1, 0⟩, ⟨2, 3, 0, 1, 0⟩, ⟨0, 3, 0, 5, 0⟩]
def dl : List Adv := dk.map fun k => ⟨k, 0, true, List.replicate 8 0⟩
def zq (h : Int) : AskM := ⟨⟨⟨0, 0, 0, 0, 0, 0⟩, [], [], [], h⟩, none, 0, none, 0, none, 0⟩
theorem dfit (h : Int) : fitL dl (zq h).q = dk := by kernel_rfl
theorem dgood : goodN 4 dk := goodN_iff.2 (by decide)
theorem dgoodF (h : Int) (hh : 0 ≤ h) : goodF 4 dl (zq h).q 0 3 := ⟨dgood, by omega, by omega, by omega, rfl, hh⟩
theorem dwk {v c : Int} {l : List Int} (h : Wk dk 0 v l c) : (v = 0 ∧ l = [0] ∧ c = 0) ∨ (v = 1 ∧ l = [0, 1] ∧ c = 1) ∨ (v = 2 ∧ l = [0, 1, 2] ∧ c = 2) ∨ (v = 3 ∧ ((l = [0, 1, 2, 3] ∧ c = 3) ∨ (l = [0, 3] ∧ c = 5))) := by
  induction h with
  | one => exact Or.inl ⟨rfl, rfl, rfl⟩
  | snoc u l c i h hi hf ih =>
    have hi' : i < 4 := hi
    have h4 : i = 0 ∨ i = 1 ∨ i = 2 ∨ i = 3 := by omega
    rcases h4 with rfl | rfl | rfl | rfl
    · have hf' : (0 : Int) = u := hf
      rcases ih with ⟨a, b, c'⟩ | ⟨a, -⟩ | ⟨a, -⟩ | ⟨a, -⟩
      · subst b c'; exact Or.inr (Or.inl ⟨rfl, rfl, rfl⟩)
      all_goals omega
    · have hf' : (1 : Int) = u := hf
      rcases ih with ⟨a, -⟩ | ⟨a, b, c'⟩ | ⟨a, -⟩ | ⟨a, -⟩
      · omega
      · subst b c'; exact Or.inr (Or.inr (Or.inl ⟨rfl, rfl, rfl⟩))
      all_goals omega
    · have hf' : (2 : Int) = u := hf
      rcases ih with ⟨a, -⟩ | ⟨a, -⟩ | ⟨a, b, c'⟩ | ⟨a, -⟩
      · omega
      · omega
      · subst b c'; exact Or.inr (Or.inr (Or.inr ⟨rfl, Or.inl ⟨rfl, rfl⟩⟩))
      · omega
    · have hf' : (0 : Int) = u := hf
      rcases ih with ⟨a, b, c'⟩ | ⟨a, -⟩ | ⟨a, -⟩ | ⟨a, -⟩
      · subst b c'; exact Or.inr (Or.inr (Or.inr ⟨rfl, Or.inr ⟨rfl, rfl⟩⟩))
      all_goals omega
theorem dw0 : Wk dk 0 0 [0] 0 := .one
theorem dw1 : Wk dk 0 1 [0, 1] 1 := .snoc 0 _ _ 0 dw0 (by decide) rfl
theorem dw2 : Wk dk 0 2 [0, 1, 2] 2 := .snoc 1 _ _ 1 dw1 (by decide) rfl
theorem dw3 : Wk dk 0 3 [0, 1, 2, 3] 3 := .snoc 2 _ _ 2 dw2 (by decide) rfl
theorem dw4 : Wk dk 0 3 [0, 3] 5 := .snoc 0 _ _ 3 dw0 (by decide) rfl
theorem dfind0 : FndP 4 dl (zq 0).q 0 3 0 [0, 1, 2, 3] 3 := by
  refine Or.inr ⟨dgoodF 0 (by omega), ⟨[0, 1, 2, 3], 3, false⟩, ⟨fun _ => ⟨dw3, by decide, by decide⟩, fun h => absurd h (by decide), fun l c hw hl => ?_⟩, Or.inr ⟨rfl, by decide, rfl, rfl⟩⟩
  rcases dwk hw with ⟨h, -⟩ | ⟨h, -⟩ | ⟨h, -⟩ | ⟨-, ⟨rfl, rfl⟩ | ⟨rfl, rfl⟩⟩
  · omega
  · omega
  · omega
  · exact ⟨by decide, leB.refl _ _⟩
  · exact ⟨by decide, leB.of_cost (by decide)⟩
theorem dfind2 : FndP 4 dl (zq 2).q 0 3 0 [0, 3] 5 := by
  refine Or.inr ⟨dgoodF 2 (by omega), ⟨[0, 3], 5, false⟩, ⟨fun _ => ⟨dw4, by decide, by decide⟩, fun h => absurd h (by decide), fun l c hw hl => ?_⟩, Or.inr ⟨rfl, by decide, rfl, rfl⟩⟩
  rcases dwk hw with ⟨h, -⟩ | ⟨h, -⟩ | ⟨h, -⟩ | ⟨-, ⟨rfl, rfl⟩ | ⟨rfl, rfl⟩⟩
  · omega
  · omega
  · omega
  · exact absurd hl (by decide)
  · exact ⟨by decide, leB.refl _ _⟩
end Go.Proofs.Ytiapgbhnbgccaaa.AC
/- The law's alive, walked. -/
namespace Go.Proofs.Ytiapgbhnbgccaaa.AC
open Go Go.AI Go.Proofs Go.Proofs.Ytiapgbhnbgccaaa.AQ
set_option linter.unusedVariables false
theorem dl_wf : ∀ x ∈ dl, x.wf := by
  intro x hx
  have hobt := List.mem_map.1 hx
  obtain ⟨k, hk, rfl⟩ := hobt
  have : 0 ≤ k.g ∧ k.g < 4294967296 := by
    simp only [dk, List.mem_cons, List.not_mem_nil, or_false] at hk
    rcases hk with rfl | rfl | rfl | rfl <;> decide
  refine ⟨rfl, fun n hn => ?_, this.1, this.2⟩
  simp at hn; omega
theorem zq_ok (h : Int) (A : AH) {e : TypeId} : (zq h).ok A e := ⟨Sl.nil Pla.no _ _ _, Sl.nil Pla.no _ _ _, Sl.nil Pla.no _ _ _⟩
theorem zq_wf (h : Int) : (zq h).q.wf := ⟨⟨by simp [zq], by simp [zq], by simp [zq], by simp [zq]⟩, by simp [zq], by simp [zq], by simp [zq], by simp [zq]⟩
theorem dk_rw : Rw 5 (dk.map Lk.enc) := by
  intro r hr
  have hobt := List.mem_map.1 hr
  obtain ⟨k, -, rfl⟩ := hobt
  exact ⟨rfl, rfl⟩
theorem dl_at {k : Nat} (h : k < dk.length) (h' : k < dl.length) {x : Lk} (hx : dk[k] = x) : dl[k] = ⟨x, 0, true, List.replicate 8 0⟩ := by subst hx; exact List.getElem_map _
set_option maxHeartbeats 2000000 in
theorem alive_ok (A : AH) : ACall Try.prog 7 [] A fun v A' => v = .bool true ∧ Ext A A' := by
  refine code7.call (by simp) fun hwf => ?_
  unfold c7
  simp
  refine LN.use (fun m E A' => ∃ (k : Nat) (u : Value), m + k = 4 ∧ Ext A A' ∧ A.next + 1 ≤ A'.next ∧ A'.get A.next = some (.row (dk.map Lk.enc).flatten 52 false) ∧ Own (A.next + 1) A' 55 15 u ((dl.take k).map Adv.enc) ∧ E.get 1 = u ∧ E.get 14 = .slice (some ⟨A.next, 0, none⟩) 4 4 ∧ E.get 15 = .int .i64 4 ∧ E.get 16 = .int .i64 k) 4
    ⟨0, .slice none 0 0, by omega, Ext.alloc A _, by simp, AH.get_new _ _, Own.nil _ _ _ _, by simp, by simp, by simp, by simp⟩ ?_
  rintro m E A1 hw1 hn1 ⟨k, u, hk, x1, n1, g1, o1, E1, E14, E15, E16⟩
  by_cases hlt : k < 4
  · have hlt' : (k : Int) < 4 := by omega
    have hgi : IntKind.i64.wrap ((k : Int) + 1) = ((k + 1 : Nat) : Int) := by rw [i64_in (by omega) (by omega)]; simp
    have hkd : k < dk.length := hlt
    have hat := flat_at dk_rw.len (i := k) (by rw [List.length_map]; exact hlt)
    rw [List.getElem_map] at hat
    have hfl : (dk.map Lk.enc).flatten.length = 20 := rfl
    have hfit : k * 5 + 5 ≤ (dk.map Lk.enc).flatten.length := by omega
    obtain ⟨f, t, cc, mm, g, hx⟩ : ∃ f t c m g, dk[k] = (⟨f, t, c, m, g⟩ : Lk) := ⟨_, _, _, _, _, rfl⟩
    rw [hx] at hat
    simp only [Lk.enc] at hat
    have hkl : k < dl.length := hlt
    have hdk : dl[k].enc = [.int .i64 f, .int .i64 t, .int .u64 cc, .int .i64 mm, .int .u32 g, .int .i64 0, .bool true, .int .u64 0, .int .u64 0, .int .u64 0, .int .u64 0, .int .u64 0, .int .u64 0, .int .u64 0, .int .u64 0] := by
      rw [dl_at hkd hkl hx]; rfl
    have hdl : (dl.take k).length = k := by rw [List.length_take]; exact Nat.min_eq_left (by show k ≤ 4; omega)
    have x2 := Ext.alloc A1 (.row [.int .i64 f, .int .i64 t, .int .u64 cc, .int .i64 mm, .int .u32 g] 52 false)
    have hw2 := AH.wf_alloc hw1 (.row [.int .i64 f, .int .i64 t, .int .u64 cc, .int .i64 mm, .int .u32 g] 52 false)
    have hobt := own_push (o1.ext hw1 x2) (y := 120) (r := dl[k].enc) hw2 (by simp; omega) (by rw [hdk]; exact ⟨rfl, rfl⟩) (by omega) (by omega) (by simp [hdl]; omega)
    obtain ⟨u', A3, p1, p2, p3, p4⟩ := hobt
    simp only [AH.next_alloc] at p1 p3
    have hobt := own_slm o1
    obtain ⟨a2, c2, rfl, -⟩ := hobt
    rw [hdl] at p1 E1
    rw [hdk] at p1
    generalize hcs : (dk.map Lk.enc).flatten = cs at g1 hat hfit
    simp [E1, E14, E15, E16, hlt, hlt', g1, hat, hfit, p1, hgi]
    refine NX.of ⟨m - 1, by omega, k + 1, u', by omega, fun c hc => by rw [p4 c (by omega), x2 c (by omega), x1 c hc], by omega, by rw [p4 _ (by omega), x2 _ (by omega)]; exact g1, ?_, by simp, by simp [E14], by simp [E15], by simp⟩
    rw [take_snoc hkl, List.map_append]; exact p2
  · obtain rfl : k = 4 := by omega
    have hlt' : ¬ ((4 : Nat) : Int) < 4 := by omega
    have x01 := x1
    have hobt := own_slm o1
    obtain ⟨a2, c2, rfl, s2, -⟩ := hobt
    have hd4 : dl.take 4 = dl := rfl
    rw [hd4] at s2 E1
    have hl4 : dl.length = 4 := rfl
    rw [hl4] at E1
    simp [E1, E15, E16]
    refine CN.use (show ACall Try.prog 17 [.agg #[.int .u64 0, .int .i64 0, .int .i64 0, .int .u32 0, .int .u32 0, .int .u32 0, .slice none 0 0, .slice none 0 0, .slice none 0 0, .int .i64 0]] A1 _ from theirsQ_ok (zq 0) (zq_ok 0 A1) (by simp [zq])) ?_
    rintro _ A2 hw2 hn2 ⟨x2, a', rfl, hq, ha⟩
    simp [E1]
    refine CN.use (cfind_ok (cl := c2) (s2.ext hw1 x2) dl_wf (by decide) a' ha (by rw [hq]; exact zq_wf 0) 4 0 3) ?_
    rintro _ A3 hw3 hn3 ⟨x3, a3, c3, r, x, e, rfl, f3, s3, -, -⟩
    rw [hq] at f3
    have hobt := f3.same dfind0
    obtain ⟨rfl, rfl, rfl⟩ := hobt
    have x03 := (x01.trans (by omega) x2).trans (by omega) x3
    have x13 := x2.trans hn2 x3
    simp [E1]
    refine CN.use (show ACall Try.prog 17 [.agg #[.int .u64 0, .int .i64 0, .int .i64 0, .int .u32 0, .int .u32 0, .int .u32 0, .slice none 0 0, .slice none 0 0, .slice none 0 0, .int .i64 2]] A3 _ from theirsQ_ok (zq 2) (zq_ok 2 A3) (by simp [zq])) ?_
    rintro _ A4 hw4 hn4 ⟨x4, a'', rfl, hq', ha'⟩
    simp [E1]
    have x14 := x13.trans (by omega) x4
    refine CN.use (cfind_ok (cl := c2) (s2.ext hw1 x14) dl_wf (by decide) a'' ha' (by rw [hq']; exact zq_wf 2) 4 0 3) ?_
    rintro _ A5 hw5 hn5 ⟨x5, a5, c5, r, x, e, rfl, f5, s5, -, -⟩
    rw [hq'] at f5
    have hobt := f5.same dfind2
    obtain ⟨rfl, rfl, rfl⟩ := hobt
    have x05 := (x03.trans (by omega) x4).trans (by omega) x5
    have x35 := x4.trans hn4 x5
    simp
    have x6 := Ext.alloc A5 (.row [.int .i64 0, .int .i64 1, .int .i64 2, .int .i64 3] 3 false)
    have hw6 := AH.wf_alloc hw5 (.row [.int .i64 0, .int .i64 1, .int .i64 2, .int .i64 3] 3 false)
    refine CN.use (intsEq_ok (l := [0, 1, 2, 3]) (l' := [0, 1, 2, 3]) (c := c3) (c' := 4) (s3.ext hw3 (x35.trans (by omega) x6)) (Sl.row (ints_rw _) (AH.get_new A5 _) (by simp [ints])) (by simp)) ?_
    rintro _ _ - - ⟨rfl, rfl⟩
    simp [sameL]
    have x7 := x6.app (by simp) (.row [.int .i64 0, .int .i64 3] 3 false)
    refine CN.use (intsEq_ok (l := [0, 3]) (l' := [0, 3]) (c := c5) (c' := 2) (s5.ext hw5 x7) (Sl.row (ints_rw _) (AH.get_new (A5.alloc _) _) (by simp [ints])) (by simp)) ?_
    rintro _ _ - - ⟨rfl, rfl⟩
    simp [sameL]
    exact DN.of ⟨rfl, x05.trans (by omega) x7⟩
end Go.Proofs.Ytiapgbhnbgccaaa.AC
/- The law that what is found is the reference's. -/
namespace Go.Proofs.Ytiapgbhnbgccaaa.AC
open Go Go.AI Go.Proofs Go.Proofs.Ytiapgbhnbgccaaa.AQ
set_option linter.unusedVariables false
/-- What the values of a question keep, whatever its lists' lengths. -/
def Ask.wf0 (a : Ask) : Prop := a.w.wf ∧ ∀ o ∈ a.ow, o.bw < 18446744073709551616
theorem wf_of {a : Ask} {n : Nat} (h : a.wf0) (hf : n ≤ 100 ∧ a.nn.length ≤ 100 ∧ a.nl.length ≤ 100 ∧ a.ow.length ≤ 100) : a.wf := ⟨h.1, h.2, by omega, by omega, by omega⟩
theorem cs_one (n s t : Int) (al : Option Addr) (k cl : Nat) : ∀ v ∈ ([.int .i64 n, .slice al k cl, .int .i64 s, .int .i64 t] : List Value), oneB v = true := List.all_eq_true.1 rfl
set_option maxHeartbeats 2000000 in
theorem cspfFinds_walk {A : AH} {al : Option Addr} {cl : Nat} {l : List Adv} {n s t : Int} {a : AskM} (hl : Sl A 72 15 al (l.map Adv.enc)) (hx : ∀ x ∈ l, x.wf) (h : a.ok A 95) (hw0 : a.q.wf0) :
    ACall Try.prog 3 [.agg #[.int .i64 n, .slice al l.length cl, .int .i64 s, .int .i64 t], .agg a.enc.toArray] A fun v A' => v = .bool true := by
  have hobt := a.cells
  obtain ⟨ael, ao, at6, -, -, -, -, -, k9⟩ := hobt
  have at10 : List.take 10 a.enc = a.enc := List.take_of_length_le (by omega)
  refine code3.call (by simp) fun hwf => ?_
  unfold c3
  have x0 : Ext A ((A.alloc (.row [.int .i64 n, .slice al l.length cl, .int .i64 s, .int .i64 t] 24 false)).alloc (.row a.enc 33 false)) := (Ext.alloc A _).app (by simp) _
  have hw1 := AH.wf_alloc (AH.wf_alloc hwf (.row [.int .i64 n, .slice al l.length cl, .int .i64 s, .int .i64 t] 24 false)) (.row a.enc 33 false)
  have r0 : ((A.alloc (.row [.int .i64 n, .slice al l.length cl, .int .i64 s, .int .i64 t] 24 false)).alloc (.row a.enc 33 false)).get A.next = some (.row [.int .i64 n, .slice al l.length cl, .int .i64 s, .int .i64 t] 24 false) := by rw [AH.get_alloc, if_neg (by simp), AH.get_new]
  have r1 : ((A.alloc (.row [.int .i64 n, .slice al l.length cl, .int .i64 s, .int .i64 t] 24 false)).alloc (.row a.enc 33 false)).get (A.next + 1) = some (.row a.enc 33 false) := by rw [AH.get_alloc, if_pos (by simp)]
  simp
  refine CN.use (alive_ok _) ?_
  rintro _ A1 hw2 hn1 ⟨rfl, x1⟩
  simp only [AH.next_alloc] at hn1
  have r01 := x1.get hw1 r0
  have r11 := x1.get hw1 r1
  have x01 := x0.trans (by simp; omega) x1
  simp [r01, r11, ael, at10]
  refine CN.use (fits16_ok (al := al) (cl := cl) (n := l.length) a) ?_
  rintro _ A2 hw3 hn2 ⟨x2, rfl⟩
  have x02 := x01.trans (by omega) x2
  have r02 := x2.get hw2 r01
  have r12 := x2.get hw2 r11
  by_cases hfit : l.length ≤ 100 ∧ a.q.nn.length ≤ 100 ∧ a.q.nl.length ≤ 100 ∧ a.q.ow.length ≤ 100
  rotate_left
  · simp [hfit]
    exact DN.of rfl
  have hw := wf_of hw0 hfit
  simp [hfit, r02, r12, ael, at10]
  refine CN.use (lfind_ok (cl := cl) (hl.ext hwf x02) hx (by omega) a (h.ext hwf x02) hw n s t) ?_
  rintro _ A3 hw4 hn3 ⟨x3, a', c', r, x, e, rfl, f1, s1, -, hrl⟩
  have x03 := x02.trans (by omega) x3
  have r03 := x3.get hw3 r02
  have r13 := x3.get hw3 r12
  simp [r03, r13, ael, at10]
  refine CN.use (rfind_ok (cl := cl) (hl.ext hwf x03) hx (by omega) a (h.ext hwf x03) hw n s t) ?_
  rintro _ A4 hw5 hn4 ⟨x4, a'', c'', r', x', e', rfl, f2, s2, -⟩
  have hobt := f1.same f2
  obtain ⟨rfl, rfl, rfl⟩ := hobt
  simp
  refine CN.use (intsEq_ok (c := c') (c' := c'') (s1.ext hw4 x4) s2 (by omega)) ?_
  rintro _ _ - - ⟨rfl, rfl⟩
  simp [sameL]
  exact DN.of rfl
end Go.Proofs.Ytiapgbhnbgccaaa.AC
/- The law that what is found meets what is asked. -/
namespace Go.Proofs.Ytiapgbhnbgccaaa.AC
open Go Go.AI Go.Proofs Go.Proofs.Ytiapgbhnbgccaaa.AQ
set_option linter.unusedVariables false
theorem FndP.met {n s t c : Int} {l : List Adv} {a : Ask} {r : List Int} (h : FndP n l a s t 0 r c) : goodN n (fitL l a) ∧ 2 ≤ r.length ∧ r.length ≤ 16 ∧ r.Nodup ∧ Wk (fitL l a) s t r c ∧ r.length ≤ hopsN n a.hops + 1 := by
  rcases h with ⟨h, -⟩ | ⟨hg, x, hb, ⟨h, -⟩ | ⟨-, hc, rfl, rfl⟩⟩
  · cases h
  · cases h
  · obtain ⟨p1, p2, p3⟩ := hb.path hc
    have hgk := hg.1.sub (fitL_sub l a)
    obtain ⟨n, rfl⟩ : ∃ m : Nat, n = m := ⟨n.toNat, by have := hg.1.1; omega⟩
    have hln := nodup_len n _ p2 fun y hy => p1.rng hgk hg.2.1 y hy
    have := hg.1.2.1
    refine ⟨hgk, ?_, by omega, p2, p1, p3⟩
    have hst := hg.2.2.2.1
    have h0 := p1.head
    have h1 := p1.last
    match hl : x.l with
    | [] => rw [hl] at h0; simp at h0
    | [z] => rw [hl] at h0 h1; simp at h0 h1; exact absurd (h0.symm.trans h1) hst
    | y :: z :: q => simp
theorem hops_meet {n hops : Int} {k : Nat} (h0 : 0 ≤ hops) (hn : 1 ≤ n) (hk : k ≤ hopsN n hops + 1) : hops = 0 ∨ (k : Int) - 1 ≤ hops := by
  by_cases h : hops = 0
  · exact Or.inl h
  · right
    have : hopsN n hops ≤ hops.toNat := by unfold hopsN; rw [if_pos (by omega)]; split <;> omega
    omega
theorem FndP.meet {n s t c m e : Int} {l : List Adv} {a : Ask} {r : List Int} (h : FndP n l a s t 0 r c) (hr : RteP (fitL l a) r m e) : meetB a r.length e = true ∧ m = c ∧ e = 0 := by
  have hobt := h.met
  obtain ⟨h1, h2, h3, h4, h5, h6⟩ := hobt
  have hh : 0 ≤ a.hops := by
    rcases h with ⟨h, -⟩ | ⟨hg, -⟩
    · cases h
    · exact hg.2.2.2.2.2
  rcases hr with ⟨rfl, -, -, -, s', v', hw⟩ | ⟨-, -, hn⟩
  · refine ⟨?_, (h5.same_cost h1 hw).symm, rfl⟩
    have := hops_meet hh h1.1 h6
    simp [meetB, this]
  · exact absurd ⟨h2, h3, h4, s, t, c, h5⟩ hn
set_option maxHeartbeats 2000000 in
theorem cspfMeets_walk {A : AH} {al : Option Addr} {cl : Nat} {l : List Adv} {n s t : Int} {a : AskM} (hl : Sl A 72 15 al (l.map Adv.enc)) (hx : ∀ x ∈ l, x.wf) (h : a.ok A 95) (hw0 : a.q.wf0) :
    ACall Try.prog 4 [.agg #[.int .i64 n, .slice al l.length cl, .int .i64 s, .int .i64 t], .agg a.enc.toArray] A fun v A' => v = .bool true := by
  have hobt := a.cells
  obtain ⟨ael, ao, at6, -, -, -, -, -, k9⟩ := hobt
  have at10 : List.take 10 a.enc = a.enc := List.take_of_length_le (by omega)
  refine code4.call (by simp) fun hwf => ?_
  unfold c4
  have x0 : Ext A ((A.alloc (.row [.int .i64 n, .slice al l.length cl, .int .i64 s, .int .i64 t] 24 false)).alloc (.row a.enc 33 false)) := (Ext.alloc A _).app (by simp) _
  have hw1 := AH.wf_alloc (AH.wf_alloc hwf (.row [.int .i64 n, .slice al l.length cl, .int .i64 s, .int .i64 t] 24 false)) (.row a.enc 33 false)
  have r0 : ((A.alloc (.row [.int .i64 n, .slice al l.length cl, .int .i64 s, .int .i64 t] 24 false)).alloc (.row a.enc 33 false)).get A.next = some (.row [.int .i64 n, .slice al l.length cl, .int .i64 s, .int .i64 t] 24 false) := by rw [AH.get_alloc, if_neg (by simp), AH.get_new]
  have r1 : ((A.alloc (.row [.int .i64 n, .slice al l.length cl, .int .i64 s, .int .i64 t] 24 false)).alloc (.row a.enc 33 false)).get (A.next + 1) = some (.row a.enc 33 false) := by rw [AH.get_alloc, if_pos (by simp)]
  simp
  refine CN.use (alive_ok _) ?_
  rintro _ A1 hw2 hn1 ⟨rfl, x1⟩
  simp only [AH.next_alloc] at hn1
  have r01 := x1.get hw1 r0
  have r11 := x1.get hw1 r1
  have x01 := x0.trans (by simp; omega) x1
  simp [r01, r11, ael, at10]
  refine CN.use (fits16_ok (al := al) (cl := cl) (n := l.length) a) ?_
  rintro _ A2 hw3 hn2 ⟨x2, rfl⟩
  have x02 := x01.trans (by omega) x2
  have r02 := x2.get hw2 r01
  have r12 := x2.get hw2 r11
  by_cases hfit : l.length ≤ 100 ∧ a.q.nn.length ≤ 100 ∧ a.q.nl.length ≤ 100 ∧ a.q.ow.length ≤ 100
  rotate_left
  · simp [hfit]
    exact DN.of rfl
  have hw := wf_of hw0 hfit
  simp [hfit, r02, r12, ael, at10]
  refine CN.use (lfind_ok (cl := cl) (hl.ext hwf x02) hx (by omega) a (h.ext hwf x02) hw n s t) ?_
  rintro _ A3 hw4 hn3 ⟨x3, a', c', r, x, e, rfl, f1, s1, hc1, hrl⟩
  have x03 := x02.trans (by omega) x3
  have r03 := x3.get hw3 r02
  have r13 := x3.get hw3 r12
  by_cases he : e = 0
  rotate_left
  · have hr0 : r = [] ∧ x = 0 := by
      rcases f1 with ⟨-, -, h1, h2⟩ | ⟨-, y, -, ⟨-, -, h1, h2⟩ | ⟨h0, -⟩⟩
      · exact ⟨h1, h2⟩
      · exact ⟨h1, h2⟩
      · exact absurd h0 he
    obtain ⟨rfl, rfl⟩ := hr0
    simp [he]
    exact DN.of rfl
  subst he
  have hobt := f1.met
  obtain ⟨m1, m2, m3, m4, m5, m6⟩ := hobt
  have hobt := m5.ends (by omega)
  obtain ⟨e1, e2⟩ := hobt
  have g1 : ¬ (r.length : Int) < 2 := by omega
  have g3 : IntKind.i64.wrap ((r.length : Int) - 1) = ((r.length - 1 : Nat) : Int) := by rw [i64_in (by omega) (by omega)]; omega
  have g4 : r.length - 1 < r.length := by omega
  have g5 : 0 < r.length := by omega
  have hobt := s1.one (Go.AI.ints_at (l := r) (i := 0) g5)
  obtain ⟨b, o, cs, ro, rfl, z1, z2⟩ := hobt
  have hobt := s1.one (Go.AI.ints_at (l := r) (i := r.length - 1) g4)
  obtain ⟨b', o', cs', ro', hb', z3, z4⟩ := hobt
  injection hb' with hb'
  injection hb' with hb1 hb2 _
  subst hb1 hb2
  rw [z1] at z3
  injection z3 with z3
  injection z3 with z3 _ _
  subst z3
  rw [e1] at z2
  rw [e2] at z4
  rw [Nat.add_zero] at z2
  simp [r03, r13, ael, at10, g1, g3, g4, g5, z1, z2, z4]
  refine CN.use (rmeets_ok (cl := cl) (hl.ext hwf x03) hx (by omega) a (h.ext hwf x03) hw s1 hc1 (by omega)) ?_
  rintro _ A4 hw5 hn4 ⟨x4, m, e, rfl, he, hR⟩
  have hobt := f1.meet (hR n m1)
  obtain ⟨q1, q2, q3⟩ := hobt
  have x04 := x03.trans (by omega) x4
  have r04 := x4.get hw4 r03
  have r14 := x4.get hw4 r13
  simp [q1, r04, r14, ael, at10]
  refine CN.use (rlinks_ok (cl := cl) (hl.ext hwf x04) hx (by omega) a (h.ext hwf x04) hw) ?_
  rintro _ A5 hw6 hn5 ⟨x5, o5⟩
  have hobt := own_slm o5
  obtain ⟨aL, cL, rfl, sL, -⟩ := hobt
  have x35 := x4.trans hn4 x5
  have hfl := fitL_len l a.q
  simp
  refine CN.use (route_ok sL (by omega) (s1.ext hw4 x35) (hc1.ext hw4 x35) (by omega)) ?_
  rintro _ A6 - - ⟨rfl, m', e', rfl, he', hR'⟩
  have hobt := f1.meet (hR' n m1)
  obtain ⟨-, rfl, rfl⟩ := hobt
  simp
  exact DN.of rfl
end Go.Proofs.Ytiapgbhnbgccaaa.AC
/- The law that nothing better is left. -/
namespace Go.Proofs.Ytiapgbhnbgccaaa.AC
open Go Go.AI Go.Proofs Go.Proofs.Ytiapgbhnbgccaaa.AQ
set_option linter.unusedVariables false
theorem FndP.best {n c e m m' e' : Int} {l : List Adv} {a : Ask} {r rt : List Int} (hr0 : 0 < rt.length) (hr9 : rt.length - 1 < rt.length) (h : FndP n l a rt[0] rt[rt.length - 1] e r c) (hR : ∀ n, goodN n (fitL l a) → RteP (fitL l a) rt m 0) (hR' : ∀ n, goodN n (fitL l a) → RteP (fitL l a) rt m' e') (hh : a.hops = 0 ∨ (rt.length : Int) - 1 ≤ a.hops) : e = 2 ∨ (e = 0 ∧ e' = 0 ∧ betB m' rt c r = false) := by
  rcases h with ⟨h, -⟩ | ⟨hg, x, hb, hx⟩
  · exact Or.inl h
  right
  have hgk := hg.1.sub (fitL_sub l a)
  rcases hR n hgk with ⟨-, q1, q2, q3, s', v', hw⟩ | ⟨h0, -⟩
  rotate_left
  · cases h0
  have hobt := hw.ends hr0
  obtain ⟨e1, e2⟩ := hobt
  subst e1 e2
  have hn : rt.length ≤ hopsN n a.hops + 1 := by
    obtain ⟨n, rfl⟩ : ∃ m : Nat, n = m := ⟨n.toNat, by have := hg.1.1; omega⟩
    have hln := nodup_len n _ q3 fun y hy => hw.rng hgk hg.2.1 y hy
    have := hg.1.1
    have := hg.2.2.2.2.2
    unfold hopsN
    split
    · split <;> omega
    · omega
  have hobt := hb.least _ _ hw hn
  obtain ⟨c0, c1⟩ := hobt
  have he' : e' = 0 ∧ m' = m := by
    rcases hR' n hgk with ⟨k0, -, -, -, s2, v2, hw2⟩ | ⟨-, -, hno⟩
    · exact ⟨k0, hw2.same_cost hgk hw⟩
    · exact absurd ⟨q1, q2, q3, _, _, _, hw⟩ hno
  rcases hx with ⟨-, h1, -⟩ | ⟨h1, h2, rfl, rfl⟩
  · omega
  · rw [he'.2]
    exact ⟨h1, he'.1, c1⟩
set_option maxHeartbeats 2000000 in
theorem cspfNone_walk {A : AH} {al : Option Addr} {cl : Nat} {l : List Adv} {n s t : Int} {a : AskM} (hl : Sl A 72 15 al (l.map Adv.enc)) (hx : ∀ x ∈ l, x.wf) (h : a.ok A 95) (hw0 : a.q.wf0) {ar : Option Addr} {cr : Nat} {rt : List Int} (hr : Sl A 3 1 ar (ints rt)) (hcr : CapOk A 3 ar rt.length cr) :
    ACall Try.prog 5 [.agg #[.int .i64 n, .slice al l.length cl, .int .i64 s, .int .i64 t], .agg a.enc.toArray, .slice ar rt.length cr] A fun v A' => v = .bool true := by
  have hobt := a.cells
  obtain ⟨ael, ao, at6, -, -, -, -, -, k9⟩ := hobt
  have at10 : List.take 10 a.enc = a.enc := List.take_of_length_le (by omega)
  refine code5.call (by simp) fun hwf => ?_
  unfold c5
  have x0 : Ext A ((A.alloc (.row [.int .i64 n, .slice al l.length cl, .int .i64 s, .int .i64 t] 24 false)).alloc (.row a.enc 33 false)) := (Ext.alloc A _).app (by simp) _
  have hw1 := AH.wf_alloc (AH.wf_alloc hwf (.row [.int .i64 n, .slice al l.length cl, .int .i64 s, .int .i64 t] 24 false)) (.row a.enc 33 false)
  have r0 : ((A.alloc (.row [.int .i64 n, .slice al l.length cl, .int .i64 s, .int .i64 t] 24 false)).alloc (.row a.enc 33 false)).get A.next = some (.row [.int .i64 n, .slice al l.length cl, .int .i64 s, .int .i64 t] 24 false) := by rw [AH.get_alloc, if_neg (by simp), AH.get_new]
  have r1 : ((A.alloc (.row [.int .i64 n, .slice al l.length cl, .int .i64 s, .int .i64 t] 24 false)).alloc (.row a.enc 33 false)).get (A.next + 1) = some (.row a.enc 33 false) := by rw [AH.get_alloc, if_pos (by simp)]
  simp
  refine CN.use (alive_ok _) ?_
  rintro _ A1 hw2 hn1 ⟨rfl, x1⟩
  simp only [AH.next_alloc] at hn1
  have r01 := x1.get hw1 r0
  have r11 := x1.get hw1 r1
  have x01 := x0.trans (by simp; omega) x1
  simp [r01, r11, ael, at10]
  refine CN.use (fits16_ok (al := al) (cl := cl) (n := l.length) a) ?_
  rintro _ A2 hw3 hn2 ⟨x2, rfl⟩
  have x02 := x01.trans (by omega) x2
  have r02 := x2.get hw2 r01
  have r12 := x2.get hw2 r11
  by_cases hfit : l.length ≤ 100 ∧ a.q.nn.length ≤ 100 ∧ a.q.nl.length ≤ 100 ∧ a.q.ow.length ≤ 100
  rotate_left
  · simp [hfit]
    exact DN.of rfl
  have hw := wf_of hw0 hfit
  by_cases q1 : (rt.length : Int) < 2
  · simp [hfit, q1]
    exact DN.of rfl
  by_cases q2 : (100 : Int) < rt.length
  · simp [hfit, q1, q2]
    exact DN.of rfl
  simp [hfit, r02, r12, ael, at10, q1, q2]
  refine CN.use (rmeets_ok (cl := cl) (hl.ext hwf x02) hx (by omega) a (h.ext hwf x02) hw (hr.ext hwf x02) (hcr.ext hwf x02) (by omega)) ?_
  rintro _ A3 hw4 hn3 ⟨x3, m, e, rfl, he, hR⟩
  have x03 := x02.trans (by omega) x3
  have r03 := x3.get hw3 r02
  have r13 := x3.get hw3 r12
  cases hm : meetB a.q rt.length e with
  | false =>
    simp
    exact DN.of rfl
  | true =>
  simp [meetB] at hm
  obtain ⟨rfl, hh⟩ := hm
  have hr0 : 0 < rt.length := by omega
  have hr9 : rt.length - 1 < rt.length := by omega
  have g3 : IntKind.i64.wrap ((rt.length : Int) - 1) = ((rt.length - 1 : Nat) : Int) := by rw [i64_in (by omega) (by omega)]; omega
  have hobt := hr.one (Go.AI.ints_at (l := rt) (i := 0) hr0)
  obtain ⟨b, o, cs, ro, rfl, z0, z2⟩ := hobt
  have hobt := hr.one (Go.AI.ints_at (l := rt) (i := rt.length - 1) hr9)
  obtain ⟨b', o', cs', ro', hb', z3, z4⟩ := hobt
  injection hb' with hb'
  injection hb' with hb1 hb2 _
  subst hb1 hb2
  rw [z0] at z3
  injection z3 with z3
  injection z3 with z3 _ _
  subst z3
  rw [Nat.add_zero] at z2
  have z1 := x03.get hwf z0
  have zb : ¬ b = A.next := by have := hwf _ _ z0; omega
  have n0 : A.next + 1 + 1 ≤ A3.next := by omega
  have w1 : ¬ A.next + 1 = A.next := by omega
  simp [r03, r13, ael, at10, g3, hr0, hr9, z1, z2, z4, zb]
  have x04 := x03.setnew (c := A.next) (Nat.le_refl _) (.row [.int .i64 n, .slice al l.length cl, .int .i64 (rt[0]'hr0), .int .i64 (rt[rt.length - 1]'hr9)] 24 false)
  have hw4' := AH.wf_set hw4 (c := A.next) (by omega) (.row [.int .i64 n, .slice al l.length cl, .int .i64 (rt[0]'hr0), .int .i64 (rt[rt.length - 1]'hr9)] 24 false)
  have r04 : (A3.set A.next (.row [.int .i64 n, .slice al l.length cl, .int .i64 (rt[0]'hr0), .int .i64 (rt[rt.length - 1]'hr9)] 24 false)).get A.next = some (.row [.int .i64 n, .slice al l.length cl, .int .i64 (rt[0]'hr0), .int .i64 (rt[rt.length - 1]'hr9)] 24 false) := by rw [AH.get_set, if_pos rfl]
  have r14 : (A3.set A.next (.row [.int .i64 n, .slice al l.length cl, .int .i64 (rt[0]'hr0), .int .i64 (rt[rt.length - 1]'hr9)] 24 false)).get (A.next + 1) = some (.row a.enc 33 false) := by rw [AH.get_set, if_neg w1]; exact r13
  refine CN.use (lfind_ok (cl := cl) (hl.ext hwf x04) hx (by omega) a (h.ext hwf x04) hw n _ _) ?_
  rintro _ A5 hw5 hn5 ⟨x5, a5, c5, r, x, e, rfl, f1, s5, hc5, hrl5⟩
  simp only [AH.next_set] at hn5
  have x05 := x04.trans (by simp; omega) x5
  have r05 := x5.get hw4' r04
  have r15 := x5.get hw4' r14
  by_cases h2 : e = 2
  · subst h2
    simp [r05, r15, ael, at10]
    refine CN.use (rfind_ok (cl := cl) (hl.ext hwf x05) hx (by omega) a (h.ext hwf x05) hw n _ _) ?_
    rintro _ A6 hw6 hn6 ⟨x6, a6, c6, r', x', e', rfl, f2, s6, -⟩
    have hobt := f1.same f2
    obtain ⟨h0, -, -⟩ := hobt
    subst h0
    simp
    exact DN.of rfl
  simp [r05, r15, ael, at10, h2]
  refine CN.use (rlinks_ok (cl := cl) (hl.ext hwf x05) hx (by omega) a (h.ext hwf x05) hw) ?_
  rintro _ A6 hw6 hn6 ⟨x6, o6⟩
  have hobt := own_slm o6
  obtain ⟨aL, cL, rfl, sL, -⟩ := hobt
  have hfl := fitL_len l a.q
  have x06 := x05.trans (by omega) x6
  simp
  refine CN.use (route_ok sL (by omega) (hr.ext hwf x06) (hcr.ext hwf x06) (by omega)) ?_
  rintro _ A7 - - ⟨rfl, m', e', rfl, he', hR'⟩
  rcases FndP.best hr0 hr9 f1 hR hR' hh with h0 | ⟨rfl, rfl, hbt⟩
  · exact absurd h0 h2
  simp
  refine CN.use (rbetter_ok (c := cr) (c' := c5) (hr.ext hwf x06) (s5.ext hw5 x6) (by omega) m' x) ?_
  rintro _ A8 - - ⟨rfl, rfl⟩
  simp [hbt]
  exact DN.of rfl
end Go.Proofs.Ytiapgbhnbgccaaa.AC
/- Arguments, read: adverts, questions, cases. -/
namespace Go.Proofs.Ytiapgbhnbgccaaa.AC
open Go Go.AI Go.RowKit Go.Proofs Go.Proofs.Ytiapgbhnbgccaaa.AQ
set_option linter.unusedVariables false
theorem lit_u64 {i : Int} (h : (Lit.int .u64 i).wf = true) : ∃ n : Nat, i = n ∧ n < 18446744073709551616 := by
  have a : IntKind.u64.min = 0 := rfl
  have b : IntKind.u64.max = 18446744073709551615 := rfl
  simp [Lit.wf, a, b] at h
  exact ⟨i.toNat, by omega, by omega⟩
theorem lit_u32 {i : Int} (h : (Lit.int .u32 i).wf = true) : ∃ n : Nat, i = n ∧ n < 4294967296 := by
  have a : IntKind.u32.min = 0 := rfl
  have b : IntKind.u32.max = 4294967295 := rfl
  simp [Lit.wf, a, b] at h
  exact ⟨i.toNat, by omega, by omega⟩
section
variable {A : AH} {n : Nat} {cs : List Value}
theorem adv_rd (h : Rd Try.prog A n 72 cs) : ∃ x : {x : Adv // x.fr.length = 8}, cs = x.1.enc ∧ x.1.wf := by
  have hobt := Rd_struct Try.underlying72 (by kernel_rfl) h
  obtain ⟨n', h⟩ := hobt
  simp only [RdS] at h
  obtain ⟨p0, _, rfl, h0, p1, _, rfl, h1, p2, _, rfl, h2, p3, _, rfl, h3, rfl⟩ := h
  have hobt := link_rd h0
  obtain ⟨k, rfl, hk⟩ := hobt
  have hobt := int_rd h1
  obtain ⟨i1, rfl, w1⟩ := hobt
  have hobt := Rd_bool Try.underlying4 h2
  obtain ⟨b, rfl⟩ := hobt
  have hobt := Rd_arr (N := 8) Try.underlying53 Try.underlying25 (by kernel_rfl) (by kernel_rfl) h3
  obtain ⟨L, hL, rfl, hw⟩ := hobt
  have hobt := lit_u32 hk.2.2.2.2
  obtain ⟨g, hg, hg2⟩ := hobt
  have hm : (L.map Int.toNat).map (fun n : Nat => Value.int .u64 n) = L.map (.int .u64) := by
    rw [List.map_map]
    apply List.map_congr_left
    intro i hi
    have hobt := lit_u64 (hw i hi)
    obtain ⟨m, rfl, -⟩ := hobt
    simp
  refine ⟨⟨⟨k, i1, b, L.map Int.toNat⟩, by simp [hL]⟩, ?_, by simp [hL], ?_, by simp only [hg]; omega, by simp only [hg]; omega⟩
  · simp only [Adv.enc, hm]; simp
  · intro m hm'
    have hobt := List.mem_map.1 hm'
    obtain ⟨i, hi, rfl⟩ := hobt
    have hobt := lit_u64 (hw i hi)
    obtain ⟨m, rfl, hm⟩ := hobt
    simpa using hm
theorem advs_rd (h : Rd Try.prog A n 22 cs) : ∃ (a : Option Addr) (c : Nat) (l : List Adv), cs = [.slice a l.length c] ∧ Sl A 72 15 a (l.map Adv.enc) ∧ ∀ x ∈ l, x.wf := by
  have hobt := Rd_slice (z := 15) (f := fun x : {x : Adv // x.fr.length = 8} => x.1.enc) (Q := fun x => x.1.wf) Try.underlying22 (by kernel_rfl) (by decide) (fun x => ⟨(Adv.cells x.2).1, (Adv.cells x.2).2.1⟩) (fun n cs h => adv_rd h) h
  obtain ⟨a, c, L, h1, h2, -, -, h3⟩ := hobt
  refine ⟨a, c, L.map (·.1), by simp [h1], by rw [List.map_map]; exact h2, fun x hx => ?_⟩
  have hobt := List.mem_map.1 hx
  obtain ⟨y, hy, rfl⟩ := hobt
  exact h3 y hy
theorem own_rd (h : Rd Try.prog A n 95 cs) : ∃ x : Ow, cs = x.enc ∧ x.bw < 18446744073709551616 := by
  have hobt := Rd_struct Try.underlying95 (by kernel_rfl) h
  obtain ⟨n', h⟩ := hobt
  simp only [RdS] at h
  obtain ⟨p0, _, rfl, h0, p1, _, rfl, h1, p2, _, rfl, h2, rfl⟩ := h
  have hobt := int_rd h0
  obtain ⟨i0, rfl, -⟩ := hobt
  have hobt := int_rd h1
  obtain ⟨i1, rfl, -⟩ := hobt
  have hobt := Rd_int Try.underlying25 h2
  obtain ⟨i2, rfl, w2⟩ := hobt
  have hobt := lit_u64 w2
  obtain ⟨m, rfl, hm⟩ := hobt
  exact ⟨⟨i0, i1, m⟩, rfl, hm⟩
theorem ask_rd (h : Rd Try.prog A n 33 cs) : ∃ a : AskM, cs = a.enc ∧ a.ok A 95 ∧ a.q.w.wf ∧ ∀ o ∈ a.q.ow, o.bw < 18446744073709551616 := by
  have hobt := Rd_struct Try.underlying33 (by kernel_rfl) h
  obtain ⟨n', h⟩ := hobt
  simp only [RdS] at h
  obtain ⟨p0, _, rfl, h0, p1, _, rfl, h1, p2, _, rfl, h2, p3, _, rfl, h3, p4, _, rfl, h4, rfl⟩ := h
  have hobt := Rd_struct Try.underlying28 (by kernel_rfl) h0
  obtain ⟨n2, h0⟩ := hobt
  simp only [RdS] at h0
  obtain ⟨q0, _, rfl, g0, q1, _, rfl, g1, q2, _, rfl, g2, q3, _, rfl, g3, q4, _, rfl, g4, q5, _, rfl, g5, rfl⟩ := h0
  have hobt := Rd_int Try.underlying25 g0
  obtain ⟨j0, rfl, v0⟩ := hobt
  have hobt := int_rd g1
  obtain ⟨j1, rfl, -⟩ := hobt
  have hobt := int_rd g2
  obtain ⟨j2, rfl, -⟩ := hobt
  have hobt := Rd_int Try.underlying26 g3
  obtain ⟨j3, rfl, v3⟩ := hobt
  have hobt := Rd_int Try.underlying26 g4
  obtain ⟨j4, rfl, v4⟩ := hobt
  have hobt := Rd_int Try.underlying26 g5
  obtain ⟨j5, rfl, v5⟩ := hobt
  have hobt := lit_u64 v0
  obtain ⟨m0, rfl, k0⟩ := hobt
  have hobt := lit_u32 v3
  obtain ⟨m3, rfl, k3⟩ := hobt
  have hobt := lit_u32 v4
  obtain ⟨m4, rfl, k4⟩ := hobt
  have hobt := lit_u32 v5
  obtain ⟨m5, rfl, k5⟩ := hobt
  have hobt := route_rd h1
  obtain ⟨a1, c1, l1, rfl, s1, -⟩ := hobt
  obtain ⟨a2, c2, l2, rfl, s2, -, -, -⟩ := Rd_slice (z := 2) (f := prE) (Q := fun _ => True) Try.underlying30 (by kernel_rfl) (by decide) (fun x => ⟨rfl, rfl⟩) (fun n cs h => by
    have hobt := pair_rd h
    obtain ⟨i, j, e, -, -⟩ := hobt
    exact ⟨(i, j), e, trivial⟩) h2
  have hobt := Rd_slice (z := 3) (f := Ow.enc) (Q := fun o => o.bw < 18446744073709551616) Try.underlying31 (by kernel_rfl) (by decide) (fun x => ⟨rfl, rfl⟩) (fun n cs h => own_rd h) h3
  obtain ⟨a3, c3, l3, rfl, s3, -, -, w3⟩ := hobt
  have hobt := int_rd h4
  obtain ⟨i4, rfl, -⟩ := hobt
  exact ⟨⟨⟨⟨m0, j1, j2, m3, m4, m5⟩, l1, l2, l3, i4⟩, a1, c1, a2, c2, a3, c3⟩, rfl, ⟨s1, s2, s3⟩, ⟨k0, k3, k4, k5⟩, w3⟩
theorem case_rd (h : Rd Try.prog A n 24 cs) : ∃ (i s t : Int) (a : Option Addr) (c : Nat) (l : List Adv), cs = [.int .i64 i, .slice a l.length c, .int .i64 s, .int .i64 t] ∧ Sl A 72 15 a (l.map Adv.enc) ∧ ∀ x ∈ l, x.wf := by
  have hobt := Rd_struct Try.underlying24 (by kernel_rfl) h
  obtain ⟨n', h⟩ := hobt
  simp only [RdS] at h
  obtain ⟨p0, _, rfl, h0, p1, _, rfl, h1, p2, _, rfl, h2, p3, _, rfl, h3, rfl⟩ := h
  have hobt := int_rd h0
  obtain ⟨i0, rfl, -⟩ := hobt
  have hobt := advs_rd h1
  obtain ⟨a, c, l, rfl, hl, hw⟩ := hobt
  have hobt := int_rd h2
  obtain ⟨i2, rfl, -⟩ := hobt
  have hobt := int_rd h3
  obtain ⟨i3, rfl, -⟩ := hobt
  exact ⟨i0, i2, i3, a, c, l, rfl, hl, hw⟩
end
end Go.Proofs.Ytiapgbhnbgccaaa.AC
