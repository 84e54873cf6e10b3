/-
  What the functions of the program, and those of the law, do.
-/
import Derived.Test.YtnlopamlmojbgaaGreatS1
import Derived.Test.YtnlopamlmojbgaaGreatP3
set_option linter.unusedSimpArgs false
set_option linter.unusedVariables false
/- The same adverts, the same question. -/
namespace Go.Proofs.YtnlopamlmojbgaaGreat.AC
open Go Go.AI Go.Proofs Go.Proofs.YtnlopamlmojbgaaGreat.AQ
set_option linter.unusedVariables false
theorem theirs15_ok {A : AH} (x : Adv) (hx : x.fr.length = 8) : ACall Tryz.prog 55 [.agg x.enc.toArray] A fun v A' => v = .agg x.enc.toArray ∧ Ext A A' := by
  obtain ⟨⟨f, t, c, m, g⟩, s, up, fr⟩ := x
  obtain ⟨f0, f1, f2, f3, f4, f5, f6, f7, rfl⟩ : ∃ f0 f1 f2 f3 f4 f5 f6 f7, fr = [f0, f1, f2, f3, f4, f5, f6, f7] := by
    match fr, hx with
    | [f0, f1, f2, f3, f4, f5, f6, f7], _ => exact ⟨_, _, _, _, _, _, _, _, rfl⟩
  refine code55.call (by simp) fun hwf => ?_
  unfold c55
  have hn : ¬ A.next = A.next + 1 := by omega
  simp [Adv.enc, Lk.enc, AH.get_alloc, AH.get_set]
  refine DN.of ⟨rfl, fun b hb => ?_⟩
  simp only [AH.get_alloc, AH.get_set, AH.next_alloc]
  rw [if_neg (by omega), if_neg (by omega), if_neg (by omega)]
theorem adverts_ok {A : AH} {al : Option Addr} {cl : Nat} {l : List Adv} (hl : Sl A 132 15 al (l.map Adv.enc)) (hx : ∀ x ∈ l, x.wf) (hn : l.length ≤ 1000) :
    ACall Tryz.prog 22 [.slice al l.length cl] A fun v A' => Ext A A' ∧ Own A.next A' 83 15 v (l.map Adv.enc) := by
  refine code22.call (by simp) fun hwf => ?_
  unfold c22
  simp
  refine LN.use (fun m E A' => ∃ (k : Nat) (u : Value), m + k = l.length ∧ Ext A A' ∧ A.next ≤ A'.next ∧ Own A.next A' 83 15 u ((l.take k).map Adv.enc) ∧ E.get 3 = u ∧ E.get 6 = .slice al l.length cl ∧ E.get 7 = .int .i64 l.length ∧ E.get 8 = .int .i64 k) l.length
    ⟨0, _, by omega, Ext.refl A, Nat.le_refl _, Own.nil _ _ _ _, by simp, by simp, by simp, by simp⟩ ?_
  rintro m E A1 hw1 hn1 ⟨k, u, hk, x1, n1, o1, E3, E6, E7, E8⟩
  by_cases hlt : k < l.length
  · have hlt' : (k : Int) < l.length := by omega
    have hgi : IntKind.i64.wrap ((k : Int) + 1) = ((k + 1 : Nat) : Int) := by rw [i64_in (by omega) (by omega)]; simp
    have hobt := (hl.ext hwf x1).at (i := k) (by simpa using hlt)
    obtain ⟨b, o, cs, q, rfl, g1, g2, g3⟩ := hobt
    rw [List.getElem_map] at g3
    have hxk := hx _ (List.getElem_mem hlt)
    have hobt := Adv.cells hxk.1
    obtain ⟨xl, xo, xt5, -⟩ := hobt
    have xo' := List.all_eq_true.1 xo
    have xt15 : List.take 15 l[k].enc = l[k].enc := List.take_of_length_le (by omega)
    have x2 := Ext.alloc A1 (.row l[k].enc 132 false)
    have hw2 := AH.wf_alloc hw1 (.row l[k].enc 132 false)
    simp [E6, E7, E8, hlt, hlt', g1, g2, g3, xl, xt15]
    refine ⟨xo', CN.use (theirs15_ok l[k] hxk.1) ?_⟩
    rintro _ A2 hw3 hn3 ⟨rfl, x3⟩
    simp only [AH.next_alloc] at hn3
    have o2 := (o1.ext hw1 x2).ext hw2 x3
    have x03 := (x1.trans (by omega) x2).trans (by simp; omega) x3
    have hobt := own_push o2 (y := 120) (r := l[k].enc) hw3 (by omega) ⟨xl, xo⟩ (by omega) (by omega) (by simp; omega)
    obtain ⟨u', A3, p1, p2, p3, p4⟩ := hobt
    have hobt := own_slm o2
    obtain ⟨a2, c2, rfl, -⟩ := hobt
    have hlk : (l.take k).length = k := by simp; omega
    rw [hlk] at E3 p1
    simp [E3, E8, xl, p1, hgi]
    refine NX.of ⟨m - 1, by omega, k + 1, u', by omega, fun c hc => by rw [p4 c (by omega), x03 c hc], by omega, ?_, by simp, by simp [E6], by simp [E7], by simp⟩
    rw [take_snoc hlt, List.map_append]; exact p2
  · have hlt' : ¬ (k : Int) < l.length := by omega
    rw [List.take_of_length_le (by omega)] at o1
    simp [E3, E7, E8, hlt']
    exact DN.of ⟨x1, o1⟩
def plK (p : Int × Int) : Value := .agg #[.int .i64 p.1, .int .i64 p.2]
theorem plK_ok : KeyOk Tryz.prog 190 plK := by
  refine ⟨fun A a b => ?_, fun a => ?_, by rw [Tryz.underlying190]; rfl, fun a => ?_⟩
  · obtain ⟨x, y⟩ := a
    obtain ⟨z, w⟩ := b
    unfold plK
    by_cases h1 : x = z
    · by_cases h2 : y = w
      · simp [h1, h2]
      · simp [h1, h2]
    · simp [h1]
  · unfold aKey plK
    rw [Tryz.underlying190]
    simp [aKeyAll, aKey, Tryz.underlying3]
  · simp [plK, eqFlat, eqCells, eqCell]
theorem QH.lt {A : AH} {qb : Nat} {ob : Option Nat} {L : List It} (h : QH A qb ob L) (hw : A.wf) : qb < A.next ∧ ∀ b, ob = some b → b < A.next := by
  have hobt := h.1
  obtain ⟨v, h1, h2, h3⟩ := hobt
  exact ⟨hw _ _ h1, fun b hb => h2.lt hw hb⟩
theorem QH.kept' {A A' : AH} {qb : Nat} {ob : Option Nat} {L : List It} (h : QH A qb ob L) (hw : A.wf) (hk : ∀ b, b < A.next → b = qb ∨ ob = some b → A'.get b = A.get b) : QH A' qb ob L := by
  have hobt := h.1
  obtain ⟨v, h1, h2, h3⟩ := hobt
  exact ⟨h.1.kept (hk qb (hw _ _ h1) (Or.inl rfl)) fun b hb => hk b (h2.lt hw hb) (Or.inr hb), h.2⟩
structure Wh where
  sp : Nat
  bb : Nat
  db : Nat
  qb : Nat
def Ap3 (n0 : Nat) (W : Wh) (ob : Option Nat) (b : Nat) : Prop := n0 ≤ b ∧ b ≠ W.sp ∧ b ≠ W.bb ∧ b ≠ W.db ∧ b ≠ W.qb ∧ ob ≠ some b
def WM (A : AH) (ap : Nat → Prop) (r : Value) (x : Wy) : Prop := ∃ b c, r = .agg #[.slice (some ⟨b, 0, none⟩) x.l.length c, .int .i64 x.c] ∧ A.get b = some (.row (ints x.l).flatten 3 false) ∧ ap b ∧ lcap x.l.length c ∧ x.l.length ≤ 1000
def K3 (A A' : AH) (W : Wh) (ob : Option Nat) : Prop := ∀ b, b < A.next → b ≠ W.bb → b ≠ W.db → b ≠ W.qb → ob ≠ some b → A'.get b = A.get b
theorem K3.refl (A : AH) (W : Wh) (ob : Option Nat) : K3 A A W ob := fun _ _ _ _ _ _ => rfl
theorem K3.ext {A A' : AH} (h : Ext A A') (W : Wh) (ob : Option Nat) : K3 A A' W ob := fun b h1 _ _ _ _ => h b h1
theorem K3.trans {A B C : AH} {W : Wh} {ob ob' : Option Nat} (h : K3 A B W ob) (hn : A.next ≤ B.next) (h' : K3 B C W ob') (ho : ob' = ob ∨ Fresh A.next ob') : K3 A C W ob := fun b h1 h2 h3 h4 h5 => (h' b (by omega) h2 h3 h4 (by
  rcases ho with rfl | ho
  · exact h5
  · intro e; have := ho b e; omega)).trans (h b h1 h2 h3 h4 h5)
theorem WM.kept {n0 : Nat} {W : Wh} {ob ob' : Option Nat} {A A' : AH} {r : Value} {x : Wy} (h : WM A (Ap3 n0 W ob) r x) (hw : A.wf) (hk : K3 A A' W ob) (ho : ob' = ob ∨ Fresh A.next ob') : WM A' (Ap3 n0 W ob') r x := by
  obtain ⟨b, c, h1, h2, ⟨p1, p2, p3, p4, p5, p6⟩, h4, h5⟩ := h
  have hb := hw _ _ h2
  refine ⟨b, c, h1, (hk b hb p3 p4 p5 p6).trans h2, ⟨p1, p2, p3, p4, p5, ?_⟩, h4, h5⟩
  rcases ho with rfl | ho
  · exact p6
  · intro e; have := ho b e; omega
structure S3 (n0 : Nat) (A : AH) (W : Wh) (ob : Option Nat) (H : Int) (a : Option Addr) (c : Nat) (ks : List Lk) (LB LD : List ((Int × Int) × Value)) (B : PB) (D : PD) (q : List It) : Prop where
  s : A.get W.sp = some (.row [.slice a ks.length c, .int .i64 H, .map (some W.bb), .map (some W.db), .pointer (some ⟨W.qb, 0, none⟩)] 180 false)
  bm : A.get W.bb = some (.mp (mpE plK LB))
  dm : A.get W.db = some (.mp (mpE plK LD))
  bw : ∀ v h, (mget LB (v, h) = none ∧ (B v h).c < 0) ∨ ∃ r, mget LB (v, h) = some r ∧ 0 ≤ (B v h).c ∧ WM A (Ap3 n0 W ob) r (B v h)
  dw : ∀ v h, mget LD (v, h) = if D v h = true then some (plK (v, h)) else none
  qh : QH A W.qb ob q
  lo : n0 ≤ W.sp ∧ n0 ≤ W.bb ∧ n0 ≤ W.db ∧ n0 ≤ W.qb ∧ Fresh n0 ob
  ne : W.sp ≠ W.bb ∧ W.sp ≠ W.db ∧ W.sp ≠ W.qb ∧ W.bb ≠ W.db ∧ W.bb ≠ W.qb ∧ W.db ≠ W.qb ∧ ob ≠ some W.sp ∧ ob ≠ some W.bb ∧ ob ≠ some W.db
section
variable {n0 : Nat} {A A' : AH} {W : Wh} {ob ob' : Option Nat} {H : Int} {a : Option Addr} {c : Nat} {ks : List Lk} {LB LD : List ((Int × Int) × Value)} {B : PB} {D : PD} {q : List It}
theorem S3.move (h : S3 n0 A W ob H a c ks LB LD B D q) (hw : A.wf) (hk : K3 A A' W ob) (ho : ob' = ob ∨ Fresh A.next ob') {LB' LD' : List ((Int × Int) × Value)} {B' : PB} {D' : PD} {q' : List It} (hbm : A'.get W.bb = some (.mp (mpE plK LB'))) (hdm : A'.get W.db = some (.mp (mpE plK LD')))
    (hbw : ∀ v g, (mget LB' (v, g) = mget LB (v, g) ∧ B' v g = B v g) ∨ ∃ r, mget LB' (v, g) = some r ∧ 0 ≤ (B' v g).c ∧ WM A' (Ap3 n0 W ob') r (B' v g)) (hdw : ∀ v g, mget LD' (v, g) = if D' v g = true then some (plK (v, g)) else none) (hq : QH A' W.qb ob' q') : S3 n0 A' W ob' H a c ks LB' LD' B' D' q' := by
  have hobt := h.lo
  obtain ⟨l1, l2, l3, l4, l5⟩ := hobt
  have hobt := h.ne
  obtain ⟨e1, e2, e3, e4, e5, e6, e7, e8, e9⟩ := hobt
  have hf : ∀ b, b < A.next → ob ≠ some b → ob' ≠ some b := fun b hb hne => by
    rcases ho with rfl | ho
    · exact hne
    · exact fun e => by have := ho _ e; omega
  refine ⟨(hk W.sp (hw _ _ h.s) e1 e2 e3 e7).trans h.s, hbm, hdm, fun v g => ?_, hdw, hq, ⟨l1, l2, l3, l4, ?_⟩, ⟨e1, e2, e3, e4, e5, e6, hf _ (hw _ _ h.s) e7, hf _ (hw _ _ h.bm) e8, hf _ (hw _ _ h.dm) e9⟩⟩
  · rcases hbw v g with ⟨h1, h2⟩ | h1
    · rw [h1, h2]
      rcases h.bw v g with h3 | ⟨r, h3, h4, h5⟩
      · exact Or.inl h3
      · exact Or.inr ⟨r, h3, h4, h5.kept hw hk ho⟩
    · exact Or.inr h1
  · rcases ho with rfl | ho
    · exact l5
    · exact fun b hb => by have := ho b hb; have := hw _ _ h.s; omega
theorem S3.ext (h : S3 n0 A W ob H a c ks LB LD B D q) (hw : A.wf) (hx : Ext A A') : S3 n0 A' W ob H a c ks LB LD B D q :=
  h.move hw (K3.ext hx _ _) (Or.inl rfl) ((hx _ (hw _ _ h.bm)).trans h.bm) ((hx _ (hw _ _ h.dm)).trans h.dm) (fun v g => Or.inl ⟨rfl, rfl⟩) h.dw (h.qh.ext hw hx)
theorem S3.ext0 {A0 : AH} (h : S3 n0 A W ob H a c ks LB LD B D q) (hn : A0.next = n0) (hx : Ext A0 A) (hn2 : A0.next ≤ A.next) (hk : K3 A A' W ob) : Ext A0 A' := fun b hb => by
  have := h.lo
  rw [hk b (by omega) (by omega) (by omega) (by omega) (fun e => by have := this.2.2.2.2 b e; omega), hx b hb]
def Offd2 (B B' : PB) (q q' : List It) (v g : Int) (l : List Int) (x : Int) : Prop := (tak2 B v g l x = true ∧ B' = upd2 B v g ⟨l, x, false⟩ ∧ q'.Perm (⟨x, g, v⟩ :: q)) ∨ (tak2 B v g l x = false ∧ B' = B ∧ q' = q)
set_option maxHeartbeats 1000000 in
theorem loffer_ok (h : S3 n0 A W ob H a c ks LB LD B D q) {v g : Int} {lb lc : Nat} {l : List Int} {x : Int} (hx0 : 0 ≤ x) (hlen : (l.length : Int) = g + 1) (hg0 : 0 ≤ g) (hlast : l.getLast? = some v) (hlb : A.get lb = some (.row (ints l).flatten 3 false)) (hap : Ap3 n0 W ob lb) (hlc : lcap l.length lc) (hl : l.length ≤ 1000) (hq : q.length < 1024) :
    ACall Tryz.prog 94 [.pointer (some ⟨W.sp, 0, none⟩), .agg #[.slice (some ⟨lb, 0, none⟩) l.length lc, .int .i64 x]] A fun _ A' => ∃ LB' B' q' ob', S3 n0 A' W ob' H a c ks LB' LD B' D q' ∧ Offd2 B B' q q' v g l x ∧ K3 A A' W ob ∧ (ob' = ob ∨ Fresh A.next ob') := by
  have hobt := h.ne
  obtain ⟨e1, e2, e3, e4, e5, e6, e7, e8, e9⟩ := hobt
  have hs := h.s
  have hbm := h.bm
  have hdm := h.dm
  have hsl : Sl A 3 1 (some ⟨lb, 0, none⟩) (ints l) := Sl.row (ints_rw l) hlb rfl
  obtain ⟨gn, rfl⟩ : ∃ gn : Nat, g = gn := ⟨g.toNat, by omega⟩
  have hgl : gn < l.length := by omega
  have hlv : l[gn] = v := by
    rw [List.getLast?_eq_getElem?, List.getElem?_eq_getElem (by omega)] at hlast
    injection hlast with hlast
    rw [← hlast]; congr 1; omega
  have hobt := hsl.one (Go.AI.ints_at (l := l) (i := gn) hgl)
  obtain ⟨b0, o0, cs0, q0, hb0, y1, y2⟩ := hobt
  injection hb0 with hb0
  injection hb0 with hb1 hb2 _
  subst hb1 hb2
  rw [hlv, Nat.zero_add] at y2
  have hwr : IntKind.i64.wrap ((l.length : Int) - 1) = (gn : Int) := by rw [i64_in (by omega) (by omega)]; omega
  have hlk : ∀ C : AH, C.get W.bb = A.get W.bb → aLookup Tryz.prog 175 (.map (some W.bb)) (.agg #[.int .i64 v, .int .i64 gn]) true C = some (.tuple #[(mget LB (v, (gn : Int))).getD (.agg #[.slice none 0 0, .int .i64 0]), .bool (mget LB (v, (gn : Int))).isSome]) := fun C hC => (lookup_mp plK_ok mo175 ze183 (hC.trans hbm) (v, (gn : Int))).1
  have hms : ∀ (C : AH) (r : Value), C.get W.bb = A.get W.bb → aMapSet Tryz.prog 175 (.map (some W.bb)) (.agg #[.int .i64 v, .int .i64 gn]) r C = some (C.set W.bb (.mp (mpE plK (mset LB (v, (gn : Int)) r)))) := fun C r hC => set_mp plK_ok mo175 (hC.trans hbm) (v, (gn : Int)) r
  have hno : ∀ {C : AH}, A.wf → Ext A C → tak2 B v gn l x = false → ∃ LB' B' q' ob', S3 n0 C W ob' H a c ks LB' LD B' D q' ∧ Offd2 B B' q q' v gn l x ∧ K3 A C W ob ∧ (ob' = ob ∨ Fresh A.next ob') := fun hwf hx ht => ⟨LB, B, q, ob, h.ext hwf hx, Or.inr ⟨ht, rfl, rfl⟩, K3.ext hx _ _, Or.inl rfl⟩
  have htake : A.wf → tak2 B v gn l x = true → ∀ C C1 : AH, C.wf → Ext A C → A.next ≤ C.next → C1 = C.set W.bb (.mp (mpE plK (mset LB (v, (gn : Int)) (.agg #[.slice (some ⟨lb, 0, none⟩) l.length lc, .int .i64 x])))) → QH C1 W.qb ob q ∧ ∀ A2 L' ob', QH A2 W.qb ob' L' → L'.Perm (⟨x, gn, v⟩ :: q) → Kn' C1 A2 W.qb ob ob' → ∃ LB' B' q' ob', S3 n0 A2 W ob' H a c ks LB' LD B' D q' ∧ Offd2 B B' q q' v gn l x ∧ K3 A A2 W ob ∧ (ob' = ob ∨ Fresh A.next ob') := by
    intro hwf ht C C1 hwC hxC hnC hC1
    have hqb := h.qh.lt hwf
    have hn := hwf _ _ hbm
    have hnd := hwf _ _ hdm
    have hqC : QH C W.qb ob q := h.qh.ext hwf hxC
    have hq1 : QH C1 W.qb ob q := by
      rw [hC1]
      refine hqC.kept' hwC fun b hb hq => ?_
      rw [AH.get_set, if_neg]
      rintro rfl
      rcases hq with hq | hq
      · exact e5 hq
      · exact e8 hq
    refine ⟨hq1, fun A2 L' ob' hq2 hp2 hk2 => ?_⟩
    have hC1n : C1.next = C.next := by rw [hC1]; rfl
    have hk : K3 A A2 W ob := fun b b1 b2 b3 b4 b5 => by
      rw [hk2.1 b (by omega) b4 b5, hC1, AH.get_set, if_neg b2, hxC b b1]
    have ho : ob' = ob ∨ Fresh A.next ob' := hk2.2.imp id fun hf b hb => by have := hf b hb; omega
    have hlbn := hwf _ _ hlb
    refine ⟨_, _, L', ob', h.move hwf hk ho (LB' := mset LB (v, (gn : Int)) (.agg #[.slice (some ⟨lb, 0, none⟩) l.length lc, .int .i64 x])) (LD' := LD) (B' := upd2 B v gn ⟨l, x, false⟩) (D' := D) ?_ ?_ (fun v' g' => ?_) h.dw hq2, Or.inl ⟨ht, rfl, hp2⟩, hk, ho⟩
    · rw [hk2.1 W.bb (by omega) e5 e8, hC1, AH.get_set, if_pos rfl]
    · rw [hk2.1 W.db (by omega) e6 e9, hC1, AH.get_set, if_neg (fun e => e4 e.symm), hxC _ hnd, hdm]
    · by_cases e : v' = v ∧ g' = gn
      · obtain ⟨rfl, rfl⟩ := e
        refine Or.inr ⟨_, by rw [mget_mset, if_pos rfl], by rw [upd2_at]; exact hx0, ?_⟩
        rw [upd2_at]
        refine ⟨lb, lc, rfl, (hk lb hlbn hap.2.2.1 hap.2.2.2.1 hap.2.2.2.2.1 hap.2.2.2.2.2).trans hlb, ⟨hap.1, hap.2.1, hap.2.2.1, hap.2.2.2.1, hap.2.2.2.2.1, ?_⟩, hlc, hl⟩
        rcases ho with rfl | ho
        · exact hap.2.2.2.2.2
        · intro e; have := ho _ e; omega
      · exact Or.inl ⟨by rw [mget_mset, if_neg fun hh => e ⟨congrArg Prod.fst hh, congrArg Prod.snd hh⟩], upd2_ne e⟩
  have hpush : A.wf → tak2 B v gn l x = true → ∀ C C1 : AH, C1 = C.set W.bb (.mp (mpE plK (mset LB (v, (gn : Int)) (.agg #[.slice (some ⟨lb, 0, none⟩) l.length lc, .int .i64 x])))) → C.wf → Ext A C → A.next ≤ C.next → ACall Tryz.prog 103 [.pointer (some ⟨W.qb, 0, none⟩), .agg #[.int .i64 x, .int .i64 gn, .int .i64 v]] C1 fun _ A2 => ∃ LB' B' q' ob', S3 n0 A2 W ob' H a c ks LB' LD B' D q' ∧ Offd2 B B' q q' v gn l x ∧ K3 A A2 W ob ∧ (ob' = ob ∨ Fresh A.next ob') := fun hwf ht C C1 hC hwC hxC hnC => by
    have hobt := htake hwf ht C C1 hwC hxC hnC hC
    obtain ⟨t1, t2⟩ := hobt
    refine ACall.mono (push_ok t1 ⟨x, gn, v⟩ hq) fun w A2 _ _ hr => ?_
    obtain ⟨L', ob', q1, q2, q3⟩ := hr
    exact t2 A2 L' ob' q1 q2 q3
  have hbw := h.bw v gn
  refine code94.call (by simp) fun hwf => ?_
  unfold c94
  have n1 := hwf _ _ hs
  have n2 := hwf _ _ hbm
  have n3 := hwf _ _ hlb
  have v1 : ¬ W.sp = A.next := by omega
  have v2 : ¬ W.bb = A.next := by omega
  have v3 : ¬ lb = A.next := by omega
  have v4 : ¬ W.sp = A.next + 1 := by omega
  have v5 : ¬ W.bb = A.next + 1 := by omega
  have v6 : ¬ W.sp = A.next + 1 + 1 := by omega
  have v7 : ¬ W.bb = A.next + 1 + 1 := by omega
  have v8 : ¬ A.next = W.bb := by omega
  have v9 : ¬ A.next + 1 = W.bb := by omega
  have v10 : ¬ A.next + 1 + 1 = W.bb := by omega
  simp [v1, v2, v3, v4, v5, hwr, hgl, y1, y2, hs, hlk, AH.get_set]
  have hone2 : ∀ (u : Value) (y : Int), oneB u = true → ∀ (i : Nat) (hi : i < 2), oneB ([u, Value.int .i64 y][i]'hi) = true := fun u y hu i hi => by
    match i, hi with
    | 0, _ => exact hu
    | 1, _ => rfl
  rcases hbw with ⟨k1, k2⟩ | ⟨r, k1, k2, k3⟩
  · have ht : tak2 B v gn l x = true := tak2_yes.2 (Or.inl k2)
    simp [k1]
    refine ⟨hone2 _ _ rfl, ?_⟩
    simp [v1, v2, v3, v4, v5, v6, v7, hs, hms, AH.get_set, e1, v8, v9]
    refine CN.use (hpush hwf ht _ _ rfl ?_ ?_ ?_) ?_
    · exact AH.wf_set (AH.wf_alloc (AH.wf_set (AH.wf_alloc (AH.wf_alloc hwf _) _) (by simp) _) _) (by simp) _
    · exact ((((Ext.alloc A _).app (by simp) _).setnew (by omega) _).app (by simp; omega) _).setnew (by omega) _
    · simp; omega
    · rintro _ A2 hw2 hn2 hr
      simp
      exact DN.of hr
  · obtain ⟨b1, c1, rfl, r1, r2, r3, r4⟩ := k3
    have hsl2 : Sl A 3 1 (some ⟨b1, 0, none⟩) (ints (B v gn).l) := Sl.row (ints_rw _) r1 rfl
    simp [k1]
    refine ⟨hone2 _ _ rfl, ?_⟩
    have x2 : Ext A (((((A.alloc (.row [.slice (some ⟨lb, 0, none⟩) l.length lc, .int .i64 x] 183 false)).alloc (.row [.int .i64 0, .int .i64 0] 190 false)).set (A.next + 1) (.row [.int .i64 v, .int .i64 gn] 190 false)).alloc (.row [.slice none 0 0, .int .i64 0] 183 false)).set (A.next + 1 + 1) (.row [.slice (some ⟨b1, 0, none⟩) (B v gn).l.length c1, .int .i64 (B v gn).c] 183 false)) := ((((Ext.alloc A _).app (by simp) _).setnew (by omega) _).app (by simp; omega) _).setnew (by omega) _
    refine CN.use (better_ok (c := lc) (c' := c1) (hsl.ext hwf x2) (hsl2.ext hwf x2) (by omega) (by omega) x (B v gn).c) ?_
    rintro _ _ - - ⟨rfl, rfl⟩
    cases hb : betB x l (B v gn).c (B v gn).l with
    | false =>
      simp [k1]
      exact DN.of (hno hwf x2 (tak2_no.2 ⟨k2, hb⟩))
    | true =>
      have ht : tak2 B v gn l x = true := tak2_yes.2 (Or.inr hb)
      simp [k1, v1, v2, v3, v4, v5, v6, v7, hs, hms, AH.get_set, e1, v8, v9]
      refine CN.use (hpush hwf ht _ _ rfl ?_ x2 ?_) ?_
      · exact AH.wf_set (AH.wf_alloc (AH.wf_set (AH.wf_alloc (AH.wf_alloc hwf _) _) (by simp) _) _) (by simp) _
      · simp; omega
      · rintro _ A2 hw2 hn2 hr
        simp
        exact DN.of hr
end
theorem LI.offd {n s H : Int} {ks : List Lk} {B B' : PB} {D : PD} {q q' : List It} {P : Nat → Prop} {ph : Int} (hg : goodN n ks) (h : LI n s ks H B D q P ph) {i : Nat} (hi : i < ks.length) (hu : D (lk ks i).f ph = true) (hmax : ∀ v g, D v g = true → (B v g).c ≤ (B (lk ks i).f ph).c) (hm : (lk ks i).t ∉ (B (lk ks i).f ph).l)
    (ho : Offd2 B B' q q' (lk ks i).t (ph + 1) ((B (lk ks i).f ph).l ++ [(lk ks i).t]) ((B (lk ks i).f ph).c + (lk ks i).m)) :
    LI n s ks H B' D q' (fun j => P j ∧ j ≠ i) ph ∧ (∀ v g, D v g = true → B' v g = B v g) ∧ q'.length ≤ q.length + 1 := by
  have hl := hg.link hi
  rcases ho with ⟨h1, rfl, h3⟩ | ⟨h1, rfl, rfl⟩
  · refine ⟨(h.take hg hi hu hmax hm h1 rfl rfl rfl).perm h3, fun v g hd => upd2_ne fun e => ?_, by rw [h3.length_eq]; simp⟩
    rw [e.1, e.2] at hd
    have h4 := (h.dn _ _ hd).1
    have h5 := hmax _ _ hd
    rcases tak2_yes.1 h1 with h6 | h6
    · omega
    · have := (leB.of_bet h6).cost
      omega
  · exact ⟨h.keep h1, fun v g _ => rfl, by omega⟩
theorem appW_more {A1 : AH} {b b' : Nat} {l : List Int} {x : Int} (hb : A1.get b = some (.row (ints l).flatten 3 false)) (hb' : A1.get b' = some (.row [.int .i64 x] 3 false)) (hl : l.length ≤ 1000) :
    appW 3 1 8 (.slice (some ⟨b, 0, none⟩) l.length l.length) (.slice (some ⟨b', 0, none⟩) 1 1) A1 = some (.slice (some ⟨A1.next, 0, none⟩) (l.length + 1) UNK, A1.alloc (.row (ints (l ++ [x])).flatten 3 false)) := by
  have h1 := (Sl.row (ints_rw l) hb rfl).first (c := l.length)
  have h2 := (Sl.row (ints_rw [x]) hb' (by simp [ints])).first (c := 1)
  simp only [ints_len] at h1
  have h2 : firstOf A1 1 1 (.slice (some ⟨b', 0, none⟩) 1 1) = some (ints [x]).flatten := h2
  rw [appW_out h2 (by decide) (by omega) (by omega) (by decide) (by unfold UNK; omega) (by omega) h1]
  simp [ints]
theorem chas_ok {A : AH} {a : Option Addr} {c : Nat} {l : List Int} (h : Sl A 3 1 a (ints l)) (hl : l.length ≤ 1000000) (x : Int) :
    ACall Tryz.prog 108 [.slice a l.length c, .int .i64 x] A fun v A' => v = .bool (hasL l x) ∧ A' = A := by
  refine code108.call (by simp) fun hwf => ?_
  unfold c108
  simp
  refine LN.use (fun m E A' => ∃ k : Nat, m + k = l.length ∧ A' = A ∧ E.get 1 = .int .i64 x ∧ E.get 7 = .slice a l.length c ∧ E.get 8 = .int .i64 l.length ∧ E.get 9 = .int .i64 k ∧ x ∉ l.take k) l.length
    ⟨0, by omega, rfl, by simp, by simp, by simp, by simp, by simp⟩ ?_
  rintro m E A1 hw1 hn1 ⟨k, hk, rfl, e1, e7, e8, e9, hno⟩
  by_cases hlt : k < l.length
  · have hlt' : (k : Int) < l.length := by omega
    have hobt := h.one (Go.AI.ints_at (l := l) (i := k) hlt)
    obtain ⟨b, o, cs, ro, ha, g1, g2⟩ := hobt
    subst ha
    have hi : IntKind.i64.wrap ((k : Int) + 1) = (k : Int) + 1 := i64_in (by omega) (by omega)
    by_cases hx : l[k] = x
    · simp [e1, e7, e8, e9, hlt, hlt', g1, g2, hx]
      exact DN.of ⟨by congr 1; symm; simp only [hasL, decide_eq_true_eq]; rw [← hx]; exact List.getElem_mem hlt, rfl⟩
    · simp [e1, e7, e8, e9, hlt, hlt', g1, g2, hx]
      refine NX.of ⟨m - 1, by omega, k + 1, by omega, rfl, by simp [e1], by simp [e7], by simp [e8], by simp [hi], ?_⟩
      rw [List.take_succ_eq_append_getElem hlt]
      simp only [List.mem_append, List.mem_singleton, not_or]
      exact ⟨hno, fun e => hx e.symm⟩
  · have hlt' : ¬ (k : Int) < l.length := by omega
    simp [e8, e9, hlt']
    rw [List.take_of_length_le (by omega)] at hno
    exact DN.of ⟨by simp [hasL, hno], rfl⟩
theorem outs_len {n : Int} {ks : List Lk} (hg : goodN n ks) (x : Int) : (outsN ks x ks.length).length < 20 := by
  have hnd : ((outsN ks x ks.length).map fun i => (lk ks i.toNat).t).Nodup := by
    unfold outsN
    rw [List.map_map]
    have hp : (List.filter (fun i => decide ((lk ks i).f = x)) (List.range ks.length)).Pairwise (· < ·) := List.Pairwise.filter _ List.pairwise_lt_range
    unfold List.Nodup
    rw [List.pairwise_map]
    refine List.Pairwise.imp_of_mem (fun {a b} ha hb hab => ?_) hp
    simp only [List.mem_filter, List.mem_range, decide_eq_true_eq] at ha hb
    intro e
    have e : (lk ks a).t = (lk ks b).t := e
    exact hg.2.2.2 b hb.1 (Or.inl ⟨a, hab, by rw [ha.2, hb.2], e⟩)
  have h := nodup_len n.toNat _ hnd fun y hy => by
    have hobt := List.mem_map.1 hy
    obtain ⟨i, hi, rfl⟩ := hobt
    have hobt := outsN_mem.1 hi
    obtain ⟨j, hj, rfl, -⟩ := hobt
    have := hg.link hj
    simp only [Int.toNat_natCast]
    omega
  rw [List.length_map] at h
  have := hg.2.1
  omega
section
variable {n0 : Nat} {A0 A : AH} {W : Wh} {ob : Option Nat} {Hn : Nat} {a : Option Addr} {c : Nat} {ks : List Lk} {LB LD : List ((Int × Int) × Value)} {B : PB} {D : PD} {q : List It} {n s ph : Int}
set_option maxHeartbeats 2000000 in
theorem lsettle_ok (hg : goodN n ks) (hs : 0 ≤ s ∧ s < n) (hHn : (Hn : Int) < n) (hn0 : A0.next = n0) (hw0 : A0.wf) (h0 : Sl A0 79 5 a (ks.map Lk.enc)) (hx0 : Ext A0 A) (hnx : A0.next ≤ A.next)
    (h : S3 n0 A W ob Hn a c ks LB LD B D q) (x : It) (hI : LI n s ks Hn B D (x :: q) (fun _ => False) ph) (hm : ∀ y ∈ x :: q, leI x y) (hlen : q.length + unH ks D Hn ≤ 1000) :
    ACall Tryz.prog 96 [.pointer (some ⟨W.sp, 0, none⟩), .agg #[.int .i64 x.n, .int .i64 x.h]] A fun _ A' => ∃ LB' LD' B' D' q' ob' ph', S3 n0 A' W ob' Hn a c ks LB' LD' B' D' q' ∧ LI n s ks Hn B' D' q' (fun _ => False) ph' ∧ q'.length + unH ks D' Hn ≤ q.length + unH ks D Hn ∧ K3 A A' W ob ∧ (ob' = ob ∨ Fresh A.next ob') := by
  have hobt := h.ne
  obtain ⟨e1, e2, e3, e4, e5, e6, e7, e8, e9⟩ := hobt
  have hgs := h.s
  have hbm := h.bm
  have hdm := h.dm
  have hdw := h.dw x.n x.h
  have hobt := hI.qin x List.mem_cons_self
  obtain ⟨qi1, qi2⟩ := hobt
  have hobt := hI.path _ _ qi1
  obtain ⟨pn0, pn1, ph0, phH, -, -, phl, -⟩ := hobt
  generalize hxn : x.n = v at *
  generalize hgn : x.h = g0 at *
  obtain ⟨gn, rfl⟩ : ∃ gn : Nat, g0 = gn := ⟨g0.toNat, by omega⟩
  have hlkd : ∀ C : AH, C.get W.db = A.get W.db → aLookup Tryz.prog 176 (.map (some W.db)) (.agg #[.int .i64 v, .int .i64 gn]) true C = some (.tuple #[(mget LD (v, (gn : Int))).getD (.agg #[.int .i64 0, .int .i64 0]), .bool (mget LD (v, (gn : Int))).isSome]) := fun C hC => (lookup_mp plK_ok mo176 ze190 (hC.trans hdm) (v, (gn : Int))).1
  have hmsd : ∀ (C : AH) (r : Value), C.get W.db = A.get W.db → aMapSet Tryz.prog 176 (.map (some W.db)) (.agg #[.int .i64 v, .int .i64 gn]) r C = some (C.set W.db (.mp (mpE plK (mset LD (v, (gn : Int)) r)))) := fun C r hC => set_mp plK_ok mo176 (hC.trans hdm) (v, (gn : Int)) r
  have hlkb : ∀ C : AH, C.get W.bb = A.get W.bb → aLookup Tryz.prog 175 (.map (some W.bb)) (.agg #[.int .i64 v, .int .i64 gn]) false C = some ((mget LB (v, (gn : Int))).getD (.agg #[.slice none 0 0, .int .i64 0])) := fun C hC => (lookup_mp plK_ok mo175 ze183 (hC.trans hbm) (v, (gn : Int))).2
  have hone2 : ∀ (u : Value) (y : Int), oneB u = true → ∀ (i : Nat) (hi : i < 2), oneB ([u, Value.int .i64 y][i]'hi) = true := fun u y hu i hi => by
    match i, hi with
    | 0, _ => exact hu
    | 1, _ => rfl
  cases hd : D v gn with
  | true =>
    rw [hd, if_pos rfl] at hdw
    unfold plK at hdw
    refine code96.call (by simp) fun hwf => ?_
    unfold c96
    have n1 := hwf _ _ hgs
    have n3 := hwf _ _ hdm
    have v1 : ¬ W.sp = A.next := by omega
    have v3 : ¬ W.db = A.next := by omega
    have v4 : ¬ W.sp = A.next + 1 := by omega
    have v6 : ¬ W.db = A.next + 1 := by omega
    have x2 : Ext A (((A.alloc (.row [.int .i64 v, .int .i64 gn] 190 false)).alloc (.row [.int .i64 0, .int .i64 0] 190 false)).set (A.next + 1) (.row [.int .i64 v, .int .i64 gn] 190 false)) := ((Ext.alloc A _).app (by simp) _).setnew (by omega) _
    simp [v1, v3, v4, v6, hgs, hlkd, hdw]
    exact DN.of ⟨LB, LD, B, D, q, ob, ph, h.ext hwf x2, hI.skip (by rw [hxn, hgn]; exact Or.inl hd), Nat.le_refl _, K3.ext x2 _ _, Or.inl rfl⟩
  | false =>
  rw [hd, if_neg (by simp)] at hdw
  by_cases hH : (Hn : Int) ≤ gn
  · refine code96.call (by simp) fun hwf => ?_
    unfold c96
    have n1 := hwf _ _ hgs
    have n3 := hwf _ _ hdm
    have v1 : ¬ W.sp = A.next := by omega
    have v3 : ¬ W.db = A.next := by omega
    have v4 : ¬ W.sp = A.next + 1 := by omega
    have v6 : ¬ W.db = A.next + 1 := by omega
    have hH' : Hn ≤ gn := by omega
    have x2 : Ext A (((A.alloc (.row [.int .i64 v, .int .i64 gn] 190 false)).alloc (.row [.int .i64 0, .int .i64 0] 190 false)).set (A.next + 1) (.row [.int .i64 0, .int .i64 0] 190 false)) := ((Ext.alloc A _).app (by simp) _).setnew (by omega) _
    simp [v1, v3, v4, v6, hgs, hlkd, hdw, hH, hH', AH.get_set]
    exact DN.of ⟨LB, LD, B, D, q, ob, ph, h.ext hwf x2, hI.skip (by rw [hxn, hgn]; exact Or.inr hH), Nat.le_refl _, K3.ext x2 _ _, Or.inl rfl⟩
  have hHlt : (gn : Int) < Hn := by omega
  have hH' : ¬ Hn ≤ gn := by omega
  have hwk := hI.path v gn qi1
  obtain ⟨-, -, -, -, wk1, wk2, wk3, -⟩ := hwk
  rcases h.bw v gn with ⟨-, k2⟩ | ⟨r, k1, k2, b1, c1, rfl, r1, r2, r3, r4⟩
  · omega
  refine code96.call (by simp) fun hwf => ?_
  unfold c96
  have n1 := hwf _ _ hgs
  have n2 := hwf _ _ hbm
  have n3 := hwf _ _ hdm
  have n4 := hwf _ _ r1
  have v1 : ¬ W.sp = A.next := by omega
  have v2 : ¬ W.bb = A.next := by omega
  have v3 : ¬ W.db = A.next := by omega
  have v4 : ¬ W.sp = A.next + 1 := by omega
  have v5 : ¬ W.bb = A.next + 1 := by omega
  have v6 : ¬ W.db = A.next + 1 := by omega
  have v7 : ¬ A.next = W.db := by omega
  have v8 : ¬ A.next + 1 = W.db := by omega
  have v9 : ¬ W.sp = A.next + 1 + 1 := by omega
  have v10 : ¬ A.next + 1 + 1 = W.db := by omega
  have v11 : ¬ W.bb = W.db := e4
  simp [v1, v2, v3, v4, v5, v6, v7, v8, v9, v10, v11, e2, hgs, hlkd, hdw, hmsd, hlkb, k1, hH, hH', AH.get_set]
  have k1' : K3 A ((((((A.alloc (.row [.int .i64 v, .int .i64 gn] 190 false)).alloc (.row [.int .i64 0, .int .i64 0] 190 false)).set (A.next + 1) (.row [.int .i64 0, .int .i64 0] 190 false)).set W.db (.mp (mpE plK (mset LD (v, (gn : Int)) (.agg #[.int .i64 v, .int .i64 gn]))))).alloc (.row [.slice none 0 0, .int .i64 0] 183 false)).set (A.next + 1 + 1) (.row [.slice (some ⟨b1, 0, none⟩) (B v gn).l.length c1, .int .i64 (B v gn).c] 183 false)) W ob := fun b b1 b2 b3 b4 b5 => by
    rw [AH.get_set, if_neg (by omega), AH.get_alloc, if_neg (by simp; omega), AH.get_set, if_neg b3, AH.get_set, if_neg (by omega), AH.get_alloc, if_neg (by simp; omega), AH.get_alloc, if_neg (by omega)]
  have hwS : (((((((A.alloc (.row [.int .i64 v, .int .i64 gn] 190 false)).alloc (.row [.int .i64 0, .int .i64 0] 190 false)).set (A.next + 1) (.row [.int .i64 0, .int .i64 0] 190 false)).set W.db (.mp (mpE plK (mset LD (v, (gn : Int)) (.agg #[.int .i64 v, .int .i64 gn]))))).alloc (.row [.slice none 0 0, .int .i64 0] 183 false)).set (A.next + 1 + 1) (.row [.slice (some ⟨b1, 0, none⟩) (B v gn).l.length c1, .int .i64 (B v gn).c] 183 false))).wf := AH.wf_set (AH.wf_alloc (AH.wf_set (AH.wf_set (AH.wf_alloc (AH.wf_alloc hwf _) _) (by simp) _) (by simp; omega) _) _) (by simp) _
  have s1 : S3 n0 ((((((A.alloc (.row [.int .i64 v, .int .i64 gn] 190 false)).alloc (.row [.int .i64 0, .int .i64 0] 190 false)).set (A.next + 1) (.row [.int .i64 0, .int .i64 0] 190 false)).set W.db (.mp (mpE plK (mset LD (v, (gn : Int)) (.agg #[.int .i64 v, .int .i64 gn]))))).alloc (.row [.slice none 0 0, .int .i64 0] 183 false)).set (A.next + 1 + 1) (.row [.slice (some ⟨b1, 0, none⟩) (B v gn).l.length c1, .int .i64 (B v gn).c] 183 false)) W ob Hn a c ks LB (mset LD (v, (gn : Int)) (plK (v, (gn : Int)))) B (don2 D v gn) q := by
    refine h.move hwf k1' (Or.inl rfl) ?_ ?_ (fun v' g' => Or.inl ⟨rfl, rfl⟩) (fun v' g' => ?_) ?_
    · rw [AH.get_set, if_neg (by omega), AH.get_alloc, if_neg (by simp; omega), AH.get_set, if_neg e4, AH.get_set, if_neg (by omega), AH.get_alloc, if_neg (by simp; omega), AH.get_alloc, if_neg (by omega)]
      exact hbm
    · rw [AH.get_set, if_neg (by omega), AH.get_alloc, if_neg (by simp; omega), AH.get_set, if_pos rfl]
      rfl
    · rw [mget_mset]
      by_cases e : v' = v ∧ g' = gn
      · obtain ⟨rfl, rfl⟩ := e
        rw [if_pos rfl, don2_at]; simp
      · rw [if_neg fun hh => e ⟨congrArg Prod.fst hh, congrArg Prod.snd hh⟩, don2_ne e]
        exact h.dw v' g'
    · have hqb := h.qh.lt hwf
      refine h.qh.kept' hwf fun b hb hq => ?_
      have h3 : b ≠ W.db := by
        rintro rfl
        rcases hq with hq | hq
        · exact e6 hq
        · exact e9 hq
      rw [AH.get_set, if_neg (by omega), AH.get_alloc, if_neg (by simp; omega), AH.get_set, if_neg h3, AH.get_set, if_neg (by omega), AH.get_alloc, if_neg (by simp; omega), AH.get_alloc, if_neg (by omega)]
  have rw1 : (((((((A.alloc (.row [.int .i64 v, .int .i64 gn] 190 false)).alloc (.row [.int .i64 0, .int .i64 0] 190 false)).set (A.next + 1) (.row [.int .i64 0, .int .i64 0] 190 false)).set W.db (.mp (mpE plK (mset LD (v, (gn : Int)) (.agg #[.int .i64 v, .int .i64 gn]))))).alloc (.row [.slice none 0 0, .int .i64 0] 183 false)).set (A.next + 1 + 1) (.row [.slice (some ⟨b1, 0, none⟩) (B v gn).l.length c1, .int .i64 (B v gn).c] 183 false))).get (A.next + 1 + 1) = some (.row [.slice (some ⟨b1, 0, none⟩) (B v gn).l.length c1, .int .i64 (B v gn).c] 183 false) := by rw [AH.get_set, if_pos rfl]
  have nS : (((((((A.alloc (.row [.int .i64 v, .int .i64 gn] 190 false)).alloc (.row [.int .i64 0, .int .i64 0] 190 false)).set (A.next + 1) (.row [.int .i64 0, .int .i64 0] 190 false)).set W.db (.mp (mpE plK (mset LD (v, (gn : Int)) (.agg #[.int .i64 v, .int .i64 gn]))))).alloc (.row [.slice none 0 0, .int .i64 0] 183 false)).set (A.next + 1 + 1) (.row [.slice (some ⟨b1, 0, none⟩) (B v gn).l.length c1, .int .i64 (B v gn).c] 183 false))).next = A.next + 3 := by simp
  have rb1 := (k1' b1 n4 r2.2.2.1 r2.2.2.2.1 r2.2.2.2.2.1 r2.2.2.2.2.2).trans r1
  generalize hA1 : ((((((A.alloc (.row [.int .i64 v, .int .i64 gn] 190 false)).alloc (.row [.int .i64 0, .int .i64 0] 190 false)).set (A.next + 1) (.row [.int .i64 0, .int .i64 0] 190 false)).set W.db (.mp (mpE plK (mset LD (v, (gn : Int)) (.agg #[.int .i64 v, .int .i64 gn]))))).alloc (.row [.slice none 0 0, .int .i64 0] 183 false)).set (A.next + 1 + 1) (.row [.slice (some ⟨b1, 0, none⟩) (B v gn).l.length c1, .int .i64 (B v gn).c] 183 false)) = A1 at k1' hwS s1 rw1 nS rb1
  have hobt := hI.settle (by rw [hxn, hgn]; exact hd) (by rw [hgn]; exact hHlt) hm
  obtain ⟨i1, m1⟩ := hobt
  rw [hxn, hgn] at i1 m1
  have hq0 := unH_don (ks := ks) hd Hn (by omega)
  have x1 := h.ext0 hn0 hx0 hnx k1'
  have hlk := h0.ext hw0 x1
  have hks64 := hg.2.2.1
  refine CN.use (outs_ok (c := c) hlk v (by omega) (outs_len hg v)) ?_
  rintro vL A2 hw2 hn2 ⟨ob2, L', hp, hq2, hf2, x2⟩
  have hobt := hq2.sl
  obtain ⟨aL, cL, rfl, hsl, hbl⟩ := hobt
  rw [ints_len] at hq2
  simp
  have s2 := s1.ext hwS x2
  have k2' := k1'.trans (by omega) (K3.ext x2 W ob) (Or.inl rfl)
  have hlen' := hp.length_eq
  have hqb := h.qh.lt hwf
  have rw2 := x2.get hwS rw1
  have rb2 := x2.get hwS rb1
  have x02 : Ext A0 A2 := x1.trans (by omega) x2
  refine LN.use (fun m E A' => ∃ (j : Nat) (ob3 : Option Nat) (LB3 : List ((Int × Int) × Value)) (B3 : PB) (q3 : List It), m + j = L'.length ∧ S3 n0 A' W ob3 Hn a c ks LB3 (mset LD (v, (gn : Int)) (plK (v, (gn : Int)))) B3 (don2 D v gn) q3 ∧ LI n s ks Hn B3 (don2 D v gn) q3 (fun i => (lk ks i).f = v ∧ (i : Int) ∈ L'.drop j) gn ∧ (∀ u g, don2 D v gn u g = true → B3 u g = B u g) ∧ q3.length ≤ q.length + j ∧ K3 A2 A' W ob ∧ (ob3 = ob ∨ Fresh A2.next ob3) ∧ A2.next ≤ A'.next ∧ E.get 0 = .pointer (some ⟨W.sp, 0, none⟩) ∧ E.get 6 = .pointer (some ⟨A.next + 1 + 1, 0, none⟩) ∧ E.get 47 = .slice aL L'.length cL ∧ E.get 48 = .int .i64 L'.length ∧ E.get 49 = .int .i64 j) L'.length
    ⟨0, ob, LB, B, q, by omega, s2, i1.weak (fun i hi g hfi => ⟨⟨hfi.1, by rw [List.drop_zero, hp.mem_iff]; exact outsN_mem.2 ⟨i, hi, rfl, hfi.1⟩⟩, hfi.2⟩), fun _ _ _ => rfl, by omega, K3.refl _ _ _, Or.inl rfl, Nat.le_refl _, by simp, by simp, by simp, by simp, by simp⟩ ?_
  rintro m E A3 hw3 hn3 ⟨j, ob3, LB3, B3, q3, hj, s3, i3, same3, l3, k3, f3, n3', E0, E6, E47, E48, E49⟩
  by_cases hlt : (j : Int) < L'.length
  rotate_left
  · obtain rfl : j = L'.length := by omega
    simp [E48, E49]
    refine DN.of ⟨LB3, _, B3, _, q3, ob3, gn, s3, i3.weak (fun i _ g hP => by have := hP.1.2; simp at this), by omega, k2'.trans (by omega) k3 (Or.inl rfl), ?_⟩
    exact f3.imp id fun f => fun b hb => by have := f b hb; omega
  have hlt' : j < L'.length := by omega
  have x03 := s2.ext0 hn0 x02 (by omega) k3
  have hlk3 := h0.ext hw0 x03
  have hsl3 : Sl A3 3 1 aL (ints L') := hsl.kept fun b o y ha hy => by
    have hb := (hbl b o ha).1
    have := hf2 b hb
    exact k3 b (hw2 _ _ hy) (by omega) (by omega) (by omega) (fun e => by have := hqb.2 b e; omega)
  have hobt := hsl3.one (Go.AI.ints_at hlt')
  obtain ⟨bj, oj, csj, qj, rfl, y1, y2⟩ := hobt
  have hobt := outsN_mem.1 (hp.mem_iff.1 (List.getElem_mem hlt'))
  obtain ⟨i0, hi0, hi0e, hif⟩ := hobt
  rw [hi0e] at y2
  have hobt := lks_at hlk3 hi0
  obtain ⟨bk, ok, csk, qk, rfl, z1, z2, z3, z4, z5, z6⟩ := hobt
  have rw3 := (k3 (A.next + 1 + 1) (by omega) (by omega) (by omega) (by omega) (fun e => by have := hqb.2 _ e; omega)).trans rw2
  have rb3 := (k3 b1 (by omega) r2.2.2.1 r2.2.2.2.1 r2.2.2.2.2.1 r2.2.2.2.2.2).trans rb2
  have hgl := hg.link hi0
  have hup := wk1.up hg
  have hln := nodup_len n.toNat _ wk2 fun y hy => by have := wk1.rng hg hs y hy; omega
  have hn16 := hg.2.1
  have hcs := wk1.cost hg
  have n3w := hw3 _ _ rw3
  have n3s := hw3 _ _ s3.s
  have n3k := hw3 _ _ z1
  have n3l := hw3 _ _ rb3
  have n3j := hw3 _ _ y1
  have w1 : ¬ bk = A3.next := by omega
  have w2 : ¬ A.next + 1 + 1 = A3.next := by omega
  have w3 : ¬ W.sp = A3.next := by omega
  have w4 : ¬ b1 = A3.next := by omega
  have w5 : ¬ A.next + 1 + 1 = A3.next + 1 := by omega
  have w6 : ¬ A.next + 1 + 1 = A3.next + 2 := by omega
  have w7 : ¬ A3.next = A3.next + 1 := by omega
  have w9 : ¬ A.next = A3.next := by omega
  have w10 : ¬ A.next + 1 = A3.next := by omega
  have w8 : ¬ A3.next = A3.next + 2 := by omega
  have lke : (lk ks i0).enc.length = 5 := rfl
  have lk0 : (lk ks i0).enc[1] = .int .i64 (lk ks i0).t := rfl
  have lk3 : (lk ks i0).enc[3] = .int .i64 (lk ks i0).m := rfl
  have hoc : ∀ y ∈ (lk ks i0).enc, oneB y = true := List.all_eq_true.1 (rfl : (lk ks i0).enc.all oneB = true)
  have hgs3 := s3.s
  have hwS3 : Sl A3 3 1 (some ⟨b1, 0, none⟩) (ints (B v gn).l) := Sl.row (ints_rw _) rb3 rfl
  have sl3 := fun C => slW_full (P := Tryz.prog) (z := 1) (b := b1) (k := .i64) (k' := .i64) (A := C) r3 (by unfold UNK; omega)
  have happ := appW_more (A1 := (A3.alloc (.row (lk ks i0).enc 79 false)).alloc (.row [.int .i64 (lk ks i0).t] 3 false)) (b := b1) (b' := A3.next + 1) (l := (B v gn).l) (x := (lk ks i0).t) (by rw [AH.get_alloc, if_neg (by simp; omega), AH.get_alloc, if_neg w4]; exact rb3) (by rw [AH.get_alloc, if_pos (by simp)]) (by omega)
  have hwr : IntKind.i64.wrap ((B v gn).c + (lk ks i0).m) = (B v gn).c + (lk ks i0).m := i64_in (by omega) (by omega)
  have hj1 : IntKind.i64.wrap ((j : Int) + 1) = ((j + 1 : Nat) : Int) := by rw [i64_in (by omega) (by omega)]; simp
  have hsm : B3 v gn = B v gn := same3 v gn (don2_at _ _ _)
  have hnext : ∀ i, i < ks.length → ∀ g, ((((lk ks i).f = v ∧ (i : Int) ∈ L'.drop j) ∧ i ≠ i0) ∧ g = (gn : Int)) → ((lk ks i).f = v ∧ (i : Int) ∈ L'.drop (j + 1)) ∧ g = (gn : Int) := fun i hi g hP => by
    obtain ⟨⟨⟨hP1, hP2⟩, hP3⟩, hP4⟩ := hP
    refine ⟨⟨hP1, ?_⟩, hP4⟩
    rw [List.drop_eq_getElem_cons hlt', List.mem_cons, hi0e] at hP2
    rcases hP2 with hP2 | hP2
    · omega
    · exact hP2
  have xl := Ext.alloc A3 (.row (lk ks i0).enc 79 false)
  simp [E0, E6, E47, E48, E49, hlt, hlt', y1, y2, hgs3, hi0, z1, z2, z3, lke, hoc, lk0, rw3, w1, w2, w3]
  refine ⟨hoc, ?_⟩
  refine CN.use (chas_ok (c := c1) (hwS3.ext hw3 xl) (by omega) (lk ks i0).t) ?_
  rintro _ A4 - - ⟨rfl, hA4⟩
  subst hA4
  cases hh : hasL (B v gn).l (lk ks i0).t with
  | true =>
    simp [E49, hj1]
    exact NX.of ⟨m - 1, by omega, j + 1, ob3, LB3, B3, q3, by omega, s3.ext hw3 xl, (i3.back (i := i0) (by rw [hif, hsm]; exact of_decide_eq_true hh)).weak hnext, same3, by omega, k3.trans (by omega) (K3.ext xl _ _) f3, f3, by simp; omega, by simp [E0], by simp [E6], by simp [E47], by simp [E48], by simp⟩
  | false =>
    have hnin := of_decide_eq_false hh
    simp [E0, E6, E47, E48, E49, rw3, w1, w2, w3, w4, w5, w6, w7, w8, w9, w10, lke, lk0, lk3, sl3, happ, hwr]
    have x4 : Ext A3 (((A3.alloc (.row (lk ks i0).enc 79 false)).alloc (.row [.int .i64 (lk ks i0).t] 3 false)).alloc (.row (ints ((B v gn).l ++ [(lk ks i0).t])).flatten 3 false)) := ((Ext.alloc A3 _).app (by simp) _).app (by simp; omega) _
    have s4 := s3.ext hw3 x4
    have hob3 := (s3.qh.lt hw3).2
    have hqb3 := (s3.qh.lt hw3).1
    have nb3 := hw3 _ _ s3.bm
    have nd3 := hw3 _ _ s3.dm
    have hql : q3.length < 1024 := by
      have h1 : unH ks (don2 D v gn) Hn + L'.length = unH ks D Hn := by rw [hlen']; exact hq0
      omega
    have hapl : Ap3 n0 W ob3 (A3.next + 1 + 1) := by
      have h1 := s3.lo
      refine ⟨by omega, by omega, by omega, by omega, by omega, fun e => ?_⟩
      have := hob3 _ e
      omega
    have hof := loffer_ok s4 (v := (lk ks i0).t) (g := (gn : Int) + 1) (lb := A3.next + 1 + 1) (lc := UNK) (l := (B v gn).l ++ [(lk ks i0).t]) (x := (B v gn).c + (lk ks i0).m) (by omega) (by simp; omega) (by omega) (by simp) (by rw [AH.get_alloc, if_pos (by simp)]) hapl (Or.inl rfl) (by simp; omega) hql
    simp only [List.length_append, List.length_singleton] at hof
    refine CN.use hof ?_
    rintro _ A5 hw5 hn5 ⟨LB5, B5, q5, ob5, s5, o5, k5, f5⟩
    simp only [AH.next_alloc] at hn5 f5
    have hobt := i3.offd hg hi0 (by rw [hif]; exact don2_at _ _ _) (fun u g hu => by rw [hif, hsm, same3 u g hu]; exact m1 u g hu) (by rw [hif, hsm]; exact hnin) (by rw [hif, hsm]; exact o5)
    obtain ⟨t1, t2, t3⟩ := hobt
    simp [E49, hj1]
    refine NX.of ⟨m - 1, by omega, j + 1, ob5, LB5, B5, q5, by omega, s5, t1.weak hnext, fun u g hu => by rw [t2 u g hu, same3 u g hu], by omega, ?_, ?_, by omega, by simp [E0], by simp [E6], by simp [E47], by simp [E48], by simp⟩
    · exact k3.trans (by omega) ((K3.ext x4 W ob3).trans (by simp; omega) k5 (Or.inl rfl)) f3
    · rcases f5 with rfl | f5
      · exact f3
      · exact Or.inr fun b hb => by have := f5 b hb; omega
end
theorem goodN_iff {n : Int} {ks : List Lk} : goodN n ks ↔ 1 ≤ n ∧ n ≤ 16 ∧ ks.length ≤ 64 ∧ (∀ x ∈ ks, 0 ≤ x.f ∧ x.f < n ∧ 0 ≤ x.t ∧ x.t < n ∧ x.f ≠ x.t ∧ 1 ≤ x.m ∧ x.m ≤ 65535) ∧ ks.Pairwise fun x y => ¬ (x.f = y.f ∧ x.t = y.t) := by
  constructor
  · intro h
    refine ⟨h.1, h.2.1, h.2.2.1, fun x hx => ?_, List.pairwise_iff_getElem.2 fun i j hi hj hij e => ?_⟩
    · obtain ⟨i, hi, rfl⟩ := List.getElem_of_mem hx
      have := h.link hi
      rw [lk_eq hi] at this
      exact this
    · refine h.2.2.2 j hj (Or.inl ⟨i, hij, ?_⟩)
      unfold same
      rw [lk_eq hi, lk_eq hj]; exact e
  · rintro ⟨h1, h2, h3, h4, h5⟩
    refine ⟨h1, h2, h3, fun k hk hb => ?_⟩
    have hr := h4 _ (List.getElem_mem hk)
    rw [← lk_eq hk] at hr
    rcases hb with ⟨j, hj, hs⟩ | hb
    · have := List.pairwise_iff_getElem.1 h5 j k (by omega) hk hj
      unfold same at hs
      rw [lk_eq (by omega), lk_eq hk] at hs
      exact this hs
    · omega
theorem goodN.sub {n : Int} {ks M : List Lk} (h : goodN n ks) (hs : M.Sublist ks) : goodN n M := by
  rw [goodN_iff] at h ⊢
  exact ⟨h.1, h.2.1, by have := hs.length_le; omega, fun x hx => h.2.2.2.1 x (hs.subset hx), h.2.2.2.2.sublist hs⟩
theorem fitL_sub (l : List Adv) (a : Ask) : (fitL l a).Sublist (l.map Adv.k) := (List.filter_sublist (p := fun x => fitB x a) (l := l)).map _
def hopsN (n hops : Int) : Nat := (if 0 < hops then (if hops < n - 1 then hops else n - 1) else n - 1).toNat
def goodF (n : Int) (l : List Adv) (a : Ask) (s t : Int) : Prop := goodN n (l.map Adv.k) ∧ (0 ≤ s ∧ s < n) ∧ (0 ≤ t ∧ t < n) ∧ s ≠ t ∧ rightB a.w = true ∧ 0 ≤ a.hops
def FndP (n : Int) (l : List Adv) (a : Ask) (s t e : Int) (r : List Int) (c : Int) : Prop :=
  (e = 2 ∧ ¬ goodF n l a s t ∧ r = [] ∧ c = 0) ∨ (goodF n l a s t ∧ ∃ x, BH n (fitL l a) s (hopsN n a.hops) t x ∧ ((e = 8 ∧ x.c < 0 ∧ r = [] ∧ c = 0) ∨ (e = 0 ∧ 0 ≤ x.c ∧ r = x.l ∧ c = x.c)))
theorem FndP.same {n : Int} {l : List Adv} {a : Ask} {s t e e' c c' : Int} {r r' : List Int} (h : FndP n l a s t e r c) (h' : FndP n l a s t e' r' c') : e = e' ∧ r = r' ∧ c = c' := by
  rcases h with ⟨h1, h2, h3, h4⟩ | ⟨h1, x, h3, h4⟩
  · rcases h' with ⟨g1, g2, g3, g4⟩ | ⟨g1, y, g3, g4⟩
    · exact ⟨by omega, by rw [h3, g3], by omega⟩
    · exact absurd g1 h2
  · rcases h' with ⟨g1, g2, g3, g4⟩ | ⟨g1, y, g3, g4⟩
    · exact absurd h1 g2
    · obtain ⟨k1, k2⟩ := h3.same g3
      rcases h4 with ⟨a1, a2, a3, a4⟩ | ⟨a1, a2, a3, a4⟩
      · rcases g4 with ⟨b1, b2, b3, b4⟩ | ⟨b1, b2, b3, b4⟩
        · exact ⟨by omega, by rw [a3, b3], by omega⟩
        · omega
      · rcases g4 with ⟨b1, b2, b3, b4⟩ | ⟨b1, b2, b3, b4⟩
        · omega
        · exact ⟨by omega, by rw [a3, b3, k2], by omega⟩
structure Pk (B : PB) (t : Int) (h : Int) (y : Wy) : Prop where
  from_ : 0 ≤ y.c → ∃ g, 1 ≤ g ∧ g < h ∧ y = B t g
  none : y.c < 0 → y.c = -1 ∧ y.l = []
  le : ∀ g, 1 ≤ g → g < h → 0 ≤ (B t g).c → 0 ≤ y.c ∧ leB y.c y.l (B t g).c (B t g).l
theorem Pk.done {n s H : Int} {ks : List Lk} {B : PB} {D : PD} {t : Int} {y : Wy} {Hn : Nat} {ph : Int} (hg : goodN n ks) (h : LI n s ks Hn B D [] (fun _ => False) ph) (hst : s ≠ t) (hp : Pk B t (Hn + 1) y) : BH n ks s Hn t y := by
  refine ⟨fun hc => ?_, hp.none, fun l c hw hl => ?_⟩
  · obtain ⟨g, g1, g2, rfl⟩ := hp.from_ hc
    have hobt := h.path _ _ hc
    obtain ⟨-, -, -, -, p5, p6, p7, -⟩ := hobt
    exact ⟨p5, p6, by omega⟩
  · obtain ⟨g, g1, g2, g3⟩ := h.done hg t l c hw (by omega)
    have hg1 : 1 ≤ (g : Int) := by
      by_cases e : g = 0
      · subst e
        have hobt := h.path _ _ g2
        obtain ⟨-, -, -, -, p5, -, p7, -⟩ := hobt
        have h0 := p5.head
        have h1 := p5.last
        match hl2 : (B t ((0 : Nat) : Int)).l, p7 with
        | [z], _ =>
          rw [hl2] at h0 h1
          simp at h0 h1
          exact absurd (h0.symm.trans h1) hst
      · omega
    have hobt := hp.le g hg1 (by omega) g2
    obtain ⟨h4, h5⟩ := hobt
    exact ⟨h4, h5.trans g3⟩
theorem Pk.no {B : PB} {t h : Int} {y : Wy} (hp : Pk B t h y) (hc : (B t h).c < 0) : Pk B t (h + 1) y :=
  ⟨fun h0 => by obtain ⟨g, g1, g2, g3⟩ := hp.from_ h0; exact ⟨g, g1, by omega, g3⟩, hp.none, fun g g1 g2 g3 => by
    by_cases e : g = h
    · subst e; omega
    · exact hp.le g g1 (by omega) g3⟩
theorem Pk.stay {B : PB} {t h : Int} {y : Wy} (hp : Pk B t h y) (h0 : 0 ≤ y.c) (hc : leB y.c y.l (B t h).c (B t h).l) : Pk B t (h + 1) y :=
  ⟨fun h0 => by obtain ⟨g, g1, g2, g3⟩ := hp.from_ h0; exact ⟨g, g1, by omega, g3⟩, hp.none, fun g g1 g2 g3 => by
    by_cases e : g = h
    · subst e; exact ⟨h0, hc⟩
    · exact hp.le g g1 (by omega) g3⟩
theorem Pk.take {B : PB} {t h : Int} {y : Wy} (hp : Pk B t h y) (h1 : 1 ≤ h) (h0 : 0 ≤ (B t h).c) (hc : y.c < 0 ∨ betB (B t h).c (B t h).l y.c y.l = true) : Pk B t (h + 1) (B t h) :=
  ⟨fun _ => ⟨h, h1, by omega, rfl⟩, fun h2 => by omega, fun g g1 g2 g3 => by
    by_cases e : g = h
    · subst e; exact ⟨h0, leB.refl _ _⟩
    · obtain ⟨h3, h4⟩ := hp.le g g1 (by omega) g3
      rcases hc with hc | hc
      · omega
      · exact ⟨h0, (leB.of_bet hc).trans h4⟩⟩
theorem lnext_ok {n0 : Nat} {A : AH} {W : Wh} {ob : Option Nat} {Hn : Nat} {a : Option Addr} {c : Nat} {ks : List Lk} {LB LD : List ((Int × Int) × Value)} {B : PB} {D : PD} {q : List It} {n s ph : Int} (h : S3 n0 A W ob Hn a c ks LB LD B D q) (hI : LI n s ks Hn B D q (fun _ => False) ph) (hl : q.length ≤ 100000) :
    ACall Tryz.prog 95 [.pointer (some ⟨W.qb, 0, none⟩)] A fun v A' => ∃ q' x e, v = .tuple #[.agg x.enc.toArray, .int .i64 e] ∧ S3 n0 A' W ob Hn a c ks LB LD B D q' ∧ K3 A A' W ob ∧ ((e = 8 ∧ q' = [] ∧ q = []) ∨ (e = 0 ∧ LI n s ks Hn B D (x :: q') (fun _ => False) ph ∧ (∀ y ∈ x :: q', leI x y) ∧ q.length = q'.length + 1)) := by
  refine ACall.wf fun hwf => ?_
  have hobt := h.ne
  obtain ⟨e1, e2, e3, e4, e5, e6, e7, e8, e9⟩ := hobt
  by_cases h0 : q = []
  · subst h0
    refine (pop_none h.qh).mono fun v A' h1 h2 h3 => ?_
    obtain ⟨rfl, hx⟩ := h3
    exact ⟨[], ⟨0, 0, 0⟩, 8, rfl, h.ext hwf hx, K3.ext hx _ _, Or.inl ⟨rfl, rfl, rfl⟩⟩
  · have hpos : 0 < q.length := List.length_pos_iff.2 h0
    refine (pop_ok h.qh hpos hl).mono fun v A' h1 h2 h3 => ?_
    obtain ⟨L', x, rfl, hq, hp, hm, hk⟩ := h3
    have hk' : K3 A A' W ob := fun b b1 _ _ b3 b4 => hk b b1 b3 b4
    refine ⟨L', x, 0, rfl, h.move hwf hk' (Or.inl rfl) ((hk _ (hwf _ _ h.bm) e5 e8).trans h.bm) ((hk _ (hwf _ _ h.dm) e6 e9).trans h.dm) (fun v g => Or.inl ⟨rfl, rfl⟩) h.dw hq, hk', Or.inr ⟨rfl, hI.perm hp.symm, fun y hy => hm y (hp.mem_iff.2 hy), by have := hp.length_eq; simpa using this⟩⟩
theorem fnode_ok {A : AH} {p : Nat} {n : Int} (hb : A.get p = some (.row [.int .i64 n] 3 false)) (x : Int) : ACall Tryz.prog 90 [.int .i64 x, .pointer (some ⟨p, 0, none⟩)] A fun v A' => v = .bool (decide (0 ≤ x ∧ x < n)) ∧ A' = A := by
  refine code90.call (by simp) fun hwf => ?_
  unfold c90
  simp
  by_cases h1 : 0 ≤ x
  · simp [h1, hb]
    exact DN.of ⟨by simp [h1], rfl⟩
  · simp [h1]
    exact DN.of ⟨by simp [h1], rfl⟩
theorem min_hops (n hops : Int) (hn : 1 ≤ n) : 0 < hops → (hopsN n hops : Int) = if hops < n - 1 then hops else n - 1 := fun h => by
  unfold hopsN; rw [if_pos h]; split <;> omega
theorem max_hops (n hops : Int) (hn : 1 ≤ n) : ¬ 0 < hops → (hopsN n hops : Int) = n - 1 := fun h => by
  unfold hopsN; rw [if_neg h]; omega
set_option maxHeartbeats 4000000 in
theorem cfind_ok {A : AH} {al : Option Addr} {cl : Nat} {l : List Adv} (hl : Sl A 83 15 al (l.map Adv.enc)) (hx : ∀ x ∈ l, x.wf) (hn : l.length ≤ 1000) (a : AskM) (h : a.ok A 192) (hw : a.q.wf) (n s t : Int) :
    ACall Tryz.prog 81 [.int .i64 n, .slice al l.length cl, .agg a.enc.toArray, .int .i64 s, .int .i64 t] A fun v A' => Ext A A' ∧ ∃ a' c' r x e, v = .tuple #[.slice a' r.length c', .int .i64 x, .int .i64 e] ∧ FndP n l a.q s t e r x ∧ Sl A' 3 1 a' (ints r) ∧ CapOk A' 3 a' r.length c' ∧ r.length ≤ 1000 ∧ ∀ b o, a' = some ⟨b, o, none⟩ → ∃ cs ro, A'.get b = some (.row cs 3 ro) := by
  have hobt := a.cells
  obtain ⟨ael, ao, at6, -, -, -, -, -, k9⟩ := hobt
  have at10 : List.take 10 a.enc = a.enc := List.take_of_length_le (by omega)
  have a9g : a.enc[9] = .int .i64 a.q.hops := rfl
  have goal : ∀ A' : AH, Ext A A' → ¬ goodF n l a.q s t → Ext A A' ∧ ∃ a' c' r x e, Value.tuple #[.slice none 0 0, .int .i64 0, .int .i64 2] = .tuple #[.slice a' r.length c', .int .i64 x, .int .i64 e] ∧ FndP n l a.q s t e r x ∧ Sl A' 3 1 a' (ints r) ∧ CapOk A' 3 a' r.length c' ∧ r.length ≤ 1000 ∧ ∀ b o, a' = some ⟨b, o, none⟩ → ∃ cs ro, A'.get b = some (.row cs 3 ro) := fun A' hx' hb => ⟨hx', none, 0, [], 0, 2, rfl, Or.inl ⟨rfl, hb, rfl, rfl⟩, Sl.nil Pla.no _ _ _, Or.inl ⟨by simp, by unfold UNK; omega⟩, by simp, fun b o e => by cases e⟩
  refine code81.call (by simp) fun hwf => ?_
  unfold c81
  have x0 : Ext A ((A.alloc (.row [.int .i64 n] 3 false)).alloc (.row a.enc 162 false)) := (Ext.alloc A _).app (by simp) _
  simp
  refine LN.use (fun m E A' => ∃ (k : Nat) (u : Value), m + k = l.length ∧ Ext A A' ∧ A.next + 2 ≤ A'.next ∧ A'.get A.next = some (.row [.int .i64 n] 3 false) ∧ A'.get (A.next + 1) = some (.row a.enc 162 false) ∧ Own (A.next + 2) A' 79 5 u (((l.take k).map Adv.k).map Lk.enc) ∧ E.get 1 = .slice al l.length cl ∧ E.get 3 = .int .i64 s ∧ E.get 4 = .int .i64 t ∧ E.get 5 = .pointer (some ⟨A.next, 0, none⟩) ∧ E.get 7 = .pointer (some ⟨A.next + 1, 0, none⟩) ∧ E.get 13 = u ∧ E.get 24 = .slice al l.length cl ∧ E.get 25 = .int .i64 l.length ∧ E.get 26 = .int .i64 k) l.length
    ⟨0, _, by omega, x0, by simp, by simp [AH.get_alloc], by simp [AH.get_alloc], Own.nil _ _ _ _, by simp, by simp, by simp, by simp, by simp, by simp, by simp, by simp, by simp⟩ ?_
  rintro m E A1 hw1 hn1 ⟨k, u, hk, x1, n1, r0, r1, o1, E1, E3, E4, E5, E7, E13, E24, E25, E26⟩
  by_cases hlt : k < l.length
  · have hlt' : (k : Int) < l.length := by omega
    have hgi : IntKind.i64.wrap ((k : Int) + 1) = ((k + 1 : Nat) : Int) := by rw [i64_in (by omega) (by omega)]; simp
    have hobt := (hl.ext hwf x1).at (i := k) (by simpa using hlt)
    obtain ⟨b, o, cs, q, rfl, g1, g2, g3⟩ := hobt
    rw [List.getElem_map] at g3
    have hxk := hx _ (List.getElem_mem hlt)
    have hobt := Adv.cells hxk.1
    obtain ⟨xl, xo, xt5, -⟩ := hobt
    have xo' := List.all_eq_true.1 xo
    have xt15 : List.take 15 l[k].enc = l[k].enc := List.take_of_length_le (by omega)
    have x2 := Ext.alloc A1 (.row l[k].enc 83 false)
    have hw2 := AH.wf_alloc hw1 (.row l[k].enc 83 false)
    have hobt := own_push (o1.ext hw1 x2) (y := 40) (r := l[k].k.enc) hw2 (by simp; omega) ⟨rfl, rfl⟩ (by omega) (by omega) (by simp; omega)
    obtain ⟨u', A3, p1, p2, p3, p4⟩ := hobt
    simp only [AH.next_alloc] at p1 p3
    have hobt := own_slm o1
    obtain ⟨a2, c2, rfl, -⟩ := hobt
    have kl : l[k].k.enc.length = 5 := rfl
    have ko : ∀ v ∈ l[k].k.enc, oneB v = true := List.all_eq_true.1 (rfl : l[k].k.enc.all oneB = true)
    have hlk : (List.map Adv.k (l.take k)).length = k := by simp; omega
    rw [hlk] at E13 p1
    have x02 := x1.trans (by omega) x2
    have r02 := x2.get hw1 r0
    have r12 := x2.get hw1 r1
    simp [E13, E24, E25, E26, hlt, hlt', g1, g2, g3, xl, xt15, xt5, kl, p1, hgi]
    refine ⟨xo', NX.of ⟨m - 1, by omega, k + 1, u', by omega, fun c hc => by rw [p4 c (by omega), x02 c hc], by omega, by rw [p4 _ (by omega)]; exact r02, by rw [p4 _ (by omega)]; exact r12, ?_, by simp [E1], by simp [E3], by simp [E4], by simp [E5], by simp [E7], by simp, by simp [E24], by simp [E25], by simp⟩⟩
    rw [take_snoc hlt, List.map_append, List.map_append]; exact p2
  have hlt' : ¬ (k : Int) < l.length := by omega
  rw [List.take_of_length_le (by omega)] at o1
  have hobt := own_slm o1
  obtain ⟨a2, c2, rfl, s2, f2, -⟩ := hobt
  simp [E5, E13, E25, E26, hlt', r0]
  have hck := check_ok (c := c2) s2 n
  rw [List.length_map] at hck
  refine CN.use hck ?_
  rintro _ A2 hw2 hn2 ⟨x2, r, rfl, hr⟩
  have r02 := x2.get hw1 r0
  have r12 := x2.get hw1 r1
  have x02 := x1.trans (by omega) x2
  by_cases b1 : r = 0
  rotate_left
  · have hbad : ¬ goodF n l a.q s t := fun hg => b1 (hr.zero.2 hg.1)
    simp [b1]
    exact DN.of (goal _ x02 hbad)
  have hgn := hr.zero.1 b1
  simp [b1, E3, E5]
  refine CN.use (fnode_ok r02 s) ?_
  rintro _ A2 - - ⟨rfl, rfl⟩
  by_cases b2 : 0 ≤ s ∧ s < n
  rotate_left
  · have hbad : ¬ goodF n l a.q s t := fun hg => b2 hg.2.1
    simp [b2]
    exact DN.of (goal _ x02 hbad)
  simp [b2, E4, E5]
  refine CN.use (fnode_ok r02 t) ?_
  rintro _ A2 - - ⟨rfl, rfl⟩
  by_cases b3 : 0 ≤ t ∧ t < n
  rotate_left
  · have hbad : ¬ goodF n l a.q s t := fun hg => b3 hg.2.2.1
    simp [b2, b3]
    exact DN.of (goal _ x02 hbad)
  by_cases b4 : s = t
  · have hbad : ¬ goodF n l a.q s t := fun hg => hg.2.2.2.1 b4
    simp [b2, b3, b4, E3, E4]
    exact DN.of (goal _ x02 hbad)
  simp [b2, b3, b4, E3, E4, E7, r12, ael, at6]
  refine CN.use (right_ok a.q.w _) ?_
  rintro _ A3 hw3 hn3 ⟨rfl, x3⟩
  have r03 := x3.get hw2 r02
  have r13 := x3.get hw2 r12
  have x03 := x02.trans (by omega) x3
  cases b5 : rightB a.q.w with
  | false =>
    have hbad : ¬ goodF n l a.q s t := fun hg => by rw [hg.2.2.2.2.1] at b5; cases b5
    simp [b2, b3, b4]
    exact DN.of (goal _ x03 hbad)
  | true =>
  by_cases b6 : a.q.hops < 0
  · have hbad : ¬ goodF n l a.q s t := fun hg => by have := hg.2.2.2.2.2; omega
    simp [b2, b3, b4, E7, r13, ael, a9g, b6]
    exact DN.of (goal _ x03 hbad)
  have hgood : goodF n l a.q s t := ⟨hgn, b2, b3, b4, b5, by omega⟩
  simp [b2, b3, b4, E1, E5, E7, r03, r13, ael, a9g, b6, at10]
  refine CN.use (plinks_ok (hl.ext hwf x03) hx hn a (h.ext hwf x03) hw) ?_
  rintro vL A4 hw4 hn4 ⟨x4, o4⟩
  have hobt := own_slm o4
  obtain ⟨aL, cL, rfl, sL, fL, -⟩ := hobt
  have r04 := x4.get hw3 r03
  have r14 := x4.get hw3 r13
  have x04 := x03.trans (by omega) x4
  have hn1' := hgn.1
  have hn16 := hgn.2.1
  have hwn : IntKind.i64.wrap (n - 1) = n - 1 := i64_in (by omega) (by omega)
  have hgk : goodN n (fitL l a.q) := hgn.sub (fitL_sub l a.q)
  simp [r04, hwn, E5]
  refine CN.use (qnew_ok A4) ?_
  rintro _ A5 hw5 hn5 ⟨rfl, q5, x5⟩
  have hq5 := (q5.lt hw5).1
  have r05 := x5.get hw4 r04
  have r15 := x5.get hw4 r14
  have n05 := hw5 _ _ r05
  have n15 := hw5 _ _ r15
  have w1 : ¬ A.next + 1 = A5.next := by omega
  have w2 : ¬ A.next + 1 = A5.next + 1 := by omega
  have w3 : ¬ A.next + 1 = A5.next + 1 + 1 := by omega
  have w4 : ¬ A.next = A5.next := by omega
  have w5 : ¬ A.next = A5.next + 1 := by omega
  simp [E3, E5, E7, r05, r15, w1, w2, w3, w4, w5, ael, a9g, hwn]
  -- TAIL
  split
  · rename_i b7
    have hwH : (((((A5.alloc (.mp [])).alloc (.mp [])).alloc (.row [.slice aL (fitL l a.q).length cL, .int .i64 (n - 1), .map (some A5.next), .map (some (A5.next + 1)), .pointer (some ⟨A4.next, 0, none⟩)] 180 false)).set (A5.next + 1 + 1) (.row [.slice aL (fitL l a.q).length cL, .int .i64 (if a.q.hops < n - 1 then a.q.hops else n - 1), .map (some A5.next), .map (some (A5.next + 1)), .pointer (some ⟨A4.next, 0, none⟩)] 180 false))).wf := AH.wf_set (AH.wf_alloc (AH.wf_alloc (AH.wf_alloc hw5 _) _) _) (by simp) _
    have xH : Ext A4 ((((A5.alloc (.mp [])).alloc (.mp [])).alloc (.row [.slice aL (fitL l a.q).length cL, .int .i64 (n - 1), .map (some A5.next), .map (some (A5.next + 1)), .pointer (some ⟨A4.next, 0, none⟩)] 180 false)).set (A5.next + 1 + 1) (.row [.slice aL (fitL l a.q).length cL, .int .i64 (if a.q.hops < n - 1 then a.q.hops else n - 1), .map (some A5.next), .map (some (A5.next + 1)), .pointer (some ⟨A4.next, 0, none⟩)] 180 false)) := (((((x5.app (by omega) _).app (by simp; omega) _).app (by simp; omega) _)).setnew (by omega) _)
    have xq : Ext A5 ((((A5.alloc (.mp [])).alloc (.mp [])).alloc (.row [.slice aL (fitL l a.q).length cL, .int .i64 (n - 1), .map (some A5.next), .map (some (A5.next + 1)), .pointer (some ⟨A4.next, 0, none⟩)] 180 false)).set (A5.next + 1 + 1) (.row [.slice aL (fitL l a.q).length cL, .int .i64 (if a.q.hops < n - 1 then a.q.hops else n - 1), .map (some A5.next), .map (some (A5.next + 1)), .pointer (some ⟨A4.next, 0, none⟩)] 180 false)) := ((((Ext.alloc A5 _).app (by simp) _).app (by simp; omega) _).setnew (by omega) _)
    have nH : (((((A5.alloc (.mp [])).alloc (.mp [])).alloc (.row [.slice aL (fitL l a.q).length cL, .int .i64 (n - 1), .map (some A5.next), .map (some (A5.next + 1)), .pointer (some ⟨A4.next, 0, none⟩)] 180 false)).set (A5.next + 1 + 1) (.row [.slice aL (fitL l a.q).length cL, .int .i64 (if a.q.hops < n - 1 then a.q.hops else n - 1), .map (some A5.next), .map (some (A5.next + 1)), .pointer (some ⟨A4.next, 0, none⟩)] 180 false))).next = A5.next + 3 := by simp
    have gS : (((((A5.alloc (.mp [])).alloc (.mp [])).alloc (.row [.slice aL (fitL l a.q).length cL, .int .i64 (n - 1), .map (some A5.next), .map (some (A5.next + 1)), .pointer (some ⟨A4.next, 0, none⟩)] 180 false)).set (A5.next + 1 + 1) (.row [.slice aL (fitL l a.q).length cL, .int .i64 (if a.q.hops < n - 1 then a.q.hops else n - 1), .map (some A5.next), .map (some (A5.next + 1)), .pointer (some ⟨A4.next, 0, none⟩)] 180 false))).get (A5.next + 1 + 1) = some (.row [.slice aL (fitL l a.q).length cL, .int .i64 (hopsN n a.q.hops : Nat), .map (some A5.next), .map (some (A5.next + 1)), .pointer (some ⟨A4.next, 0, none⟩)] 180 false) := by rw [AH.get_set, if_pos rfl, min_hops n a.q.hops hn1' b7]
    have gB : (((((A5.alloc (.mp [])).alloc (.mp [])).alloc (.row [.slice aL (fitL l a.q).length cL, .int .i64 (n - 1), .map (some A5.next), .map (some (A5.next + 1)), .pointer (some ⟨A4.next, 0, none⟩)] 180 false)).set (A5.next + 1 + 1) (.row [.slice aL (fitL l a.q).length cL, .int .i64 (if a.q.hops < n - 1 then a.q.hops else n - 1), .map (some A5.next), .map (some (A5.next + 1)), .pointer (some ⟨A4.next, 0, none⟩)] 180 false))).get A5.next = some (.mp []) := by rw [AH.get_set, if_neg (by omega), AH.get_alloc, if_neg (by simp <;> omega), AH.get_alloc, if_neg (by simp), AH.get_alloc, if_pos rfl]
    have gD : (((((A5.alloc (.mp [])).alloc (.mp [])).alloc (.row [.slice aL (fitL l a.q).length cL, .int .i64 (n - 1), .map (some A5.next), .map (some (A5.next + 1)), .pointer (some ⟨A4.next, 0, none⟩)] 180 false)).set (A5.next + 1 + 1) (.row [.slice aL (fitL l a.q).length cL, .int .i64 (if a.q.hops < n - 1 then a.q.hops else n - 1), .map (some A5.next), .map (some (A5.next + 1)), .pointer (some ⟨A4.next, 0, none⟩)] 180 false))).get (A5.next + 1) = some (.mp []) := by rw [AH.get_set, if_neg (by omega), AH.get_alloc, if_neg (by simp), AH.get_alloc, if_pos (by simp)]
    have s6 : S3 A4.next ((((A5.alloc (.mp [])).alloc (.mp [])).alloc (.row [.slice aL (fitL l a.q).length cL, .int .i64 (n - 1), .map (some A5.next), .map (some (A5.next + 1)), .pointer (some ⟨A4.next, 0, none⟩)] 180 false)).set (A5.next + 1 + 1) (.row [.slice aL (fitL l a.q).length cL, .int .i64 (if a.q.hops < n - 1 then a.q.hops else n - 1), .map (some A5.next), .map (some (A5.next + 1)), .pointer (some ⟨A4.next, 0, none⟩)] 180 false)) ⟨A5.next + 1 + 1, A5.next, A5.next + 1, A4.next⟩ none (hopsN n a.q.hops) aL cL (fitL l a.q) [] [] b0 (fun _ _ => false) [] :=
      ⟨gS, gB, gD, fun v g => Or.inl ⟨rfl, by simp [b0]⟩, fun v g => by simp [mget], q5.ext hw5 xq, ⟨by dsimp only; try omega, by dsimp only; try omega, by dsimp only; try omega, by dsimp only; try omega, Fresh.no _⟩, ⟨by dsimp only; try omega, by dsimp only; try omega, by dsimp only; try omega, by dsimp only; try omega, by dsimp only; try omega, by dsimp only; try omega, by simp, by simp, by simp⟩⟩
    have hof := loffer_ok (s6.ext hwH (Ext.alloc _ (.row [.int .i64 s] 3 false))) (v := s) (g := 0) (lb := A5.next + 1 + 1 + 1) (lc := 1) (l := [s]) (x := 0) (by omega) (by simp) (by omega) (by simp) (by rw [AH.get_alloc, if_pos (by simp)]; rfl) ⟨by omega, by simp, by simp only []; omega, by simp only []; omega, by simp only []; omega, by simp⟩ (Or.inr ⟨by simp, by unfold UNK; omega⟩) (by simp) (by simp)
    simp only [List.length_singleton] at hof
    refine CN.use hof ?_
    rintro _ A7 hw7 hn7 ⟨LB7, B7, q7, ob7, s7, o7, k7, f7⟩
    have hB7 : B7 = upd2 b0 s 0 ⟨[s], 0, false⟩ ∧ q7.Perm [⟨0, 0, s⟩] := by
      rcases o7 with ⟨-, h1, h2⟩ | ⟨h1, -⟩
      · exact ⟨h1, h2⟩
      · simp [tak2, b0] at h1
    have i7 : LI n s (fitL l a.q) (hopsN n a.q.hops) B7 (fun _ _ => false) q7 (fun _ => False) 0 := by
      rw [hB7.1]
      exact (LI.start b2 (by omega) (x := ⟨0, 0, s⟩) ⟨rfl, rfl, rfl⟩).perm hB7.2
    have hl7 : q7.length = 1 := by rw [hB7.2.length_eq]; rfl
    have hHn : (hopsN n a.q.hops : Int) < n ∧ hopsN n a.q.hops ≤ 15 := by unfold hopsN; split <;> (try split) <;> omega
    have hks := hgk.2.2.1
    have hu7 : unH (fitL l a.q) (fun _ _ => false) (hopsN n a.q.hops) ≤ 960 := Nat.le_trans (unH_le _) (Nat.mul_le_mul hHn.2 hks)
    have hnx7 : A4.next ≤ A7.next := by simp only [AH.next_alloc] at hn7; omega
    have x7 : Ext A4 A7 := (s6.ext hwH (Ext.alloc _ (.row [.int .i64 s] 3 false))).ext0 rfl (xH.app (by omega) _) (by simp only [AH.next_alloc]; omega) k7
    clear hof o7 k7
    simp
    refine LN.use (fun m E A' => ∃ (LB LD : List ((Int × Int) × Value)) (B : PB) (D : PD) (q : List It) (ob : Option Nat) (ph : Int), m = q.length + unH (fitL l a.q) D (hopsN n a.q.hops) ∧ m ≤ 1000 ∧ S3 A4.next A' ⟨A5.next + 1 + 1, A5.next, A5.next + 1, A4.next⟩ ob (hopsN n a.q.hops) aL cL (fitL l a.q) LB LD B D q ∧ LI n s (fitL l a.q) (hopsN n a.q.hops) B D q (fun _ => False) ph ∧ Ext A4 A' ∧ A4.next ≤ A'.next ∧ E.get 4 = .int .i64 t ∧ E.get 17 = .pointer (some ⟨A5.next + 1 + 1, 0, none⟩)) (q7.length + unH (fitL l a.q) (fun _ _ => false) (hopsN n a.q.hops))
      ⟨LB7, [], B7, _, q7, ob7, 0, rfl, by omega, s7, i7, x7, hnx7, by simp [E4], by simp⟩ ?_
    clear hl7 hB7 hu7 i7 s7 x7 hnx7 s6 gS gB gD xH xq hwH nH
    rintro m E A8 hw8 hn8 ⟨LB, LD, B, D, q, ob, ph, hm, hm2, s8, i8, x8, n8, E4', E17⟩
    have hgs8 := s8.s
    dsimp only at hgs8
    simp [E17, hgs8]
    refine CN.use (lnext_ok s8 i8 (by omega)) ?_
    rintro _ A9 hw9 hn9 ⟨q9, x, e, rfl, s9, k9', hc9⟩
    have x9 := s8.ext0 rfl x8 n8 k9'
    have xl : x.enc.length = 3 := rfl
    have xo : ∀ y ∈ x.enc, oneB y = true := List.all_eq_true.1 (rfl : x.enc.all oneB = true)
    have xe2 : x.enc[2] = .int .i64 x.n := rfl
    have xe1 : x.enc[1] = .int .i64 x.h := rfl
    have s10 := s9.ext hw9 (Ext.alloc A9 (.row x.enc 185 false))
    have x10 : Ext A4 (A9.alloc (.row x.enc 185 false)) := x9.app (by omega) _
    simp [xl]
    refine ⟨xo, ?_⟩
    rcases hc9 with ⟨rfl, rfl, rfl⟩ | ⟨rfl, h2, h3, h4⟩
    rotate_left
    · simp [E17, xl, xe1, xe2]
      refine CN.use (lsettle_ok hgk b2 hHn.1 rfl hw4 sL x10 (by simp; omega) s10 x h2 h3 (by omega)) ?_
      rintro _ A11 hw11 hn11 ⟨LB', LD', B', D', q', ob', ph', s11, i11, l11, k11, f11⟩
      have x11 := s10.ext0 rfl x10 (by simp; omega) k11
      simp only [AH.next_alloc] at hn11
      simp
      exact NX.of ⟨_, by omega, LB', LD', B', D', q', ob', ph', rfl, by omega, s11, i11, x11, by omega, by simp [E4'], by simp [E17]⟩
    simp
    have hxf : Ext A9 (((A9.alloc (.row x.enc 185 false)).alloc (.row [.slice none 0 0, .int .i64 0] 183 false)).set (A9.next + 1) (.row [.slice none 0 0, .int .i64 (-1)] 183 false)) := ((Ext.alloc A9 _).app (by simp) _).setnew (by omega) _
    refine LN.use (fun m E A' => ∃ (k : Nat) (y : Wy) (v : Value), m + k = hopsN n a.q.hops + 1 ∧ 1 ≤ k ∧ Ext A9 A' ∧ A9.next + 2 ≤ A'.next ∧ A'.get (A9.next + 1) = some (.row [v, .int .i64 y.c] 183 false) ∧ Pk B t k y ∧ ((y.c < 0 ∧ v = .slice none 0 0) ∨ (0 ≤ y.c ∧ ∃ b c, v = .slice (some ⟨b, 0, none⟩) y.l.length c ∧ A9.get b = some (.row (ints y.l).flatten 3 false) ∧ lcap y.l.length c ∧ y.l.length ≤ 1000)) ∧ E.get 4 = .int .i64 t ∧ E.get 17 = .pointer (some ⟨A5.next + 1 + 1, 0, none⟩) ∧ E.get 20 = .pointer (some ⟨A9.next + 1, 0, none⟩) ∧ E.get 21 = .int .i64 k) (hopsN n a.q.hops)
      ⟨1, ⟨[], -1, false⟩, _, by omega, Nat.le_refl _, hxf, by simp, by rw [AH.get_set, if_pos rfl], ⟨fun h => by simp at h, fun _ => ⟨rfl, rfl⟩, fun g g1 g2 => by omega⟩, Or.inl ⟨by simp, rfl⟩, by simp [E4'], by simp [E17], by simp, by simp⟩ ?_
    clear hxf E4' E17 s10 x10
    rintro m E A11 hw11 hn11 ⟨k, y, v, hk, hk1, x11, n11, g11, pk, hv, E4', E17, E20, E21⟩
    have s11 := s9.ext hw9 x11
    have hgs11 := s11.s
    have hbm11 := s11.bm
    dsimp only at hgs11 hbm11
    have hbw := s9.bw t k
    have nsp := hw11 _ _ hgs11
    have nbb := hw11 _ _ hbm11
    have hone : oneB v = true := by rcases hv with ⟨-, rfl⟩ | ⟨-, b, c, rfl, -⟩ <;> rfl
    have hvc : v.cells = #[v] := oneB_cells hone
    by_cases hlt : k ≤ hopsN n a.q.hops
    · have hlt' : (k : Int) ≤ (hopsN n a.q.hops : Nat) := by omega
      have hgi : IntKind.i64.wrap ((k : Int) + 1) = ((k + 1 : Nat) : Int) := by rw [i64_in (by omega) (by omega)]; simp
      have hlk : aLookup Tryz.prog 175 (.map (some A5.next)) (.agg #[.int .i64 t, .int .i64 k]) true A11 = some (.tuple #[(mget LB (t, (k : Int))).getD (.agg #[.slice none 0 0, .int .i64 0]), .bool (mget LB (t, (k : Int))).isSome]) := (lookup_mp plK_ok mo175 ze183 hbm11 (t, (k : Int))).1
      have hone2 : ∀ (u : Value) (y : Int), oneB u = true → ∀ (i : Nat) (hi : i < 2), oneB ([u, Value.int .i64 y][i]'hi) = true := fun u y hu i hi => by
        match i, hi with
        | 0, _ => exact hu
        | 1, _ => rfl
      have z1 : ¬ A9.next + 1 = A11.next := by omega
      have z2 : ¬ A11.next = A9.next + 1 := by omega
      have hk0 : ((k + 1 : Nat) : Int) = (k : Int) + 1 := by omega
      rcases hbw with ⟨k1, k2⟩ | ⟨r, k1, k2, b1, c1, rfl, r1, r2, r3, r4⟩
      · simp [E4', E17, E20, E21, hlt, hlt', hgs11, hlk, k1, hgi]
        exact NX.of ⟨m - 1, by omega, k + 1, y, v, by omega, by omega, x11.app (by omega) _, by simp; omega, by rw [AH.get_alloc, if_neg z1]; exact g11, by rw [hk0]; exact pk.no k2, hv, by simp [E4'], by simp [E17], by simp [E20], by simp⟩
      · have x12 := (x11.app (by omega) (.row [.slice none 0 0, .int .i64 0] 183 false)).setnew (c := A11.next) (by omega) (.row [.slice (some ⟨b1, 0, none⟩) (B t k).l.length c1, .int .i64 (B t k).c] 183 false)
        have hs1 : Sl A9 3 1 (some ⟨b1, 0, none⟩) (ints (B t k).l) := Sl.row (ints_rw _) r1 rfl
        have n12 : A9.next + 2 ≤ A11.next + 1 := by omega
        rcases hv with ⟨hy, rfl⟩ | ⟨hy, b2', c2', rfl, q1, q2, q3⟩
        · simp [E4', E17, E20, E21, hlt, hlt', hgs11, hlk, k1, z1, z2, g11, hgi, hy]
          exact NX.of ⟨m - 1, by omega, k + 1, B t k, _, by omega, by omega, (x11.app (by omega) _).setnew (by omega) _, by simp; omega, by rw [AH.get_set, if_pos rfl], by rw [hk0]; exact pk.take (by omega) k2 (Or.inl hy), Or.inr ⟨k2, b1, c1, rfl, r1, r3, r4⟩, by simp [E4'], by simp [E17], by simp [E20], by simp⟩
        · have hy' : ¬ y.c < 0 := by omega
          have hs2 : Sl A9 3 1 (some ⟨b2', 0, none⟩) (ints y.l) := Sl.row (ints_rw _) q1 rfl
          simp [E4', E17, E20, E21, hlt, hlt', hgs11, hlk, k1, z1, z2, g11, hgi, hy']
          refine CN.use (better_ok (c := c1) (c' := c2') (hs1.ext hw9 (x11.app (by omega) _)) (hs2.ext hw9 (x11.app (by omega) _)) (by omega) (by omega) (B t k).c y.c) ?_
          rintro _ A2 - - ⟨rfl, rfl⟩
          cases hbt : betB (B t k).c (B t k).l y.c y.l
          · simp [E4', E17, E20, E21, z1, z2, g11, hgi]
            exact NX.of ⟨m - 1, by omega, k + 1, y, _, by omega, by omega, x11.app (by omega) _, by simp; omega, by rw [AH.get_alloc, if_neg z1]; exact g11, by rw [hk0]; exact pk.stay hy (hbt), Or.inr ⟨hy, b2', c2', rfl, q1, q2, q3⟩, by simp [E4'], by simp [E17], by simp [E20], by simp⟩
          · simp [E4', E17, E20, E21, z1, z2, g11, hgi]
            exact NX.of ⟨m - 1, by omega, k + 1, B t k, _, by omega, by omega, (x11.app (by omega) _).setnew (by omega) _, by simp; omega, by rw [AH.get_set, if_pos rfl], by rw [hk0]; exact pk.take (by omega) k2 (Or.inr hbt), Or.inr ⟨k2, b1, c1, rfl, r1, r3, r4⟩, by simp [E4'], by simp [E17], by simp [E20], by simp⟩
    · have hlt' : ¬ (k : Int) ≤ (hopsN n a.q.hops : Nat) := by omega
      obtain rfl : k = hopsN n a.q.hops + 1 := by omega
      have hlt2 : ¬ ((hopsN n a.q.hops : Nat) : Int) + 1 ≤ (hopsN n a.q.hops : Nat) := by omega
      have hbh := Pk.done (H := 0) hgk i8 b4 (by simpa using pk)
      have xfin := (x04.trans (by omega) x9).trans (by omega) x11
      rcases hv with ⟨hy, rfl⟩ | ⟨hy, b2', c2', rfl, q1, q2, q3⟩
      · simp [E17, E20, E21, hgs11, g11, hy, hlt2]
        exact DN.of ⟨xfin, none, 0, [], 0, 8, rfl, Or.inr ⟨hgood, y, hbh, Or.inl ⟨rfl, hy, rfl, rfl⟩⟩, Sl.nil Pla.no _ _ _, Or.inl ⟨by simp, by unfold UNK; omega⟩, by simp, fun b o e => by cases e⟩
      · have hy' : ¬ y.c < 0 := by omega
        have q1' := x11.get hw9 q1
        simp [E17, E20, E21, hgs11, g11, hy', hlt2]
        refine DN.of ⟨xfin, _, c2', y.l, y.c, 0, rfl, Or.inr ⟨hgood, y, hbh, Or.inr ⟨rfl, hy, rfl, rfl⟩⟩, Sl.row (ints_rw _) q1' rfl, ?_, q3, fun b o e => by injection e with e; injection e with e; subst e; exact ⟨_, _, q1'⟩⟩
        rcases q2 with rfl | q2
        · exact Or.inr ⟨rfl, fun b o e => by injection e with e; injection e with e; subst e; exact ⟨_, _, q1'⟩⟩
        · exact Or.inl q2
  · rename_i b7
    have hwH : ((((A5.alloc (.mp [])).alloc (.mp [])).alloc (.row [.slice aL (fitL l a.q).length cL, .int .i64 (n - 1), .map (some A5.next), .map (some (A5.next + 1)), .pointer (some ⟨A4.next, 0, none⟩)] 180 false))).wf := AH.wf_alloc (AH.wf_alloc (AH.wf_alloc hw5 _) _) _
    have xH : Ext A4 (((A5.alloc (.mp [])).alloc (.mp [])).alloc (.row [.slice aL (fitL l a.q).length cL, .int .i64 (n - 1), .map (some A5.next), .map (some (A5.next + 1)), .pointer (some ⟨A4.next, 0, none⟩)] 180 false)) := (((x5.app (by omega) _).app (by simp; omega) _).app (by simp; omega) _)
    have xq : Ext A5 (((A5.alloc (.mp [])).alloc (.mp [])).alloc (.row [.slice aL (fitL l a.q).length cL, .int .i64 (n - 1), .map (some A5.next), .map (some (A5.next + 1)), .pointer (some ⟨A4.next, 0, none⟩)] 180 false)) := (((Ext.alloc A5 _).app (by simp) _).app (by simp; omega) _)
    have nH : ((((A5.alloc (.mp [])).alloc (.mp [])).alloc (.row [.slice aL (fitL l a.q).length cL, .int .i64 (n - 1), .map (some A5.next), .map (some (A5.next + 1)), .pointer (some ⟨A4.next, 0, none⟩)] 180 false))).next = A5.next + 3 := by simp
    have gS : ((((A5.alloc (.mp [])).alloc (.mp [])).alloc (.row [.slice aL (fitL l a.q).length cL, .int .i64 (n - 1), .map (some A5.next), .map (some (A5.next + 1)), .pointer (some ⟨A4.next, 0, none⟩)] 180 false))).get (A5.next + 1 + 1) = some (.row [.slice aL (fitL l a.q).length cL, .int .i64 (hopsN n a.q.hops : Nat), .map (some A5.next), .map (some (A5.next + 1)), .pointer (some ⟨A4.next, 0, none⟩)] 180 false) := by rw [AH.get_alloc, if_pos (by simp), max_hops n a.q.hops hn1' b7]
    have gB : ((((A5.alloc (.mp [])).alloc (.mp [])).alloc (.row [.slice aL (fitL l a.q).length cL, .int .i64 (n - 1), .map (some A5.next), .map (some (A5.next + 1)), .pointer (some ⟨A4.next, 0, none⟩)] 180 false))).get A5.next = some (.mp []) := by rw [AH.get_alloc, if_neg (by simp <;> omega), AH.get_alloc, if_neg (by simp), AH.get_alloc, if_pos rfl]
    have gD : ((((A5.alloc (.mp [])).alloc (.mp [])).alloc (.row [.slice aL (fitL l a.q).length cL, .int .i64 (n - 1), .map (some A5.next), .map (some (A5.next + 1)), .pointer (some ⟨A4.next, 0, none⟩)] 180 false))).get (A5.next + 1) = some (.mp []) := by rw [AH.get_alloc, if_neg (by simp), AH.get_alloc, if_pos (by simp)]
    have s6 : S3 A4.next (((A5.alloc (.mp [])).alloc (.mp [])).alloc (.row [.slice aL (fitL l a.q).length cL, .int .i64 (n - 1), .map (some A5.next), .map (some (A5.next + 1)), .pointer (some ⟨A4.next, 0, none⟩)] 180 false)) ⟨A5.next + 1 + 1, A5.next, A5.next + 1, A4.next⟩ none (hopsN n a.q.hops) aL cL (fitL l a.q) [] [] b0 (fun _ _ => false) [] :=
      ⟨gS, gB, gD, fun v g => Or.inl ⟨rfl, by simp [b0]⟩, fun v g => by simp [mget], q5.ext hw5 xq, ⟨by dsimp only; try omega, by dsimp only; try omega, by dsimp only; try omega, by dsimp only; try omega, Fresh.no _⟩, ⟨by dsimp only; try omega, by dsimp only; try omega, by dsimp only; try omega, by dsimp only; try omega, by dsimp only; try omega, by dsimp only; try omega, by simp, by simp, by simp⟩⟩
    have hof := loffer_ok (s6.ext hwH (Ext.alloc _ (.row [.int .i64 s] 3 false))) (v := s) (g := 0) (lb := A5.next + 1 + 1 + 1) (lc := 1) (l := [s]) (x := 0) (by omega) (by simp) (by omega) (by simp) (by rw [AH.get_alloc, if_pos (by simp)]; rfl) ⟨by omega, by simp, by simp only []; omega, by simp only []; omega, by simp only []; omega, by simp⟩ (Or.inr ⟨by simp, by unfold UNK; omega⟩) (by simp) (by simp)
    simp only [List.length_singleton] at hof
    refine CN.use hof ?_
    rintro _ A7 hw7 hn7 ⟨LB7, B7, q7, ob7, s7, o7, k7, f7⟩
    have hB7 : B7 = upd2 b0 s 0 ⟨[s], 0, false⟩ ∧ q7.Perm [⟨0, 0, s⟩] := by
      rcases o7 with ⟨-, h1, h2⟩ | ⟨h1, -⟩
      · exact ⟨h1, h2⟩
      · simp [tak2, b0] at h1
    have i7 : LI n s (fitL l a.q) (hopsN n a.q.hops) B7 (fun _ _ => false) q7 (fun _ => False) 0 := by
      rw [hB7.1]
      exact (LI.start b2 (by omega) (x := ⟨0, 0, s⟩) ⟨rfl, rfl, rfl⟩).perm hB7.2
    have hl7 : q7.length = 1 := by rw [hB7.2.length_eq]; rfl
    have hHn : (hopsN n a.q.hops : Int) < n ∧ hopsN n a.q.hops ≤ 15 := by unfold hopsN; split <;> (try split) <;> omega
    have hks := hgk.2.2.1
    have hu7 : unH (fitL l a.q) (fun _ _ => false) (hopsN n a.q.hops) ≤ 960 := Nat.le_trans (unH_le _) (Nat.mul_le_mul hHn.2 hks)
    have hnx7 : A4.next ≤ A7.next := by simp only [AH.next_alloc] at hn7; omega
    have x7 : Ext A4 A7 := (s6.ext hwH (Ext.alloc _ (.row [.int .i64 s] 3 false))).ext0 rfl (xH.app (by omega) _) (by simp only [AH.next_alloc]; omega) k7
    clear hof o7 k7
    simp
    refine LN.use (fun m E A' => ∃ (LB LD : List ((Int × Int) × Value)) (B : PB) (D : PD) (q : List It) (ob : Option Nat) (ph : Int), m = q.length + unH (fitL l a.q) D (hopsN n a.q.hops) ∧ m ≤ 1000 ∧ S3 A4.next A' ⟨A5.next + 1 + 1, A5.next, A5.next + 1, A4.next⟩ ob (hopsN n a.q.hops) aL cL (fitL l a.q) LB LD B D q ∧ LI n s (fitL l a.q) (hopsN n a.q.hops) B D q (fun _ => False) ph ∧ Ext A4 A' ∧ A4.next ≤ A'.next ∧ E.get 4 = .int .i64 t ∧ E.get 17 = .pointer (some ⟨A5.next + 1 + 1, 0, none⟩)) (q7.length + unH (fitL l a.q) (fun _ _ => false) (hopsN n a.q.hops))
      ⟨LB7, [], B7, _, q7, ob7, 0, rfl, by omega, s7, i7, x7, hnx7, by simp [E4], by simp⟩ ?_
    clear hl7 hB7 hu7 i7 s7 x7 hnx7 s6 gS gB gD xH xq hwH nH
    rintro m E A8 hw8 hn8 ⟨LB, LD, B, D, q, ob, ph, hm, hm2, s8, i8, x8, n8, E4', E17⟩
    have hgs8 := s8.s
    dsimp only at hgs8
    simp [E17, hgs8]
    refine CN.use (lnext_ok s8 i8 (by omega)) ?_
    rintro _ A9 hw9 hn9 ⟨q9, x, e, rfl, s9, k9', hc9⟩
    have x9 := s8.ext0 rfl x8 n8 k9'
    have xl : x.enc.length = 3 := rfl
    have xo : ∀ y ∈ x.enc, oneB y = true := List.all_eq_true.1 (rfl : x.enc.all oneB = true)
    have xe2 : x.enc[2] = .int .i64 x.n := rfl
    have xe1 : x.enc[1] = .int .i64 x.h := rfl
    have s10 := s9.ext hw9 (Ext.alloc A9 (.row x.enc 185 false))
    have x10 : Ext A4 (A9.alloc (.row x.enc 185 false)) := x9.app (by omega) _
    simp [xl]
    refine ⟨xo, ?_⟩
    rcases hc9 with ⟨rfl, rfl, rfl⟩ | ⟨rfl, h2, h3, h4⟩
    rotate_left
    · simp [E17, xl, xe1, xe2]
      refine CN.use (lsettle_ok hgk b2 hHn.1 rfl hw4 sL x10 (by simp; omega) s10 x h2 h3 (by omega)) ?_
      rintro _ A11 hw11 hn11 ⟨LB', LD', B', D', q', ob', ph', s11, i11, l11, k11, f11⟩
      have x11 := s10.ext0 rfl x10 (by simp; omega) k11
      simp only [AH.next_alloc] at hn11
      simp
      exact NX.of ⟨_, by omega, LB', LD', B', D', q', ob', ph', rfl, by omega, s11, i11, x11, by omega, by simp [E4'], by simp [E17]⟩
    simp
    have hxf : Ext A9 (((A9.alloc (.row x.enc 185 false)).alloc (.row [.slice none 0 0, .int .i64 0] 183 false)).set (A9.next + 1) (.row [.slice none 0 0, .int .i64 (-1)] 183 false)) := ((Ext.alloc A9 _).app (by simp) _).setnew (by omega) _
    refine LN.use (fun m E A' => ∃ (k : Nat) (y : Wy) (v : Value), m + k = hopsN n a.q.hops + 1 ∧ 1 ≤ k ∧ Ext A9 A' ∧ A9.next + 2 ≤ A'.next ∧ A'.get (A9.next + 1) = some (.row [v, .int .i64 y.c] 183 false) ∧ Pk B t k y ∧ ((y.c < 0 ∧ v = .slice none 0 0) ∨ (0 ≤ y.c ∧ ∃ b c, v = .slice (some ⟨b, 0, none⟩) y.l.length c ∧ A9.get b = some (.row (ints y.l).flatten 3 false) ∧ lcap y.l.length c ∧ y.l.length ≤ 1000)) ∧ E.get 4 = .int .i64 t ∧ E.get 17 = .pointer (some ⟨A5.next + 1 + 1, 0, none⟩) ∧ E.get 20 = .pointer (some ⟨A9.next + 1, 0, none⟩) ∧ E.get 21 = .int .i64 k) (hopsN n a.q.hops)
      ⟨1, ⟨[], -1, false⟩, _, by omega, Nat.le_refl _, hxf, by simp, by rw [AH.get_set, if_pos rfl], ⟨fun h => by simp at h, fun _ => ⟨rfl, rfl⟩, fun g g1 g2 => by omega⟩, Or.inl ⟨by simp, rfl⟩, by simp [E4'], by simp [E17], by simp, by simp⟩ ?_
    clear hxf E4' E17 s10 x10
    rintro m E A11 hw11 hn11 ⟨k, y, v, hk, hk1, x11, n11, g11, pk, hv, E4', E17, E20, E21⟩
    have s11 := s9.ext hw9 x11
    have hgs11 := s11.s
    have hbm11 := s11.bm
    dsimp only at hgs11 hbm11
    have hbw := s9.bw t k
    have nsp := hw11 _ _ hgs11
    have nbb := hw11 _ _ hbm11
    have hone : oneB v = true := by rcases hv with ⟨-, rfl⟩ | ⟨-, b, c, rfl, -⟩ <;> rfl
    have hvc : v.cells = #[v] := oneB_cells hone
    by_cases hlt : k ≤ hopsN n a.q.hops
    · have hlt' : (k : Int) ≤ (hopsN n a.q.hops : Nat) := by omega
      have hgi : IntKind.i64.wrap ((k : Int) + 1) = ((k + 1 : Nat) : Int) := by rw [i64_in (by omega) (by omega)]; simp
      have hlk : aLookup Tryz.prog 175 (.map (some A5.next)) (.agg #[.int .i64 t, .int .i64 k]) true A11 = some (.tuple #[(mget LB (t, (k : Int))).getD (.agg #[.slice none 0 0, .int .i64 0]), .bool (mget LB (t, (k : Int))).isSome]) := (lookup_mp plK_ok mo175 ze183 hbm11 (t, (k : Int))).1
      have hone2 : ∀ (u : Value) (y : Int), oneB u = true → ∀ (i : Nat) (hi : i < 2), oneB ([u, Value.int .i64 y][i]'hi) = true := fun u y hu i hi => by
        match i, hi with
        | 0, _ => exact hu
        | 1, _ => rfl
      have z1 : ¬ A9.next + 1 = A11.next := by omega
      have z2 : ¬ A11.next = A9.next + 1 := by omega
      have hk0 : ((k + 1 : Nat) : Int) = (k : Int) + 1 := by omega
      rcases hbw with ⟨k1, k2⟩ | ⟨r, k1, k2, b1, c1, rfl, r1, r2, r3, r4⟩
      · simp [E4', E17, E20, E21, hlt, hlt', hgs11, hlk, k1, hgi]
        exact NX.of ⟨m - 1, by omega, k + 1, y, v, by omega, by omega, x11.app (by omega) _, by simp; omega, by rw [AH.get_alloc, if_neg z1]; exact g11, by rw [hk0]; exact pk.no k2, hv, by simp [E4'], by simp [E17], by simp [E20], by simp⟩
      · have x12 := (x11.app (by omega) (.row [.slice none 0 0, .int .i64 0] 183 false)).setnew (c := A11.next) (by omega) (.row [.slice (some ⟨b1, 0, none⟩) (B t k).l.length c1, .int .i64 (B t k).c] 183 false)
        have hs1 : Sl A9 3 1 (some ⟨b1, 0, none⟩) (ints (B t k).l) := Sl.row (ints_rw _) r1 rfl
        have n12 : A9.next + 2 ≤ A11.next + 1 := by omega
        rcases hv with ⟨hy, rfl⟩ | ⟨hy, b2', c2', rfl, q1, q2, q3⟩
        · simp [E4', E17, E20, E21, hlt, hlt', hgs11, hlk, k1, z1, z2, g11, hgi, hy]
          exact NX.of ⟨m - 1, by omega, k + 1, B t k, _, by omega, by omega, (x11.app (by omega) _).setnew (by omega) _, by simp; omega, by rw [AH.get_set, if_pos rfl], by rw [hk0]; exact pk.take (by omega) k2 (Or.inl hy), Or.inr ⟨k2, b1, c1, rfl, r1, r3, r4⟩, by simp [E4'], by simp [E17], by simp [E20], by simp⟩
        · have hy' : ¬ y.c < 0 := by omega
          have hs2 : Sl A9 3 1 (some ⟨b2', 0, none⟩) (ints y.l) := Sl.row (ints_rw _) q1 rfl
          simp [E4', E17, E20, E21, hlt, hlt', hgs11, hlk, k1, z1, z2, g11, hgi, hy']
          refine CN.use (better_ok (c := c1) (c' := c2') (hs1.ext hw9 (x11.app (by omega) _)) (hs2.ext hw9 (x11.app (by omega) _)) (by omega) (by omega) (B t k).c y.c) ?_
          rintro _ A2 - - ⟨rfl, rfl⟩
          cases hbt : betB (B t k).c (B t k).l y.c y.l
          · simp [E4', E17, E20, E21, z1, z2, g11, hgi]
            exact NX.of ⟨m - 1, by omega, k + 1, y, _, by omega, by omega, x11.app (by omega) _, by simp; omega, by rw [AH.get_alloc, if_neg z1]; exact g11, by rw [hk0]; exact pk.stay hy (hbt), Or.inr ⟨hy, b2', c2', rfl, q1, q2, q3⟩, by simp [E4'], by simp [E17], by simp [E20], by simp⟩
          · simp [E4', E17, E20, E21, z1, z2, g11, hgi]
            exact NX.of ⟨m - 1, by omega, k + 1, B t k, _, by omega, by omega, (x11.app (by omega) _).setnew (by omega) _, by simp; omega, by rw [AH.get_set, if_pos rfl], by rw [hk0]; exact pk.take (by omega) k2 (Or.inr hbt), Or.inr ⟨k2, b1, c1, rfl, r1, r3, r4⟩, by simp [E4'], by simp [E17], by simp [E20], by simp⟩
    · have hlt' : ¬ (k : Int) ≤ (hopsN n a.q.hops : Nat) := by omega
      obtain rfl : k = hopsN n a.q.hops + 1 := by omega
      have hlt2 : ¬ ((hopsN n a.q.hops : Nat) : Int) + 1 ≤ (hopsN n a.q.hops : Nat) := by omega
      have hbh := Pk.done (H := 0) hgk i8 b4 (by simpa using pk)
      have xfin := (x04.trans (by omega) x9).trans (by omega) x11
      rcases hv with ⟨hy, rfl⟩ | ⟨hy, b2', c2', rfl, q1, q2, q3⟩
      · simp [E17, E20, E21, hgs11, g11, hy, hlt2]
        exact DN.of ⟨xfin, none, 0, [], 0, 8, rfl, Or.inr ⟨hgood, y, hbh, Or.inl ⟨rfl, hy, rfl, rfl⟩⟩, Sl.nil Pla.no _ _ _, Or.inl ⟨by simp, by unfold UNK; omega⟩, by simp, fun b o e => by cases e⟩
      · have hy' : ¬ y.c < 0 := by omega
        have q1' := x11.get hw9 q1
        simp [E17, E20, E21, hgs11, g11, hy', hlt2]
        refine DN.of ⟨xfin, _, c2', y.l, y.c, 0, rfl, Or.inr ⟨hgood, y, hbh, Or.inr ⟨rfl, hy, rfl, rfl⟩⟩, Sl.row (ints_rw _) q1' rfl, ?_, q3, fun b o e => by injection e with e; injection e with e; subst e; exact ⟨_, _, q1'⟩⟩
        rcases q2 with rfl | q2
        · exact Or.inr ⟨rfl, fun b o e => by injection e with e; injection e with e; subst e; exact ⟨_, _, q1'⟩⟩
        · exact Or.inl q2
structure Ky where
  tail : Int
  tunnel : Int
  head : Int
  lsp : Int
  deriving DecidableEq
def Ky.enc (k : Ky) : List Value := [.int .i64 k.tail, .int .i64 k.tunnel, .int .i64 k.head, .int .i64 k.lsp]
def kyZ : Ky := ⟨0, 0, 0, 0⟩
def wtZ : Wt := ⟨0, 0, 0, 0, 0, 0⟩
@[simp] theorem ky_len (k : Ky) : k.enc.length = 4 := (rfl)
@[simp] theorem ky_one (k : Ky) : k.enc.all oneB = true := (rfl)
@[simp] theorem ky_take (k : Ky) : k.enc.take 4 = k.enc := (rfl)
theorem ky_aEq (A : AH) (x y : Ky) : aEq Tryz.prog A 20 38 (.agg x.enc.toArray) (.agg y.enc.toArray) = some (decide (x = y)) := by
  cases x; cases y; simp [Ky.enc]
@[simp high] theorem ky_eql (A : AH) (x y : Ky) : aBin Tryz.prog A .eql 38 (.agg x.enc.toArray) (.agg y.enc.toArray) = some (.bool (decide (x = y))) := by
  rw [aBin_eql_agg A _ _ _ eg38, ky_aEq]; rfl
@[simp high] theorem ky_neq (A : AH) (x y : Ky) : aBin Tryz.prog A .neq 38 (.agg x.enc.toArray) (.agg y.enc.toArray) = some (.bool (!decide (x = y))) := by
  rw [aBin_neq_agg A _ _ _ eg38, ky_aEq]; rfl
@[simp high] theorem wt_neq (A : AH) (x y : Wt) : aBin Tryz.prog A .neq 36 (.agg x.enc.toArray) (.agg y.enc.toArray) = some (.bool (!decide (x = y))) := by
  rw [aBin_neq_agg A _ _ _ eg36]
  have : aEq Tryz.prog A 20 36 (.agg x.enc.toArray) (.agg y.enc.toArray) = some (decide (x = y)) := by
    rcases x with ⟨b1, b2, b3, b4, b5, b6⟩
    rcases y with ⟨d1, d2, d3, d4, d5, d6⟩
    simp [Wt.enc]
    grind
  rw [this]; rfl
structure Ls where
  k : Ky
  w : Wt
  r : List Int
  deriving DecidableEq
def lsZ : Ls := ⟨kyZ, wtZ, []⟩
structure LsM where
  s : Ls
  a : Option Addr
  c : Nat
def LsM.enc (x : LsM) : List Value := x.s.k.enc ++ x.s.w.enc ++ [.slice x.a x.s.r.length x.c]
def lmZ : LsM := ⟨lsZ, none, 0⟩
theorem LsM.cells (x : LsM) : x.enc.length = 11 ∧ (∀ v ∈ x.enc, oneB v = true) ∧ x.enc.take 4 = x.s.k.enc ∧ (x.enc.drop 4).take 6 = x.s.w.enc ∧ x.enc.take 11 = x.enc ∧ x.enc[3]? = some (.int .i64 x.s.k.lsp) ∧ x.enc[10]? = some (.slice x.a x.s.r.length x.c) := ⟨rfl, List.all_eq_true.1 (rfl : x.enc.all oneB = true), rfl, rfl, rfl, rfl, rfl⟩
def LsM.ok (A : AH) (x : LsM) : Prop := Sl A 3 1 x.a (ints x.s.r) ∧ (x.s.r ≠ [] → ∀ b o, x.a = some ⟨b, o, none⟩ → ∃ cs ro, A.get b = some (.row cs 3 ro)) ∧ x.s.r.length ≤ 1000
structure Vw where
  tn : Int
  tl : Int
  w : Wt
  now : Ls
  new : Ls
  wait : Int
  back : Int
structure VwM where
  tn : Int
  tl : Int
  w : Wt
  now : LsM
  new : LsM
  wait : Int
  back : Int
def VwM.v (x : VwM) : Vw := ⟨x.tn, x.tl, x.w, x.now.s, x.new.s, x.wait, x.back⟩
def VwM.enc (x : VwM) : List Value := [.int .i64 x.tn, .int .i64 x.tl] ++ x.w.enc ++ x.now.enc ++ x.new.enc ++ [.int .i64 x.wait, .int .i64 x.back]
def VwM.row (x : VwM) (mb : Nat) : List Value := x.enc ++ [.pointer (some ⟨mb, 0, none⟩)]
def VwM.ok (A : AH) (x : VwM) : Prop := x.now.ok A ∧ x.new.ok A
section
variable (x : VwM) (mb : Nat)
theorem row_len : (x.row mb).length = 33 := rfl
theorem row_0 : (x.row mb)[0]? = some (.int .i64 x.tn) := rfl
theorem row_32 : (x.row mb)[32]? = some (.pointer (some ⟨mb, 0, none⟩)) := rfl
theorem row_want : ((x.row mb).drop 2).take 6 = x.w.enc := rfl
theorem row_now : ((x.row mb).drop 8).take 11 = x.now.enc := rfl
theorem row_new : ((x.row mb).drop 19).take 11 = x.new.enc := rfl
theorem row_nowk : ((x.row mb).drop 8).take 4 = x.now.s.k.enc := rfl
theorem row_newk : ((x.row mb).drop 19).take 4 = x.new.s.k.enc := rfl
theorem row_noww : ((x.row mb).drop 12).take 6 = x.now.s.w.enc := rfl
theorem row_view : (x.row mb).take 32 = x.enc := rfl
theorem set_now (y : LsM) : spl (x.row mb) 8 y.enc = VwM.row { x with now := y } mb := rfl
theorem set_new (y : LsM) : spl (x.row mb) 19 y.enc = VwM.row { x with new := y } mb := rfl
theorem set_want (w : Wt) : spl (x.row mb) 2 w.enc = VwM.row { x with w := w } mb := rfl
theorem set_wait (i : Int) : spl (x.row mb) 30 [.int .i64 i] = VwM.row { x with wait := i } mb := rfl
theorem set_back (i : Int) : spl (x.row mb) 31 [.int .i64 i] = VwM.row { x with back := i } mb := rfl
end
structure Ac where
  kind : Int
  tn : Int
  k : Ky
  w : Wt
  r : List Int
  deriving DecidableEq
structure AcM where
  x : Ac
  a : Option Addr
  c : Nat
def AcM.enc (y : AcM) : List Value := [.int .i64 y.x.kind, .int .i64 y.x.tn] ++ y.x.k.enc ++ y.x.w.enc ++ [.slice y.a y.x.r.length y.c]
def AcM.ok (A : AH) (y : AcM) : Prop := Sl A 3 1 y.a (ints y.x.r) ∧ (y.x.r ≠ [] → ∀ b o, y.a = some ⟨b, o, none⟩ → ∃ cs ro, A.get b = some (.row cs 3 ro)) ∧ y.x.r.length ≤ 1000
structure Li where
  tick : Int
  tn : Int
  what : Int
  code : Int
  deriving DecidableEq
def Li.enc (x : Li) : List Value := [.int .i64 x.tick, .int .i64 x.tn, .int .i64 x.what, .int .i64 x.code]
structure Mg where
  head : Int
  n : Int
  l : List Vw
  count : Int
  acts : List Ac
  lines : List Li
/-! What it does, without the program. -/
noncomputable def FN (n : Int) (l : List Adv) (a : Ask) (s t : Int) : Int × List Int := by
  classical
  exact if h : ∃ p : Int × List Int × Int, FndP n l a s t p.1 p.2.1 p.2.2 then (h.choose.1, h.choose.2.1) else (0, [])
theorem FN_is {n : Int} {l : List Adv} {a : Ask} {s t e c : Int} {r : List Int} (h : FndP n l a s t e r c) : FN n l a s t = (e, r) := by
  unfold FN
  have hex : ∃ p : Int × List Int × Int, FndP n l a s t p.1 p.2.1 p.2.2 := ⟨(e, r, c), h⟩
  rw [dif_pos hex]
  have hobt := hex.choose_spec.same h
  obtain ⟨h1, h2, -⟩ := hobt
  rw [h1, h2]
def Mg.does (m : Mg) (a : Ac) : Mg := { m with acts := m.acts ++ [a] }
def Mg.says (m : Mg) (x : Li) : Mg := { m with lines := m.lines ++ [x] }
def Mg.put (m : Mg) (i : Nat) (v : Vw) : Mg := { m with l := m.l.set i v }
def lacksB (v : Vw) : Bool := decide (v.now.k.lsp = 0) || !decide (v.now.w = v.w)
def busyB (m : Mg) : Bool := m.l.any fun v => decide (v.new.k.lsp ≠ 0)
def Mg.stop (m : Mg) (tn : Int) (x : Ls) : Mg := if x.k.lsp = 0 then m else m.does ⟨2, tn, x.k, wtZ, []⟩
def Mg.fails (m : Mg) (i : Nat) (v : Vw) (now code : Int) : Mg := (m.put i { v with wait := now + v.back + m.head, back := min (2 * v.back) 8 }).says ⟨now, v.tn, 3, code⟩
def ownN (v : Vw) (k : Nat) : List Ow := if v.now.w.hold ≤ v.w.setup then (List.range (k - 1)).map fun i => ⟨v.now.r.getD i 0, v.now.r.getD (i + 1) 0, v.now.w.bw⟩ else []
def ownL (v : Vw) : List Ow := ownN v v.now.r.length
def askV (v : Vw) : Ask := ⟨v.w, [], [], ownL v, 0⟩
noncomputable def Mg.tries (m : Mg) (i : Nat) (v : Vw) (now : Int) (l : List Adv) : Mg :=
  let f := FN m.n l (askV v) m.head v.tl
  let e := if f.1 = 0 ∧ 65535 ≤ m.count then 7 else f.1
  if e ≠ 0 then m.fails i v now e else
  let k : Ky := ⟨v.tl, v.tn, m.head, m.count + 1⟩
  ({ m with count := m.count + 1 }.put i { v with new := ⟨k, v.w, f.2⟩, wait := now + 10 }).does ⟨1, v.tn, k, v.w, f.2⟩
def ptrT (p : Nat) : List Value := [.pointer (some ⟨p, 0, none⟩)]
def OwnT (T : TypeId) : Prop := T = 92 ∨ T = 111 ∨ False ∨ T = 63 ∨ T = 89
def FrT (A A' : AH) : Prop := ∀ b cs T ro, A.get b = some (.row cs T ro) → ¬ OwnT T → A'.get b = A.get b
theorem FrT.refl (A : AH) : FrT A A := fun _ _ _ _ _ _ => rfl
theorem FrT.trans {A B C : AH} (h : FrT A B) (g : FrT B C) : FrT A C := fun b cs T ro h1 h2 => by
  have e := h b cs T ro h1 h2
  rw [g b cs T ro (e.trans h1) h2, e]
theorem FrT.ext {A A' : AH} (hw : A.wf) (h : Ext A A') : FrT A A' := fun b cs T ro h1 _ => h b (hw _ _ h1)
theorem LsM.ok.fr {A A' : AH} {x : LsM} (h : x.ok A) (hf : FrT A A') : x.ok A' := by
  obtain ⟨h1, h2, h3⟩ := h
  by_cases hr : x.s.r = []
  · refine ⟨?_, fun h => absurd hr h, h3⟩
    rw [hr] at h1 ⊢
    exact Sl.nil h1.2.1 _ _ _
  have hk : ∀ b o, x.a = some ⟨b, o, none⟩ → A'.get b = A.get b := fun b o e => by
    have hobt := h2 hr b o e
    obtain ⟨cs, ro, g⟩ := hobt
    exact hf b cs _ ro g (by unfold OwnT; decide)
  exact ⟨h1.kept fun b o y e _ => hk b o e, fun _ b o e => by
    have hobt := h2 hr b o e
    obtain ⟨cs, ro, g⟩ := hobt
    exact ⟨cs, ro, (hk b o e).trans g⟩, h3⟩
theorem AcM.ok.fr {A A' : AH} {x : AcM} (h : x.ok A) (hf : FrT A A') : x.ok A' := by
  obtain ⟨h1, h2, h3⟩ := h
  by_cases hr : x.x.r = []
  · refine ⟨?_, fun h => absurd hr h, h3⟩
    rw [hr] at h1 ⊢
    exact Sl.nil h1.2.1 _ _ _
  have hk : ∀ b o, x.a = some ⟨b, o, none⟩ → A'.get b = A.get b := fun b o e => by
    have hobt := h2 hr b o e
    obtain ⟨cs, ro, g⟩ := hobt
    exact hf b cs _ ro g (by unfold OwnT; decide)
  exact ⟨h1.kept fun b o y e _ => hk b o e, fun _ b o e => by
    have hobt := h2 hr b o e
    obtain ⟨cs, ro, g⟩ := hobt
    exact ⟨cs, ro, (hk b o e).trans g⟩, h3⟩
def Fr2 (T1 T2 : TypeId) (A A' : AH) : Prop := ∀ b cs T ro, A.get b = some (.row cs T ro) → T ≠ T1 → T ≠ T2 → A'.get b = A.get b
theorem Fr2.frT {T1 T2 : TypeId} {A A' : AH} (h : Fr2 T1 T2 A A') (h1 : OwnT T1) (h2 : OwnT T2) : FrT A A' := fun b cs T ro g hT => h b cs T ro g (fun e => hT (by rw [e]; exact h1)) (fun e => hT (by rw [e]; exact h2))
theorem Lst.ty {A : AH} {e : TypeId} {z : Nat} {ob : Option Nat} {v : Value} {L : List (List Value)} (h : Lst A e z ob v L) {k : Nat} {cs : List Value} {T : TypeId} {ro : Bool} (hk : A.get k = some (.row cs T ro)) (hT : T ≠ e) : ob ≠ some k := by
  intro e
  rcases h.2 with ⟨h1, _⟩ | ⟨b, c, rest, h1, _, h3, _⟩
  · rw [h1] at e; cases e
  · rw [h1] at e; injection e with e; subst e
    rw [h3] at hk; injection hk with hk; injection hk with _ hk _
    exact hT hk.symm
theorem lst_get {A : AH} {e : TypeId} {z b : Nat} {v : Value} {L : List (List Value)} {ob : Option Nat} (h : Lst A e z ob v L) (hb : ob = some b) : ∃ cs, A.get b = some (.row cs e false) := by
  rcases h.2 with ⟨h1, _⟩ | ⟨b', c', rest, h1, _, h3, _⟩
  · rw [h1] at hb; cases hb
  · rw [h1] at hb; injection hb with hb; subst hb; exact ⟨_, h3⟩
theorem lst_fr2 {A A' : AH} {e T1 T2 : TypeId} {z : Nat} {v : Value} {L : List (List Value)} {ob : Option Nat} (h : Lst A e z ob v L) (hf : Fr2 T1 T2 A A') (h1 : e ≠ T1) (h2 : e ≠ T2) : Lst A' e z ob v L := h.kept fun b hb => by
  have hobt := lst_get h hb
  obtain ⟨cs, g⟩ := hobt
  exact hf b cs e false g h1 h2
structure MgA (n0 : Nat) (A : AH) (mb : Nat) (hd n : Int) (ps : List Nat) (X : Nat → VwM) (cnt : Int) (acts : List AcM) (lns : List Li) : Prop where
  man : ∃ lv av nv, A.get mb = some (.row [.int .i64 hd, .int .i64 n, lv, .int .i64 cnt, av, nv] 92 false) ∧
    (∃ ob, Lst A 109 1 ob lv (ps.map ptrT) ∧ ∀ b, ob = some b → n0 ≤ b) ∧
    (∃ ob, Lst A 63 13 ob av (acts.map AcM.enc) ∧ ∀ b, ob = some b → n0 ≤ b) ∧
    (∃ ob, Lst A 89 4 ob nv (lns.map Li.enc) ∧ ∀ b, ob = some b → n0 ≤ b)
  lo : n0 ≤ mb
  tun : ∀ p ∈ ps, n0 ≤ p ∧ A.get p = some (.row (VwM.row (X p) mb) 111 false) ∧ (X p).ok A
  nd : ps.Nodup
  ac : ∀ y ∈ acts, y.ok A
def Fr (n0 : Nat) (A A' : AH) : Prop := (∀ b, b < n0 → A'.get b = A.get b) ∧ FrT A A'
theorem Fr.refl (n0 : Nat) (A : AH) : Fr n0 A A := ⟨fun _ _ => rfl, FrT.refl A⟩
theorem Fr.trans {n0 : Nat} {A B C : AH} (h : Fr n0 A B) (g : Fr n0 B C) : Fr n0 A C := ⟨fun b hb => by rw [g.1 b hb, h.1 b hb], h.2.trans g.2⟩
theorem Fr.ext {n0 : Nat} {A A' : AH} (hw : A.wf) (hn : n0 ≤ A.next) (h : Ext A A') : Fr n0 A A' := ⟨fun b hb => h b (by omega), FrT.ext hw h⟩
section
variable {n0 : Nat} {A A' : AH} {mb : Nat} {hd n : Int} {ps : List Nat} {X : Nat → VwM} {cnt : Int} {acts : List AcM} {lns : List Li}
theorem VwM.ok.fr {x : VwM} (h : x.ok A) (hf : FrT A A') : x.ok A' := ⟨h.1.fr hf, h.2.fr hf⟩
theorem MgA.ext (h : MgA n0 A mb hd n ps X cnt acts lns) (hw : A.wf) (hx : Ext A A') : MgA n0 A' mb hd n ps X cnt acts lns := by
  obtain ⟨⟨lv, av, nv, g, ⟨o1, l1, f1⟩, ⟨o2, l2, f2⟩, ⟨o3, l3, f3⟩⟩, h2, h3, h4, h5⟩ := h
  have hf := FrT.ext hw hx
  exact ⟨⟨lv, av, nv, hx.get hw g, ⟨o1, l1.kept fun b hb => hx b (l1.lt hw hb), f1⟩, ⟨o2, l2.kept fun b hb => hx b (l2.lt hw hb), f2⟩, ⟨o3, l3.kept fun b hb => hx b (l3.lt hw hb), f3⟩⟩, h2, fun p hp => ⟨(h3 p hp).1, hx.get hw (h3 p hp).2.1, (h3 p hp).2.2.fr hf⟩, h4, fun y hy => (h5 y hy).fr hf⟩
theorem MgA.new_acts {acts' : List AcM} {lv av nv av' : Value} {ob : Option Nat} (h : MgA n0 A mb hd n ps X cnt acts lns) (g0 : A.get mb = some (.row [.int .i64 hd, .int .i64 n, lv, .int .i64 cnt, av, nv] 92 false)) (g : A'.get mb = some (.row [.int .i64 hd, .int .i64 n, lv, .int .i64 cnt, av', nv] 92 false)) (hl : Lst A' 63 13 ob av' (acts'.map AcM.enc)) (hob : ∀ b, ob = some b → n0 ≤ b) (hf : Fr2 92 63 A A') (ha : ∀ y ∈ acts', y.ok A') : MgA n0 A' mb hd n ps X cnt acts' lns := by
  obtain ⟨⟨lv1, av1, nv1, g1, ⟨o1, l1, f1⟩, -, ⟨o3, l3, f3⟩⟩, h2, h3, h4, -⟩ := h
  rw [g0] at g1
  injection g1 with g1; injection g1 with g1 _ _
  simp only [List.cons.injEq, and_true, true_and] at g1
  obtain ⟨rfl, -, rfl⟩ := g1
  have hT := hf.frT (Or.inl rfl) (Or.inr (Or.inr (Or.inr (Or.inl rfl))))
  exact ⟨⟨lv, av', nv, g, ⟨o1, lst_fr2 l1 hf (by decide) (by decide), f1⟩, ⟨ob, hl, hob⟩, ⟨o3, lst_fr2 l3 hf (by decide) (by decide), f3⟩⟩, h2, fun p hp => ⟨(h3 p hp).1, by rw [hf p _ _ _ (h3 p hp).2.1 (by decide) (by decide)]; exact (h3 p hp).2.1, (h3 p hp).2.2.fr hT⟩, h4, ha⟩
theorem MgA.new_lines {lns' : List Li} {lv av nv nv' : Value} {ob : Option Nat} (h : MgA n0 A mb hd n ps X cnt acts lns) (g0 : A.get mb = some (.row [.int .i64 hd, .int .i64 n, lv, .int .i64 cnt, av, nv] 92 false)) (g : A'.get mb = some (.row [.int .i64 hd, .int .i64 n, lv, .int .i64 cnt, av, nv'] 92 false)) (hl : Lst A' 89 4 ob nv' (lns'.map Li.enc)) (hob : ∀ b, ob = some b → n0 ≤ b) (hf : Fr2 92 89 A A') : MgA n0 A' mb hd n ps X cnt acts lns' := by
  obtain ⟨⟨lv1, av1, nv1, g1, ⟨o1, l1, f1⟩, ⟨o3, l3, f3⟩, -⟩, h2, h3, h4, h5⟩ := h
  rw [g0] at g1
  injection g1 with g1; injection g1 with g1 _ _
  simp only [List.cons.injEq, and_true, true_and] at g1
  obtain ⟨rfl, rfl, -⟩ := g1
  have hT := hf.frT (Or.inl rfl) (Or.inr (Or.inr (Or.inr (Or.inr rfl))))
  exact ⟨⟨lv, av, nv', g, ⟨o1, lst_fr2 l1 hf (by decide) (by decide), f1⟩, ⟨o3, lst_fr2 l3 hf (by decide) (by decide), f3⟩, ⟨ob, hl, hob⟩⟩, h2, fun p hp => ⟨(h3 p hp).1, by rw [hf p _ _ _ (h3 p hp).2.1 (by decide) (by decide)]; exact (h3 p hp).2.1, (h3 p hp).2.2.fr hT⟩, h4, fun y hy => (h5 y hy).fr hT⟩
def updX (X : Nat → VwM) (q : Nat) (y : VwM) : Nat → VwM := fun p => if p = q then y else X p
theorem updX_same (X : Nat → VwM) (q : Nat) (y : VwM) : updX X q y q = y := if_pos rfl
theorem updX_ne (X : Nat → VwM) {p q : Nat} (y : VwM) (h : p ≠ q) : updX X q y p = X p := if_neg h
theorem MgA.new_tun {q : Nat} {y : VwM} (h : MgA n0 A mb hd n ps X cnt acts lns) (hq : q ∈ ps) (hy : y.ok A) : MgA n0 (A.set q (.row (VwM.row y mb) 111 false)) mb hd n ps (updX X q y) cnt acts lns ∧ Fr n0 A (A.set q (.row (VwM.row y mb) 111 false)) := by
  have hqr := h.tun q hq
  have hf : Fr2 111 111 A (A.set q (.row (VwM.row y mb) 111 false)) := fun b cs T ro g h1 _ => by
    rw [AH.get_set, if_neg]
    intro e; subst e
    rw [hqr.2.1] at g; injection g with g; injection g with _ g _; exact h1 g.symm
  have hT := hf.frT (Or.inr (Or.inl rfl)) (Or.inr (Or.inl rfl))
  obtain ⟨⟨lv, av, nv, g, ⟨o1, l1, f1⟩, ⟨o2, l2, f2⟩, ⟨o3, l3, f3⟩⟩, h2, h3, h4, h5⟩ := h
  refine ⟨⟨⟨lv, av, nv, by rw [hf mb _ _ _ g (by decide) (by decide)]; exact g, ⟨o1, lst_fr2 l1 hf (by decide) (by decide), f1⟩, ⟨o2, lst_fr2 l2 hf (by decide) (by decide), f2⟩, ⟨o3, lst_fr2 l3 hf (by decide) (by decide), f3⟩⟩, h2, fun p hp => ?_, h4, fun y hy => (h5 y hy).fr hT⟩, fun b hb => by rw [AH.get_set, if_neg (by omega)], hT⟩
  by_cases e : p = q
  · subst e
    rw [updX_same, AH.get_set, if_pos rfl]
    exact ⟨hqr.1, rfl, hy.fr hT⟩
  · rw [updX_ne _ _ e, AH.get_set, if_neg e]
    exact ⟨(h3 p hp).1, (h3 p hp).2.1, (h3 p hp).2.2.fr hT⟩
end
section
variable {n0 : Nat} {A A' : AH} {mb : Nat} {hd n : Int} {ps : List Nat} {X : Nat → VwM} {cnt : Int} {acts : List AcM} {lns : List Li} {p : Nat}
def AcM.on (y : AcM) (tn : Int) : AcM := { y with x := { y.x with tn := tn } }
theorem AcM.cells (y : AcM) : y.enc.length = 13 ∧ (∀ v ∈ y.enc, oneB v = true) ∧ y.enc.take 13 = y.enc := ⟨rfl, List.all_eq_true.1 (rfl : y.enc.all oneB = true), rfl⟩
theorem AcM.set_tn (y : AcM) (tn : Int) : spl y.enc 1 [.int .i64 tn] = (y.on tn).enc := rfl
theorem lis_ok (x : LsM) (A : AH) : ACall Tryz.prog 58 [.agg x.enc.toArray] A fun v A' => v = .bool (decide (x.s.k.lsp ≠ 0)) ∧ Ext A A' := by
  have hobt := x.cells
  obtain ⟨c1, c2, c3, c4, c5, c6, c7⟩ := hobt
  have c8 : x.enc[3]'(by omega) = .int .i64 x.s.k.lsp := rfl
  refine code58.call (by simp) fun hwf => ?_
  unfold c58
  simp [c1, c5, c8]
  exact DN.of ⟨by simp, Ext.alloc A _⟩
theorem mgood_ok (h : MgA n0 A mb hd n ps X cnt acts lns) : ACall Tryz.prog 34 [.pointer (some ⟨mb, 0, none⟩)] A fun v A' => v = .bool (decide (0 < n)) ∧ A' = A := by
  have hobt := h.man
  obtain ⟨lv, av, nv, g, -⟩ := hobt
  refine code34.call (by simp) fun hwf => ?_
  unfold c34
  simp [g]
  exact DN.of ⟨rfl, rfl⟩
theorem may_ok (now : Int) (A : AH) : ACall Tryz.prog 43 [.int .i64 now] A fun v A' => v = .bool (decide (0 ≤ now ∧ now ≤ 1099511627766)) ∧ A' = A := by
  by_cases h : 0 ≤ now
  · refine code43.call (by simp) fun hwf => ?_
    unfold c43
    simp [h]
    exact DN.of ⟨by simp [h], rfl⟩
  · refine code43.call (by simp) fun hwf => ?_
    unfold c43
    simp [h]
    exact DN.of ⟨by simp [h], rfl⟩
set_option maxHeartbeats 2000000 in
theorem does_ok (h : MgA n0 A mb hd n ps X cnt acts lns) (hp : p ∈ ps) (y : AcM) (hy : y.ok A) (hl : acts.length ≤ 100000) (hn0 : n0 ≤ A.next) : ACall Tryz.prog 83 [.pointer (some ⟨p, 0, none⟩), .agg y.enc.toArray] A fun _ A' => MgA n0 A' mb hd n ps X cnt (acts ++ [y.on (X p).tn]) lns ∧ Fr n0 A A' := by
  have hobt := y.cells
  obtain ⟨c1, c2, c3⟩ := hobt
  refine ACall.wf fun hwf => ?_
  have hobx : ∃ A1, A1 = A.alloc (.row (y.on (X p).tn).enc 63 false) := ⟨_, rfl⟩
  obtain ⟨A1, hA1⟩ := hobx
  have w1 : A1.wf := by rw [hA1]; exact AH.wf_alloc hwf _
  have n1 : A1.next = A.next + 1 := by rw [hA1]; rfl
  have x1 : Ext A A1 := by rw [hA1]; exact Ext.alloc A _
  have r1 : A1.get A.next = some (.row (y.on (X p).tn).enc 63 false) := by rw [hA1, AH.get_new]
  have h1 := h.ext hwf x1
  have hobt := h1.man
  obtain ⟨lv, av, nv, g, -, ⟨ob, la, fa⟩, -⟩ := hobt
  have htp := h1.tun p hp
  have hplt : p < A.next := hwf _ _ (h.tun p hp).2.1
  have hpn : ¬ p = A.next := by omega
  have gp0 := (h.tun p hp).2.1
  have gp := htp.2.1
  have hobt := (y.on (X p).tn).cells
  obtain ⟨d1, d2, d3⟩ := hobt
  have hpush := la.push (y := 112) w1 (r := (y.on (X p).tn).enc) ⟨d1, List.all_eq_true.2 d2⟩ (by omega) (by omega) (by simp; omega) (by simp; omega)
  obtain ⟨v', A2, ob', p1, p2, p3, p4, p5⟩ := hpush
  have hobt := p2.form
  obtain ⟨a2, nn2, cc2, hv2⟩ := hobt
  subst hv2
  have mlt : mb < A1.next := w1 _ _ g
  have mob : ob ≠ some mb := Lst.ty la g (by decide)
  have g2 : A2.get mb = some (.row [.int .i64 hd, .int .i64 n, lv, .int .i64 cnt, av, nv] 92 false) := by rw [p3 mb mlt mob, g]
  have r0 := row_0 (X p) mb
  have r32 := row_32 (X p) mb
  have rl := row_len (X p) mb
  have e0 : (VwM.row (X p) mb)[0]'(by rw [rl]; omega) = .int .i64 (X p).tn := rfl
  have e32 : (VwM.row (X p) mb)[32]'(by rw [rl]; omega) = .pointer (some ⟨mb, 0, none⟩) := rfl
  have hst := AcM.set_tn y (X p).tn
  refine code83.call (by simp) fun hwf => ?_
  unfold c83
  simp [c1, c3, gp0, hpn, rl, e0, e32, hst, d1, d3, ← hA1]
  have gp2 : A2.get p = some (.row (VwM.row (X p) mb) 111 false) := by rw [p3 p (w1 _ _ gp) (Lst.ty la gp (by decide)), gp]
  simp [gp, rl, e32, g, r1, d1, d3, p1, g2, gp2]
  have hf : Fr2 92 63 A1 (A2.set mb (.row [.int .i64 hd, .int .i64 n, lv, .int .i64 cnt, .slice a2 nn2 cc2, nv] 92 false)) := fun b cs T ro gb t1 t2 => by
    rw [AH.get_set, if_neg, p3 b (w1 _ _ gb) (Lst.ty la gb t2)]
    intro e; subst e
    rw [g] at gb; injection gb with gb; injection gb with _ gb _; exact t1 gb.symm
  have hT := hf.frT (Or.inl rfl) (Or.inr (Or.inr (Or.inr (Or.inl rfl))))
  have hob' : ob' ≠ some mb := Lst.ty p2 g2 (by decide)
  have hlo := h.lo
  refine DN.of ⟨h1.new_acts (ob := ob') g (by rw [AH.get_set, if_pos rfl]) (by rw [List.map_append]; exact p2.kept fun b hb => by rw [AH.get_set, if_neg (fun e => hob' (by rw [hb, e]))]) (fun b hb => ?_) hf (fun z hz => ?_), ⟨fun b hb => ?_, (FrT.ext hwf x1).trans hT⟩⟩
  · rcases p4 with e | e
    · exact fa b (by rw [← e]; exact hb)
    · rw [e] at hb; injection hb with hb; omega
  · rcases List.mem_append.1 hz with hz | hz
    · exact (h1.ac z hz).fr hT
    · rw [List.mem_singleton.1 hz]
      exact (show AcM.ok A (y.on (X p).tn) from hy).fr ((FrT.ext hwf x1).trans hT)
  · rw [AH.get_set, if_neg (by omega), p3 b (by omega) (fun e => by have := fa b e; omega), x1 b (by omega)]
end
section
variable {n0 : Nat} {A A' : AH} {mb : Nat} {hd n : Int} {ps : List Nat} {X : Nat → VwM} {cnt : Int} {acts : List AcM} {lns : List Li} {p : Nat}
set_option maxHeartbeats 2000000 in
theorem says_ok (h : MgA n0 A mb hd n ps X cnt acts lns) (hp : p ∈ ps) (now what code : Int) (hl : lns.length ≤ 100000) (hn0 : n0 ≤ A.next) : ACall Tryz.prog 54 [.pointer (some ⟨p, 0, none⟩), .int .i64 now, .int .i64 what, .int .i64 code] A fun _ A' => MgA n0 A' mb hd n ps X cnt acts (lns ++ [⟨now, (X p).tn, what, code⟩]) ∧ Fr n0 A A' := by
  refine ACall.wf fun hwf => ?_
  have hobt := h.man
  obtain ⟨lv, av, nv, g, -, -, ⟨ob, la, fa⟩⟩ := hobt
  have gp := (h.tun p hp).2.1
  have hpush := la.push (y := 32) hwf (r := (Li.mk now (X p).tn what code).enc) ⟨rfl, rfl⟩ (by omega) (by omega) (by simp; omega) (by simp; omega)
  obtain ⟨v', A2, ob', p1, p2, p3, p4, p5⟩ := hpush
  have hobt := p2.form
  obtain ⟨a2, nn2, cc2, hv2⟩ := hobt
  subst hv2
  have mlt : mb < A.next := hwf _ _ g
  have mob : ob ≠ some mb := Lst.ty la g (by decide)
  have g2 : A2.get mb = some (.row [.int .i64 hd, .int .i64 n, lv, .int .i64 cnt, av, nv] 92 false) := by rw [p3 mb mlt mob, g]
  have gp2 : A2.get p = some (.row (VwM.row (X p) mb) 111 false) := by rw [p3 p (hwf _ _ gp) (Lst.ty la gp (by decide)), gp]
  have rl := row_len (X p) mb
  have e0 : (VwM.row (X p) mb)[0]'(by rw [rl]; omega) = .int .i64 (X p).tn := rfl
  have e32 : (VwM.row (X p) mb)[32]'(by rw [rl]; omega) = .pointer (some ⟨mb, 0, none⟩) := rfl
  simp only [Li.enc] at p1
  refine code54.call (by simp) fun hwf => ?_
  unfold c54
  simp [gp, rl, e0, e32, g, p1, gp2, g2]
  have hf : Fr2 92 89 A (A2.set mb (.row [.int .i64 hd, .int .i64 n, lv, .int .i64 cnt, av, .slice a2 nn2 cc2] 92 false)) := fun b cs T ro gb t1 t2 => by
    rw [AH.get_set, if_neg, p3 b (hwf _ _ gb) (Lst.ty la gb t2)]
    intro e; subst e
    rw [g] at gb; injection gb with gb; injection gb with _ gb _; exact t1 gb.symm
  have hT := hf.frT (Or.inl rfl) (Or.inr (Or.inr (Or.inr (Or.inr rfl))))
  have hob' : ob' ≠ some mb := Lst.ty p2 g2 (by decide)
  have hlo := h.lo
  refine DN.of ⟨h.new_lines (ob := ob') g (by rw [AH.get_set, if_pos rfl]) (by rw [List.map_append]; exact p2.kept fun b hb => by rw [AH.get_set, if_neg (fun e => hob' (by rw [hb, e]))]) (fun b hb => ?_) hf, ⟨fun b hb => ?_, hT⟩⟩
  · rcases p4 with e | e
    · exact fa b (by rw [← e]; exact hb)
    · rw [e] at hb; injection hb with hb; omega
  · rw [AH.get_set, if_neg (by omega), p3 b (by omega) (fun e => by have := fa b e; omega)]
theorem rests_ok (h : MgA n0 A mb hd n ps X cnt acts lns) (hp : p ∈ ps) (until' : Int) : ACall Tryz.prog 45 [.pointer (some ⟨p, 0, none⟩), .int .i64 until'] A fun _ A' => MgA n0 A' mb hd n ps (updX X p { X p with wait := until', back := 1 }) cnt acts lns ∧ Fr n0 A A' := by
  have gp := (h.tun p hp).2.1
  have rl := row_len (X p) mb
  have s1 := set_wait (X p) mb until'
  have rl2 := row_len { X p with wait := until' } mb
  have s2 := set_back { X p with wait := until' } mb 1
  have hnew := h.new_tun (q := p) (y := { X p with wait := until', back := 1 }) hp (h.tun p hp).2.2
  refine code45.call (by simp) fun hwf => ?_
  unfold c45
  simp [gp, rl, s1, rl2, s2]
  exact DN.of hnew
theorem lacks_ok (h : MgA n0 A mb hd n ps X cnt acts lns) (hp : p ∈ ps) : ACall Tryz.prog 56 [.pointer (some ⟨p, 0, none⟩)] A fun v A' => v = .bool (lacksB (X p).v) ∧ Ext A A' := by
  have gp := (h.tun p hp).2.1
  have rl := row_len (X p) mb
  have rn := row_now (X p) mb
  have rw' := row_want (X p) mb
  have rnw := row_noww (X p) mb
  refine ACall.wf fun hwf => ?_
  by_cases hk : (X p).now.s.k.lsp = 0
  · refine code56.call (by simp) fun hwf => ?_
    unfold c56
    simp [gp, rl, rn]
    refine CN.use (lis_ok (X p).now A) ?_
    rintro _ A2 hw2 hn2 ⟨rfl, x2⟩
    simp [hk]
    exact DN.of ⟨by simp [lacksB, VwM.v, hk], x2⟩
  · refine code56.call (by simp) fun hwf => ?_
    unfold c56
    simp [gp, rl, rn]
    refine CN.use (lis_ok (X p).now A) ?_
    rintro _ A2 hw2 hn2 ⟨rfl, x2⟩
    have gp2 := x2.get hwf gp
    simp [hk, gp2, rl, rw', rnw]
    exact DN.of ⟨by simp [lacksB, VwM.v, hk] <;> congr, x2⟩
def stopA (k : Ky) (tn : Int) : AcM := ⟨⟨2, tn, k, wtZ, []⟩, none, 0⟩
def stopsM (acts : List AcM) (x : LsM) (tn : Int) : List AcM := if x.s.k.lsp = 0 then acts else acts ++ [stopA x.s.k tn]
theorem stopA_ok (A : AH) (k : Ky) (tn : Int) : (stopA k tn).ok A := ⟨Sl.nil Pla.no _ _ _, (fun h => absurd rfl h), by simp [stopA]⟩
theorem lmZ_ok (A : AH) : lmZ.ok A := ⟨Sl.nil Pla.no _ _ _, (fun h => absurd rfl h), by simp [lmZ, lsZ]⟩
theorem stop_build (k : Ky) : spl (spl [Value.int .i64 0, .int .i64 0, .int .i64 0, .int .i64 0, .int .i64 0, .int .i64 0, .int .u64 0, .int .i64 0, .int .i64 0, .int .u32 0, .int .u32 0, .int .u32 0, .slice none 0 0] 0 [.int .i64 2]) 2 k.enc = (stopA k 0).enc := rfl
theorem stop_new_ok (h : MgA n0 A mb hd n ps X cnt acts lns) (hp : p ∈ ps) (hl : acts.length ≤ 100000) (hn0 : n0 ≤ A.next) : ACall Tryz.prog 51 [.pointer (some ⟨p, 0, none⟩), .pointer (some ⟨p, 19, none⟩)] A fun _ A' => MgA n0 A' mb hd n ps (updX X p { X p with new := lmZ }) cnt (stopsM acts (X p).new (X p).tn) lns ∧ Fr n0 A A' := by
  refine ACall.wf fun hwf => ?_
  have gp := (h.tun p hp).2.1
  have rl := row_len (X p) mb
  have rn := row_new (X p) mb
  have rk := row_newk (X p) mb
  have hz := set_new (X p) mb lmZ
  have hzc : lmZ.enc = [.int .i64 0, .int .i64 0, .int .i64 0, .int .i64 0, .int .u64 0, .int .i64 0, .int .i64 0, .int .u32 0, .int .u32 0, .int .u32 0, .slice none 0 0] := rfl
  rw [hzc] at hz
  by_cases hk : (X p).new.s.k.lsp = 0
  · have hs : stopsM acts (X p).new (X p).tn = acts := by unfold stopsM; rw [if_pos hk]
    refine code51.call (by simp) fun hwf => ?_
    unfold c51
    simp [gp, rl, rn]
    refine CN.use (lis_ok (X p).new A) ?_
    rintro _ A2 hw2 hn2 ⟨rfl, x2⟩
    have gp2 := x2.get hwf gp
    have h2 := h.ext hwf x2
    have hobt := h2.new_tun (q := p) (y := { X p with new := lmZ }) hp ⟨(h2.tun p hp).2.2.1, lmZ_ok _⟩
    obtain ⟨q1, q2⟩ := hobt
    simp [hk, gp2, rl, hz]
    exact DN.of ⟨by rw [hs]; exact q1, (Fr.ext hwf hn0 x2).trans q2⟩
  · have hs : stopsM acts (X p).new (X p).tn = acts ++ [stopA (X p).new.s.k (X p).tn] := by unfold stopsM; rw [if_neg hk]
    have hb := stop_build (X p).new.s.k
    refine code51.call (by simp) fun hwf => ?_
    unfold c51
    simp [gp, rl, rn]
    refine CN.use (lis_ok (X p).new A) ?_
    rintro _ A2 hw2 hn2 ⟨rfl, x2⟩
    have gp2 := x2.get hwf gp
    have h2 := h.ext hwf x2
    simp [hk, gp2, rl, rk]
    refine CN.use (does_ok h2 hp (stopA (X p).new.s.k 0) (stopA_ok _ _ _) hl (by omega)) ?_
    rintro _ A3 hw3 hn3 ⟨h3, f3⟩
    have gp3 := (h3.tun p hp).2.1
    have hobt := h3.new_tun (q := p) (y := { X p with new := lmZ }) hp ⟨(h3.tun p hp).2.2.1, lmZ_ok _⟩
    obtain ⟨q1, q2⟩ := hobt
    simp [gp3, rl, hz]
    exact DN.of ⟨by rw [hs]; exact q1, (Fr.ext hwf hn0 x2).trans (f3.trans q2)⟩
end
theorem overlaps_ok {A : AH} {b1 o1 n1 c1 b2 o2 n2 c2 : Nat} {cs1 cs2 : List Value} {e1 e2 : TypeId} (h1 : A.get b1 = some (.row cs1 e1 false)) (h2 : A.get b2 = some (.row cs2 e2 false)) (hne : b1 ≠ b2) (hc : cs2 ≠ []) (hn1 : n1 ≠ 0) (hn2 : n2 ≠ 0) :
    ACall Tryz.prog 77 [.slice (some ⟨b1, o1, none⟩) n1 c1, .slice (some ⟨b2, o2, none⟩) n2 c2] A fun v A' => v = .bool false ∧ A' = A :=
  overlaps_apart (T := 90) (R' := 4) (e := 109) (size := 1) Tryz.underlying90 (by intro w; kernel_rfl)
    (fun args w v h => by rw [run_callFunc_extern Tryz.func77 (by kernel_rfl) (by kernel_rfl) (by kernel_rfl) (e := Extern.SlicesOverlaps.overlaps #[90, 90] #[4]) (by kernel_rfl), h]; rfl) h1 h2 hne hc hn1 hn2
theorem insert_exact {A : AH} {b vb c i : Nat} {L : List (List Value)} {r rest : List Value} (hb : A.get b = some (.row (L.flatten ++ rest) 109 false)) (hv : A.get vb = some (.row r 109 false)) (hne : vb ≠ b) (hR : Rw 1 L) (hr : r.length = 1 ∧ r.all oneB = true)
    (hc : c < UNK) (hn : L.length ≤ c) (hcz : c * 1 = L.flatten.length + rest.length) (hi : i ≤ L.length) (hL : L.length ≤ 1000000) :
    ACall Tryz.prog 46 [.slice (some ⟨b, 0, none⟩) L.length c, .int .i64 i, .slice (some ⟨vb, 0, none⟩) 1 1] A fun v A' => InsP 109 1 b (L.take i ++ r :: L.drop i) A v A' := by
  refine code46.call (by simp) fun hwf => ?_
  unfold c46
  have hfl := flat_len hR.len
  have hfv : ∀ A' : AH, A'.get vb = some (.row r 109 false) → firstOf A' 1 1 (.slice (some ⟨vb, 0, none⟩) 1 1) = some r := fun A' h => by
    rw [firstOf_row h (by omega)]; simp [List.take_of_length_le, hr.1]
  have hRi : Rw 1 (L.take i ++ r :: L.drop i) := (hR.sub fun r hr => List.mem_of_mem_take hr).app (Rw.cons hr (hR.sub fun r hr => List.mem_of_mem_drop hr))
  have hlen : (L.take i ++ r :: L.drop i).length = L.length + 1 := by simp <;> omega
  simp [slW_lo (P := Tryz.prog) (z := 1) (a := some ⟨b, 0, none⟩) (k := .i64) (A := A) hi hn hc]
  have hcap := aCap_exact (P := Tryz.prog) sl90 (some ⟨b, 0, none⟩) L.length c (by omega)
  have hRd : Rw 1 (L.drop i) := hR.sub fun r hr => List.mem_of_mem_drop hr
  by_cases hin : i = L.length
  · subst hin
    by_cases hroom : L.length + 1 ≤ c
    · have hap := appW_in (e := 109) (z := 1) (y := 8) (o := 0) (hfv A hv) (by omega) (l := L.length) (by omega) (by omega) (by omega) hc hroom hb (by simp [hfl] at hcz ⊢; omega) hr.2
      rw [Nat.zero_add, spl_at' _ _ _ hfl.symm] at hap
      simp [hap]
      refine DN.of ⟨b, ⟨hRi, Or.inr ⟨b, c, rest.drop 1, rfl, by simp, by rw [AH.get_set, if_pos rfl]; simp [hr.1], Or.inr ⟨hc, by rw [hlen]; exact hroom, ?_⟩⟩⟩, fun k hk hkb => by rw [AH.get_set, if_neg hkb], Or.inl rfl⟩
      rw [flat_len hRi.len, hlen, List.length_drop]; omega
    · have hap := appW_out (e := 109) (z := 1) (y := 8) (o := 0) (hfv A hv) (by omega) (l := L.length) (by omega) (by omega) (by omega) hc (by omega) (firstOf_row hb (by simp [hfl]))
      rw [List.drop_zero, take_flat hR _ _ (Nat.le_refl _)] at hap
      simp [hap]
      refine DN.of ⟨A.next, ⟨hRi, Or.inr ⟨A.next, UNK, [], rfl, by simp, by rw [AH.get_new]; simp, Or.inl ⟨rfl, rfl⟩⟩⟩, fun k hk hkb => by rw [AH.get_alloc, if_neg (by omega)], Or.inr (Nat.le_refl _)⟩
  · have hinI : ¬ (i : Int) = L.length := by omega
    have hti : (L.take i).flatten.length = i * 1 := by rw [flat_len (fun r hr => hR.len r (List.mem_of_mem_take hr)), List.length_take, Nat.min_eq_left hi]
    have hdi : (L.drop i).flatten.length = (L.length - i) * 1 := by rw [flat_len hRd.len, List.length_drop]
    have e1 : ((L.length + 1 - i : Nat) : Int) = (L.length : Int) + 1 - i := by omega
    have e2 : i + (L.length + 1 - i) = L.length + 1 := by omega
    have w1 := i64_in (x := (L.length : Int) + 1) (by omega) (by omega)
    have w2 := i64_in (x := (L.length : Int) + 1 - i) (by omega) (by omega)
    have w3 := i64_in (x := (i : Int) + 1) (by omega) (by omega)
    simp [hcap, hinI, w1]
    split
    · rename_i hroom
      have g1 := slW_hi (P := Tryz.prog) (z := 1) (a := some ⟨b, 0, none⟩) (k := .i64) (A := A) (h := i) (n := L.length) (c := c) (by omega) hn hc
      rw [cutA_zero] at g1
      have g2 : ∃ Z, Z.length = (L.length + 1 - i) * 1 ∧ appZ 109 1 8 (Value.pointer none).cells.toList (.slice (some ⟨b, 0, none⟩) i c) (.int .i64 ((L.length : Int) + 1 - i)) A = some (.slice (some ⟨A.next, 0, none⟩) (L.length + 1) UNK, A.alloc (.row ((L.take i).flatten ++ Z) 109 false)) := by
        refine ⟨zrep (L.length + 1 - i) (Value.pointer none).cells.toList, zrep_len _ rfl _, ?_⟩
        have := appZ_out (e := 109) (z := 1) (y := 8) (l := i) (n := L.length + 1 - i) (k := .i64) (zc := (Value.pointer none).cells.toList) (by omega) (by omega) (by omega) hc (by omega) (firstOf_row (n' := i) (c := c) (o := 0) (n := i) hb (by rw [List.length_append]; omega))
        rw [e1, e2, List.drop_zero, take_flat hR _ _ hi] at this
        exact this
      obtain ⟨Z, hZ, g2⟩ := g2
      simp at g2
      have hbn : A.next ≠ b := fun e => by have := hwf _ _ hb; omega
      have hvn : vb ≠ A.next := fun e => by have := hwf _ _ hv; omega
      have g3 := slU_lo (P := Tryz.prog) (A := A.alloc (.row ((L.take i).flatten ++ Z) 109 false)) (z := 1) (n := L.length + 1) (o := 0) (i := i) (k := .i64) (AH.get_new _ _) sz109 (by omega)
      rw [Nat.zero_add] at g3
      have g4 := cpW_row (z := 1) (d := A.next) (o := i * 1) (dn := L.length + 1 - i) (dc := UNK) (sn := 1) (sc := 1) (b := some ⟨vb, 0, none⟩) (A := A.alloc (.row ((L.take i).flatten ++ Z) 109 false)) (vs := r) (by rw [Nat.min_eq_left (by omega)]; exact hfv _ (by rw [AH.get_alloc, if_neg hvn]; exact hv)) (by omega) (AH.get_new _ _) (by rw [List.length_append, hti, hr.1, hZ]; omega) hr.2
      rw [spl_at' _ _ _ hti.symm] at g4
      have ei : ((i + 1 : Nat) : Int) = (i : Int) + 1 := by omega
      have hobx : ∃ A2, A2 = (A.alloc (.row ((L.take i).flatten ++ Z) 109 false)).set A.next (.row ((L.take i).flatten ++ (r ++ Z.drop r.length)) 109 false) := ⟨_, rfl⟩
      obtain ⟨A2, hA2⟩ := hobx
      have a1 : A2.get A.next = some (.row ((L.take i).flatten ++ (r ++ Z.drop r.length)) 109 false) := by rw [hA2, AH.get_set, if_pos rfl]
      have a2 : ∀ k, k ≠ A.next → A2.get k = A.get k := fun k hk => by rw [hA2, AH.get_set, if_neg hk, AH.get_alloc, if_neg hk]
      have g5 := slU_lo (P := Tryz.prog) (z := 1) (n := L.length + 1) (o := 0) (i := i + 1) (k := .i64) a1 sz109 (by omega)
      rw [ei, Nat.zero_add] at g5
      have g6 := slW_lo (P := Tryz.prog) (z := 1) (a := some ⟨b, 0, none⟩) (k := .i64) (A := A2) hi hn hc
      rw [cutA_ne (by omega), Nat.zero_add] at g6
      have hz0 : (Z.drop r.length).drop (L.drop i).flatten.length = [] := List.drop_eq_nil_of_le (by rw [List.length_drop, hZ, hdi, hr.1]; omega)
      have g7 := cpW_row (z := 1) (d := A.next) (o := (i + 1) * 1) (dn := L.length + 1 - (i + 1)) (dc := UNK) (sn := L.length - i) (sc := c - i) (b := some ⟨b, i * 1, none⟩) (A := A2) (vs := (L.drop i).flatten) (by rw [Nat.min_eq_left (by omega), firstOf_row ((a2 b hbn.symm).trans hb) (by rw [List.length_append, hfl]; omega), part_flat hR _ _ hi]) (by omega) a1 (by rw [List.length_append, List.length_append, List.length_drop, hti, hr.1, hZ, hdi]; omega) hRd.flat
      rw [← List.append_assoc, spl_at' _ _ _ (by rw [List.length_append, hti, hr.1]; omega), hz0, List.append_nil] at g7
      rw [show L.length + 1 - (i + 1) = L.length - i by omega] at g5 g7
      simp only [Nat.mul_one] at g1 g2 g3 g4 g5 g6 g7 hA2 a1
      simp [-AH.alloc_set, -AH.set_set, w1, g1, w2, g2, g3, g4, w3, ← hA2, g5, g6, g7]
      refine DN.of ⟨A.next, ⟨hRi, Or.inr ⟨A.next, UNK, [], rfl, by rw [hlen], by rw [AH.get_set, if_pos rfl]; simp, Or.inl ⟨rfl, rfl⟩⟩⟩, fun k hk hkb => by rw [AH.get_set, if_neg (by omega)]; exact a2 k (by omega), Or.inr (Nat.le_refl _)⟩
    · rename_i hroom
      have ei : ((i + 1 : Nat) : Int) = (i : Int) + 1 := by omega
      have en : ((L.length + 1 : Nat) : Int) = (L.length : Int) + 1 := by omega
      have g1 := slW_hi (P := Tryz.prog) (z := 1) (a := some ⟨b, 0, none⟩) (k := .i64) (A := A) (h := L.length + 1) (n := L.length) (c := c) (by omega) hn hc
      rw [cutA_zero, en] at g1
      have g2 := fun A => slW_lo (P := Tryz.prog) (z := 1) (a := some ⟨b, 0, none⟩) (k := .i64) (A := A) (n := L.length + 1) (i := i + 1) (c := c) (by omega) (by omega) hc
      have g3 := fun A => slW_lo (P := Tryz.prog) (z := 1) (a := some ⟨b, 0, none⟩) (k := .i64) (A := A) (n := L.length + 1) (i := i) (c := c) (by omega) (by omega) hc
      simp only [cutA_ne (show c ≠ i + 1 by omega), cutA_ne (show c ≠ i by omega), Nat.zero_add, ei, show L.length + 1 - (i + 1) = L.length - i by omega] at g2 g3
      simp [w1, g1, w3, g2]
      refine CN.use (overlaps_ok hv hb hne (by intro e; have := congrArg List.length e; simp at this; simp [this.2] at hcz; have := this.1; omega) (by omega) (by omega)) ?_
      rintro _ A - - ⟨rfl, rfl⟩
      have g4 := cpW_row (z := 1) (d := b) (o := (i + 1) * 1) (dn := L.length - i) (dc := c - (i + 1)) (sn := L.length + 1 - i) (sc := c - i) (b := some ⟨b, i * 1, none⟩) (A := A) (vs := (L.drop i).flatten) (by rw [Nat.min_eq_right (by omega), firstOf_row hb (by rw [List.length_append, hfl]; omega), part_flat hR _ _ hi]) (by omega) hb (by rw [List.length_append, hfl, hdi]; omega) hRd.flat
      have g5 := fun (cs : List Value) (hcs : 1 ≤ cs.length - i * 1) => cpW_row (z := 1) (d := b) (o := i * 1) (dn := L.length + 1 - i) (dc := c - i) (sn := 1) (sc := 1) (b := some ⟨vb, 0, none⟩) (A := A.set b (.row cs 109 false)) (vs := r) (by rw [Nat.min_eq_left (by omega)]; exact hfv _ (by rw [AH.get_set, if_neg hne]; exact hv)) (by omega) (by rw [AH.get_set, if_pos rfl]) (by rw [hr.1]; omega) hr.2
      have hsp := spl_length (L.flatten ++ rest) ((i + 1) * 1) (L.drop i).flatten (by rw [List.length_append, hfl, hdi]; omega)
      have g6 := g5 (spl (L.flatten ++ rest) ((i + 1) * 1) (L.drop i).flatten) (by rw [hsp, List.length_append, hfl]; omega)
      rw [shift_rows hR hi hr.1 (by omega)] at g6
      simp only [Nat.mul_one] at *
      simp [-AH.alloc_set, -AH.set_set, w1, w3, g2, g3, g4, g6]
      refine DN.of ⟨b, ⟨hRi, Or.inr ⟨b, c, rest.drop 1, rfl, by rw [hlen], by rw [AH.get_set, if_pos rfl]; simp, Or.inr ⟨hc, by rw [hlen]; omega, ?_⟩⟩⟩, fun k hk hkb => by rw [AH.get_set, if_neg hkb, AH.get_set, if_neg hkb], Or.inl rfl⟩
      rw [flat_len hRi.len, hlen, List.length_drop]; omega
theorem delete_exact {A : AH} {b c i : Nat} {L : List (List Value)} {rest : List Value} (hb : A.get b = some (.row (L.flatten ++ rest) 109 false)) (hR : Rw 1 L)
    (hc : c < UNK) (hn : L.length ≤ c) (hcz : c * 1 = L.flatten.length + rest.length) (hi : i < L.length) (hL : L.length ≤ 1000000) :
    ACall Tryz.prog 57 [.slice (some ⟨b, 0, none⟩) L.length c, .int .i64 i, .int .i64 ((i : Int) + 1)] A fun v A' => Lst A' 109 1 (some b) v (L.take i ++ L.drop (i + 1)) ∧ (∀ k, k < A.next → k ≠ b → A'.get k = A.get k) := by
  refine ACall.wf fun hwf => ?_
  have hfl := flat_len hR.len
  have hRi : Rw 1 (L.take i ++ L.drop (i + 1)) := (hR.sub fun r hr => List.mem_of_mem_take hr).app (hR.sub fun r hr => List.mem_of_mem_drop hr)
  have hlen : (L.take i ++ L.drop (i + 1)).length = L.length - 1 := by simp <;> omega
  have hRd : Rw 1 (L.drop (i + 1)) := hR.sub fun r hr => List.mem_of_mem_drop hr
  have hdi : (L.drop (i + 1)).flatten.length = (L.length - (i + 1)) * 1 := by rw [flat_len hRd.len, List.length_drop]
  have ei : ((i + 1 : Nat) : Int) = (i : Int) + 1 := by omega
  have en : ((L.length - 1 : Nat) : Int) = (L.length : Int) - 1 := by omega
  have g1 := slW_3 (P := Tryz.prog) (z := 1) (a := some ⟨b, 0, none⟩) (k1 := .i64) (k2 := .i64) (k3 := .i64) (A := A) (l := i) (h := i + 1) (k := L.length) (n := L.length) (c := c) (by omega) (by omega) hn hn hc
  have g2 := slW_hi (P := Tryz.prog) (z := 1) (a := some ⟨b, 0, none⟩) (k := .i64) (A := A) (h := i) (n := L.length) (c := c) (by omega) hn hc
  have g3 := slW_lo (P := Tryz.prog) (z := 1) (a := some ⟨b, 0, none⟩) (k := .i64) (A := A) (n := L.length) (i := i + 1) (c := c) (by omega) hn hc
  rw [ei] at g1 g3
  rw [cutA_zero] at g2
  have g4 : ∀ A, slW Tryz.prog 1 (some ⟨b, 0, none⟩) (L.length - 1) c (some (.int .i64 ((L.length - 1 : Nat) : Int))) (some (.int .i64 (L.length : Int))) none A = some (.slice (some ⟨b, (L.length - 1) * 1, none⟩) 1 (c - (L.length - 1))) := fun A => by
    have := slW_lohi (P := Tryz.prog) (z := 1) (a := some ⟨b, 0, none⟩) (k := .i64) (k' := .i64) (A := A) (l := L.length - 1) (h := L.length) (n := L.length - 1) (c := c) (by omega) (by omega) (by omega) hc
    rw [cutA_ne (by omega), Nat.zero_add, show L.length - (L.length - 1) = 1 by omega] at this
    exact this
  have hz1 : (zrep 1 (Value.pointer none).cells.toList) = (Value.pointer none).cells.toList := by simp
  have g5 : ∀ (A : AH) (cs : List Value), A.get b = some (.row cs 109 false) → cs.length = (L.flatten ++ rest).length → clW (Value.pointer none).cells.toList (.slice (some ⟨b, (L.length - 1) * 1, none⟩) 1 (c - (L.length - 1))) A = some (A.set b (.row (spl cs ((L.length - 1) * 1) (Value.pointer none).cells.toList) 109 false)) := fun A cs hA hcs => by
    have := clW_row (zc := (Value.pointer none).cells.toList) (d := b) (o := (L.length - 1) * 1) (n := 1) (c := c - (L.length - 1)) (A := A) (by omega) hA (by rw [hcs, List.length_append, hfl]; simp; omega) (by rw [hz1]; rfl)
    rwa [hz1] at this
  have hdel := del_rows (z := 1) (i := i) (L := L) (rest := rest) (zc := (Value.pointer none).cells.toList) hR hi rfl
  have done : ∀ cs, cs = (L.take i ++ L.drop (i + 1)).flatten ++ ((Value.pointer none).cells.toList ++ rest) → ∀ A', A'.get b = some (.row cs 109 false) → Lst A' 109 1 (some b) (.slice (some ⟨b, 0, none⟩) (L.length - 1) c) (L.take i ++ L.drop (i + 1)) := fun cs hcs A' hA' => by
    subst hcs
    refine ⟨hRi, Or.inr ⟨b, c, _, rfl, by rw [hlen], hA', Or.inr ⟨hc, by rw [hlen]; omega, ?_⟩⟩⟩
    rw [flat_len hRi.len, hlen, List.length_append]; simp; omega
  by_cases hlast : i + 1 = L.length
  · have g6 := appW_zero (e := 109) (z := 1) (y := 8) (a := some ⟨b, 0, none⟩) (l := i) (c := c) (c2 := c - (i + 1)) (A := A) (Pla.cut (Pla.yes b 0) c (i + 1) 1) (Or.inr (by omega))
    rw [show L.length - (i + 1) = 0 by omega] at g3
    have el : L.length - 1 = i := by omega
    rw [el] at g4 done
    have g7 := g5 A _ hb rfl
    rw [el] at g7
    rw [show L.drop (i + 1) = [] from List.drop_eq_nil_of_le (by omega), List.flatten_nil, spl_nil, el] at hdel
    refine code57.call (by simp) fun hwf => ?_
    unfold c57
    simp at g4 g7 g1 g2 g3
    simp [-AH.set_set, g1, g2, g3, g6, g4, g7]
    rw [if_neg (by omega)]
    refine DN.of ⟨?_, fun k hk hkb => by rw [AH.get_set, if_neg hkb]⟩
    rw [show L.drop (i + 1) = [] from List.drop_eq_nil_of_le (by omega)] at done ⊢
    exact done _ hdel _ (by rw [AH.get_set, if_pos rfl]; simp)
  · have g6 := appW_in (e := 109) (z := 1) (y := 8) (b := b) (o := 0) (l := i) (c := c) (A := A) (n := L.length - (i + 1)) (c2 := c - (i + 1)) (a2 := some ⟨b, (i + 1) * 1, none⟩) (new := (L.drop (i + 1)).flatten) (by rw [firstOf_row hb (by rw [List.length_append, hfl]; omega), part_flat hR _ _ (by omega)]) (by omega) (by omega) (by omega) (by omega) hc (by omega) hb (by rw [List.length_append, hfl]; omega) hRd.flat
    rw [show i + (L.length - (i + 1)) = L.length - 1 by omega, Nat.zero_add] at g6
    rw [cutA_ne (by omega), Nat.zero_add] at g3
    have g7 := g5 (A.set b (.row (spl (L.flatten ++ rest) (i * 1) (L.drop (i + 1)).flatten) 109 false)) _ (by rw [AH.get_set, if_pos rfl]) (spl_length _ _ _ (by rw [List.length_append, hfl, hdi]; omega))
    rw [hdel] at g7
    refine code57.call (by simp) fun hwf => ?_
    unfold c57
    simp at g7 g1 g2 g3 g6
    simp [-AH.set_set, g1, g2, g3, g6, g4, g7]
    rw [if_neg (by omega)]
    refine DN.of ⟨done _ rfl _ (by simp), fun k hk hkb => by simp [hkb]⟩
theorem insert_nil {A : AH} {vb : Nat} {r : List Value} (hv : A.get vb = some (.row r 109 false)) (hr : r.length = 1 ∧ r.all oneB = true) :
    ACall Tryz.prog 46 [.slice none 0 0, .int .i64 0, .slice (some ⟨vb, 0, none⟩) 1 1] A fun v A' => ∃ b', Lst A' 109 1 (some b') v [r] ∧ (∀ k, k < A.next → A'.get k = A.get k) ∧ A.next ≤ b' := by
  refine code46.call (by simp) fun hwf => ?_
  unfold c46
  have g1 := slW_lo (P := Tryz.prog) (z := 1) (a := none) (k := .i64) (A := A) (n := 0) (i := 0) (c := 0) (Nat.le_refl _) (Nat.le_refl _) (by simp [UNK])
  simp at g1
  have hfv : firstOf A 1 1 (.slice (some ⟨vb, 0, none⟩) 1 1) = some r := by rw [firstOf_row hv (by omega)]; simp [List.take_of_length_le, hr.1]
  have g2 : appW 109 1 8 (.slice none 0 0) (.slice (some ⟨vb, 0, none⟩) 1 1) A = some (.slice (some ⟨A.next, 0, none⟩) 1 UNK, A.alloc (.row r 109 false)) := by
    unfold appW
    simp [hfv]
  simp [g1, g2]
  exact DN.of ⟨A.next, ⟨Rw.one hr, Or.inr ⟨A.next, UNK, [], rfl, rfl, by rw [AH.get_new]; simp, Or.inl ⟨rfl, rfl⟩⟩⟩, fun k hk => by rw [AH.get_alloc, if_neg (by omega)], Nat.le_refl _⟩
theorem insert_ok {A : AH} {ob : Option Nat} {v : Value} {vb i : Nat} {L : List (List Value)} {r : List Value} (h : Lst A 109 1 ob v L) (hv : A.get vb = some (.row r 109 false)) (hne : ob ≠ some vb) (hr : r.length = 1 ∧ r.all oneB = true) (hi : i ≤ L.length) (hL : L.length ≤ 1000000) :
    ACall Tryz.prog 46 [v, .int .i64 i, .slice (some ⟨vb, 0, none⟩) 1 1] A fun v' A' => ∃ b', Lst A' 109 1 (some b') v' (L.take i ++ r :: L.drop i) ∧ (∀ k, k < A.next → ob ≠ some k → A'.get k = A.get k) ∧ (ob = some b' ∨ A.next ≤ b') := by
  rcases h.2 with ⟨rfl, rfl, rfl⟩ | ⟨b, c, rest, rfl, rfl, hb, hc⟩
  · obtain rfl : i = 0 := by simpa using hi
    exact (insert_nil hv hr).mono fun v' A' _ _ ⟨b', h1, h2, h3⟩ => ⟨b', by simpa using h1, fun k hk _ => h2 k hk, Or.inr h3⟩
  · have hvb : vb ≠ b := fun e => hne (by rw [e])
    rcases hc with ⟨rfl, rfl⟩ | ⟨h1, h2, h3⟩
    · rw [List.append_nil] at hb
      refine ACall.reveal code46.enters sz109 hb fun c ex hn hcU hcz => ?_
      refine (insert_exact (A := A.set b (.row (L.flatten ++ ex) 109 false)) (by rw [AH.get_set, if_pos rfl]) (by rw [AH.get_set, if_neg hvb]; exact hv) hvb h.1 hr hcU hn hcz hi hL).mono fun v' A' _ _ ⟨b', q1, q2, q3⟩ => ⟨b', q1, fun k hk hkb => ?_, q3.imp (fun e => by rw [e]) id⟩
      have hkb' : k ≠ b := fun e => hkb (by rw [e])
      rw [q2 k hk hkb', AH.get_set, if_neg hkb']
    · exact (insert_exact hb hv hvb h.1 hr h1 h2 h3 hi hL).mono fun v' A' _ _ ⟨b', q1, q2, q3⟩ => ⟨b', q1, fun k hk hkb => q2 k hk (fun e => hkb (by rw [e])), q3.imp (fun e => by rw [e]) id⟩
theorem delete_ok {A : AH} {ob : Option Nat} {v : Value} {i : Nat} {L : List (List Value)} (h : Lst A 109 1 ob v L) (hi : i < L.length) (hL : L.length ≤ 1000000) :
    ACall Tryz.prog 57 [v, .int .i64 i, .int .i64 ((i : Int) + 1)] A fun v' A' => Lst A' 109 1 ob v' (L.take i ++ L.drop (i + 1)) ∧ (∀ k, k < A.next → ob ≠ some k → A'.get k = A.get k) := by
  rcases h.2 with ⟨rfl, rfl, rfl⟩ | ⟨b, c, rest, rfl, rfl, hb, hc⟩
  · simp at hi
  · rcases hc with ⟨rfl, rfl⟩ | ⟨h1, h2, h3⟩
    · rw [List.append_nil] at hb
      refine ACall.reveal code57.enters sz109 hb fun c ex hn hcU hcz => ?_
      refine (delete_exact (A := A.set b (.row (L.flatten ++ ex) 109 false)) (by rw [AH.get_set, if_pos rfl]) h.1 hcU hn hcz hi hL).mono fun v' A' _ _ ⟨q1, q2⟩ => ⟨q1, fun k hk hkb => ?_⟩
      have hkb' : k ≠ b := fun e => hkb (by rw [e])
      rw [q2 k hk hkb', AH.get_set, if_neg hkb']
    · exact (delete_exact hb h.1 h1 h2 h3 hi hL).mono fun v' A' _ _ ⟨q1, q2⟩ => ⟨q1, fun k hk hkb => q2 k hk (fun e => hkb (by rw [e]))⟩
section
variable {n0 : Nat} {A A' : AH} {mb : Nat} {hd n : Int} {ps : List Nat} {X : Nat → VwM} {cnt : Int} {acts : List AcM} {lns : List Li} {p : Nat}
theorem stop_now_ok (h : MgA n0 A mb hd n ps X cnt acts lns) (hp : p ∈ ps) (hl : acts.length ≤ 100000) (hn0 : n0 ≤ A.next) : ACall Tryz.prog 51 [.pointer (some ⟨p, 0, none⟩), .pointer (some ⟨p, 8, none⟩)] A fun _ A' => MgA n0 A' mb hd n ps (updX X p { X p with now := lmZ }) cnt (stopsM acts (X p).now (X p).tn) lns ∧ Fr n0 A A' := by
  refine ACall.wf fun hwf => ?_
  have gp := (h.tun p hp).2.1
  have rl := row_len (X p) mb
  have rn := row_now (X p) mb
  have rk := row_nowk (X p) mb
  have hz := set_now (X p) mb lmZ
  have hzc : lmZ.enc = [.int .i64 0, .int .i64 0, .int .i64 0, .int .i64 0, .int .u64 0, .int .i64 0, .int .i64 0, .int .u32 0, .int .u32 0, .int .u32 0, .slice none 0 0] := rfl
  rw [hzc] at hz
  by_cases hk : (X p).now.s.k.lsp = 0
  · have hs : stopsM acts (X p).now (X p).tn = acts := by unfold stopsM; rw [if_pos hk]
    refine code51.call (by simp) fun hwf => ?_
    unfold c51
    simp [gp, rl, rn]
    refine CN.use (lis_ok (X p).now A) ?_
    rintro _ A2 hw2 hn2 ⟨rfl, x2⟩
    have gp2 := x2.get hwf gp
    have h2 := h.ext hwf x2
    have hobt := h2.new_tun (q := p) (y := { X p with now := lmZ }) hp ⟨lmZ_ok _, (h2.tun p hp).2.2.2⟩
    obtain ⟨q1, q2⟩ := hobt
    simp [hk, gp2, rl, hz]
    exact DN.of ⟨by rw [hs]; exact q1, (Fr.ext hwf hn0 x2).trans q2⟩
  · have hs : stopsM acts (X p).now (X p).tn = acts ++ [stopA (X p).now.s.k (X p).tn] := by unfold stopsM; rw [if_neg hk]
    have hb := stop_build (X p).now.s.k
    refine code51.call (by simp) fun hwf => ?_
    unfold c51
    simp [gp, rl, rn]
    refine CN.use (lis_ok (X p).now A) ?_
    rintro _ A2 hw2 hn2 ⟨rfl, x2⟩
    have gp2 := x2.get hwf gp
    have h2 := h.ext hwf x2
    simp [hk, gp2, rl, rk]
    refine CN.use (does_ok h2 hp (stopA (X p).now.s.k 0) (stopA_ok _ _ _) hl (by omega)) ?_
    rintro _ A3 hw3 hn3 ⟨h3, f3⟩
    have gp3 := (h3.tun p hp).2.1
    have hobt := h3.new_tun (q := p) (y := { X p with now := lmZ }) hp ⟨lmZ_ok _, (h3.tun p hp).2.2.2⟩
    obtain ⟨q1, q2⟩ := hobt
    simp [gp3, rl, hz]
    exact DN.of ⟨by rw [hs]; exact q1, (Fr.ext hwf hn0 x2).trans (f3.trans q2)⟩
theorem fails_ok (h : MgA n0 A mb hd n ps X cnt acts lns) (hp : p ∈ ps) (now code : Int) (hl : lns.length ≤ 100000) (hn0 : n0 ≤ A.next) (hnow : 0 ≤ now ∧ now ≤ 1099511627766) (hhd : 0 ≤ hd ∧ hd < 16) (hbk : 0 ≤ (X p).back ∧ (X p).back ≤ 8) : ACall Tryz.prog 52 [.pointer (some ⟨p, 0, none⟩), .int .i64 now, .int .i64 code] A fun _ A' => MgA n0 A' mb hd n ps (updX X p { X p with wait := now + (X p).back + hd, back := min (2 * (X p).back) 8 }) cnt acts (lns ++ [⟨now, (X p).tn, 3, code⟩]) ∧ Fr n0 A A' := by
  have rl := row_len (X p) mb
  refine code52.call (by simp) fun hwf => ?_
  unfold c52
  simp
  refine CN.use (says_ok h hp now 3 code hl hn0) ?_
  rintro _ A2 hw2 hn2 ⟨h2, f2⟩
  have hobt := h2.man
  obtain ⟨lv, av, nv, g, -⟩ := hobt
  have gp := (h2.tun p hp).2.1
  have e31 : (VwM.row (X p) mb)[31]'(by rw [rl]; omega) = .int .i64 (X p).back := rfl
  have e32 : (VwM.row (X p) mb)[32]'(by rw [rl]; omega) = .pointer (some ⟨mb, 0, none⟩) := rfl
  have k1 : IntKind.i64.wrap (now + (X p).back) = now + (X p).back := i64_in (by omega) (by omega)
  have k2 : IntKind.i64.wrap (now + (X p).back + hd) = now + (X p).back + hd := i64_in (by omega) (by omega)
  have k3 : IntKind.i64.wrap (2 * (X p).back) = 2 * (X p).back := i64_in (by omega) (by omega)
  have s1 := set_wait (X p) mb (now + (X p).back + hd)
  have rl2 := row_len { X p with wait := now + (X p).back + hd } mb
  have e31' : (VwM.row { X p with wait := now + (X p).back + hd } mb)[31]'(by rw [rl2]; omega) = .int .i64 (X p).back := rfl
  have hmn : (if 8 < 2 * (X p).back then (8 : Int) else 2 * (X p).back) = min (2 * (X p).back) 8 := by
    split
    · rw [Int.min_eq_right (by omega)]
    · rw [Int.min_eq_left (by omega)]
  have s2 := set_back { X p with wait := now + (X p).back + hd } mb (min (2 * (X p).back) 8)
  have hmb : mb ≠ p := fun e => by subst e; rw [g] at gp; injection gp with gp; injection gp with _ gp _; revert gp; decide
  have hpm : ¬ p = mb := fun e => hmb e.symm
  have hobt := h2.new_tun (q := p) (y := { X p with wait := now + (X p).back + hd, back := min (2 * (X p).back) 8 }) hp (h2.tun p hp).2.2
  obtain ⟨q1, q2⟩ := hobt
  simp [gp, rl, e31, e32, g, k1, k2, s1, rl2, e31', k3, hmn, s2, hpm, hmb]
  exact DN.of ⟨q1, f2.trans q2⟩
theorem busy1_ok (h : MgA n0 A mb hd n ps X cnt acts lns) (hp : p ∈ ps) : ACall Tryz.prog 80 [.pointer (some ⟨p, 0, none⟩)] A fun v A' => v = .bool (decide ((X p).new.s.k.lsp ≠ 0)) ∧ Ext A A' := by
  have gp := (h.tun p hp).2.1
  have rl := row_len (X p) mb
  have rn := row_new (X p) mb
  refine code80.call (by simp) fun hwf => ?_
  unfold c80
  simp [gp, rl, rn]
  refine CN.use (lis_ok (X p).new A) ?_
  rintro _ A2 hw2 hn2 ⟨rfl, x2⟩
  simp
  exact DN.of ⟨by simp, x2⟩
def busyX (ps : List Nat) (X : Nat → VwM) : Bool := ps.any fun p => decide ((X p).new.s.k.lsp ≠ 0)
theorem index_busy_ok {a : Option Addr} {c : Nat} (h : MgA n0 A mb hd n ps X cnt acts lns) (hs : Sl A 109 1 a (ps.map ptrT)) (hl : ps.length ≤ 1000) : ACall Tryz.prog 89 [.slice a ps.length c, .func (.func 80) #[] #[]] A fun v A' => Ext A A' ∧ ∃ i : Int, v = .int .i64 i ∧ decide (0 ≤ i) = busyX ps X := by
  refine code89.call (by simp) fun hwf => ?_
  unfold c89
  simp
  refine LN.use (fun m E A' => ∃ i : Nat, m + i = ps.length ∧ Ext A A' ∧ A.next ≤ A'.next ∧ ((ps.take i).any fun p => decide ((X p).new.s.k.lsp ≠ 0)) = false ∧ E.get 0 = .slice a ps.length c ∧ E.get 1 = .func (.func 80) #[] #[] ∧ E.get 7 = .int .i64 ps.length ∧ E.get 8 = .int .i64 i) ps.length
    ⟨0, by omega, Ext.refl _, Nat.le_refl _, by simp, by simp, by simp, by simp, by simp⟩ ?_
  rintro m E A1 hw1 hn1 ⟨i, hi, x1, n1, hno, E0, E1, E7, E8⟩
  by_cases hlt : i < ps.length
  · have hlt' : (i : Int) < ps.length := by omega
    have hgi : IntKind.i64.wrap ((i : Int) + 1) = ((i + 1 : Nat) : Int) := by rw [i64_in (by omega) (by omega)]; simp
    have hobx : ∃ p, p = ps[i]'hlt := ⟨_, rfl⟩
    obtain ⟨p, hp⟩ := hobx
    have hpm : p ∈ ps := by rw [hp]; exact List.getElem_mem hlt
    have hobt := (hs.ext hwf x1).one (i := i) (v := .pointer (some ⟨p, 0, none⟩)) (by rw [List.getElem?_map, List.getElem?_eq_getElem hlt, ← hp]; rfl)
    obtain ⟨b, o, cs, q, rfl, g1, g2⟩ := hobt
    simp [E0, E1, E7, E8, hlt, hlt', g1, g2]
    refine CN.use (busy1_ok (h.ext hwf x1) hpm) ?_
    rintro _ A2 hw2 hn2 ⟨rfl, x2⟩
    by_cases hk : (X p).new.s.k.lsp = 0
    · simp [hk, E8, hgi]
      refine NX.of ⟨m - 1, by omega, i + 1, by omega, x1.trans (by omega) x2, by omega, ?_, by simp [E0], by simp [E1], by simp [E7], by simp⟩
      rw [List.take_succ_eq_append_getElem hlt, List.any_append, hno, ← hp]; simp [hk]
    · simp [hk, E8]
      refine DN.of ⟨x1.trans (by omega) x2, i, rfl, ?_⟩
      have : busyX ps X = true := List.any_eq_true.2 ⟨p, hpm, by simp [hk]⟩
      rw [this]; simp
  · have hlt' : ¬ (i : Int) < ps.length := by omega
    rw [List.take_of_length_le (by omega)] at hno
    simp [E7, E8, hlt']
    exact DN.of ⟨x1, -1, rfl, by unfold busyX; rw [hno]; rfl⟩
theorem busy_ok (h : MgA n0 A mb hd n ps X cnt acts lns) (hl : ps.length ≤ 1000) : ACall Tryz.prog 47 [.pointer (some ⟨mb, 0, none⟩)] A fun v A' => Ext A A' ∧ v = .bool (busyX ps X) := by
  have hobt := h.man
  obtain ⟨lv, av, nv, g, ⟨ob, ll, -⟩, -⟩ := hobt
  have hobt := ll.slm
  obtain ⟨a, c, rfl, hs⟩ := hobt
  have hcf : ACall Tryz.prog 79 [.slice a ps.length c, .func (.func 80) #[] #[]] A fun v A' => Ext A A' ∧ v = .bool (busyX ps X) := by
    refine code79.call (by simp) fun hwf => ?_
    unfold c79
    simp
    refine CN.use (index_busy_ok h hs hl) ?_
    rintro _ A2 hw2 hn2 ⟨x2, i, rfl, hi⟩
    simp
    exact DN.of ⟨x2, by rw [hi]⟩
  refine code47.call (by simp) fun hwf => ?_
  unfold c47
  simp [g]
  refine CN.use hcf ?_
  rintro _ A2 hw2 hn2 ⟨x2, rfl⟩
  simp
  exact DN.of ⟨x2, rfl⟩
end
section
variable {n0 : Nat} {A A' : AH} {mb : Nat} {hd n : Int} {ps : List Nat} {X : Nat → VwM} {cnt : Int} {acts : List AcM} {lns : List Li} {p : Nat}
def askM (w : Wt) (ow : List Ow) (ao : Option Addr) (co : Nat) : AskM := ⟨⟨w, [], [], ow, 0⟩, none, 0, none, 0, ao, co⟩
theorem askM_set (w : Wt) (ow ow' : List Ow) (ao ao' : Option Addr) (co co' : Nat) : spl (askM w ow ao co).enc 8 [.slice ao' ow'.length co'] = (askM w ow' ao' co').enc := rfl
theorem ownN_step (v : Vw) {i : Nat} (hi : 0 < i) (hlt : i < v.now.r.length) (hh : v.now.w.hold ≤ v.w.setup) : ownN v (i + 1) = ownN v i ++ [⟨v.now.r[i - 1]'(by omega), v.now.r[i]'hlt, v.now.w.bw⟩] := by
  obtain ⟨k, rfl⟩ : ∃ k, i = k + 1 := ⟨i - 1, by omega⟩
  unfold ownN
  rw [if_pos hh, if_pos hh]
  simp only [Nat.add_sub_cancel]
  rw [List.range_succ, List.map_append]
  simp [List.getD, show k < v.now.r.length by omega, hlt]
set_option maxHeartbeats 2000000 in
theorem ask_ok (h : MgA n0 A mb hd n ps X cnt acts lns) (hp : p ∈ ps) : ACall Tryz.prog 82 [.pointer (some ⟨p, 0, none⟩)] A fun v A' => Ext A A' ∧ ∃ q : AskM, v = .agg q.enc.toArray ∧ q.q = askV (X p).v ∧ q.ok A' 192 := by
  have gp := (h.tun p hp).2.1
  have hr := (h.tun p hp).2.2.1
  obtain ⟨hsl, hty, hrl⟩ := hr
  have rl := row_len (X p) mb
  have rw' := row_want (X p) mb
  have e18 : (VwM.row (X p) mb)[18]'(by rw [rl]; omega) = .slice (X p).now.a (X p).now.s.r.length (X p).now.c := rfl
  have e14 : (VwM.row (X p) mb)[14]'(by rw [rl]; omega) = .int .i64 (X p).now.s.w.hold := rfl
  have e3 : (VwM.row (X p) mb)[3]'(by rw [rl]; omega) = .int .i64 (X p).w.setup := rfl
  have e12 : (VwM.row (X p) mb)[12]'(by rw [rl]; omega) = .int .u64 (X p).now.s.w.bw := rfl
  have hwl : (X p).w.enc.length = 6 := rfl
  have hwt : (X p).w.enc.take 6 = (X p).w.enc := rfl
  refine ACall.wf fun hwf => ?_
  have hpl : p < A.next := hwf _ _ gp
  have hp1 : ¬ p = A.next := by omega
  have hp2 : ¬ p = A.next + 1 := by omega
  have hb0 : spl [Value.int .u64 0, .int .i64 0, .int .i64 0, .int .u32 0, .int .u32 0, .int .u32 0, .slice none 0 0, .slice none 0 0, .slice none 0 0, .int .i64 0] 0 (X p).w.enc = (askM (X p).w [] none 0).enc := rfl
  have hobx : ∃ A1, A1 = ((A.alloc (.row [.int .u64 0, .int .i64 0, .int .i64 0, .int .u32 0, .int .u32 0, .int .u32 0, .slice none 0 0, .slice none 0 0, .slice none 0 0, .int .i64 0] 162 false)).alloc (.row [.int .u64 0, .int .i64 0, .int .i64 0, .int .u32 0, .int .u32 0, .int .u32 0, .slice none 0 0, .slice none 0 0, .slice none 0 0, .int .i64 0] 162 false)).set (A.next + 1) (.row (askM (X p).w [] none 0).enc 162 false) := ⟨_, rfl⟩
  obtain ⟨A1, hA1⟩ := hobx
  have w1 : A1.wf := by rw [hA1]; exact AH.wf_set (AH.wf_alloc (AH.wf_alloc hwf _) _) (by simp) _
  have n1 : A1.next = A.next + 2 := by rw [hA1]; rfl
  have x1 : Ext A A1 := by rw [hA1]; exact ((Ext.alloc A _).app (by simp) _).setnew (by omega) _
  have g0 : A1.get A.next = some (.row [.int .u64 0, .int .i64 0, .int .i64 0, .int .u32 0, .int .u32 0, .int .u32 0, .slice none 0 0, .slice none 0 0, .slice none 0 0, .int .i64 0] 162 false) := by rw [hA1]; simp [AH.get_alloc, AH.get_set]
  have g1 : A1.get (A.next + 1) = some (.row (askM (X p).w [] none 0).enc 162 false) := by rw [hA1, AH.get_set, if_pos rfl]
  have gp1 := x1.get hwf gp
  have al : ∀ (ow : List Ow) (ao : Option Addr) (co : Nat), (askM (X p).w ow ao co).enc.length = 10 ∧ (∀ v ∈ (askM (X p).w ow ao co).enc, oneB v = true) ∧ (askM (X p).w ow ao co).enc.take 10 = (askM (X p).w ow ao co).enc := fun ow ao co => ⟨rfl, List.all_eq_true.1 (rfl : (askM (X p).w ow ao co).enc.all oneB = true), rfl⟩
  have hobt := al [] none 0
  obtain ⟨al0, ao0, at0⟩ := hobt
  refine code82.call (by simp) fun hwf => ?_
  unfold c82
  simp [gp, hp1, hp2, rl, rw', hwl, hwt, hb0, al0, at0, ← hA1, gp1, e18]
  refine ⟨ao0, ?_⟩
  refine LN.use (fun m E A' => ∃ (i : Nat) (ob : Option Nat) (ao : Option Addr) (co : Nat), m + i = (X p).now.s.r.length ∧ Ext A A' ∧ A.next + 2 ≤ A'.next ∧ A'.get A.next = some (.row [.int .u64 0, .int .i64 0, .int .i64 0, .int .u32 0, .int .u32 0, .int .u32 0, .slice none 0 0, .slice none 0 0, .slice none 0 0, .int .i64 0] 162 false) ∧ A'.get (A.next + 1) = some (.row (askM (X p).w (ownN (X p).v i) ao co).enc 162 false) ∧ Lst A' 192 3 ob (.slice ao (ownN (X p).v i).length co) ((ownN (X p).v i).map Ow.enc) ∧ (∀ b, ob = some b → A.next + 2 ≤ b) ∧ E.get 0 = .pointer (some ⟨p, 0, none⟩) ∧ E.get 2 = .pointer (some ⟨A.next, 0, none⟩) ∧ E.get 3 = .pointer (some ⟨A.next + 1, 0, none⟩) ∧ E.get 17 = .slice (X p).now.a (X p).now.s.r.length (X p).now.c ∧ E.get 18 = .int .i64 (X p).now.s.r.length ∧ E.get 19 = .int .i64 i) (X p).now.s.r.length
    ⟨0, none, none, 0, by omega, x1, by omega, g0, by simpa [ownN] using g1, by simpa [ownN] using Lst.nil A1 192 3, by simp, by simp, by simp, by simp, by simp, by simp, by simp⟩ ?_
  rintro m E A2 hw2 hn2 ⟨i, ob, ao, co, hi, x2, n2, k0, k1, lo, fo, E0, E2, E3, E17, E18, E19⟩
  have hobt := al (ownN (X p).v i) ao co
  obtain ⟨al1, ao1, at1⟩ := hobt
  by_cases hlt : i < (X p).now.s.r.length
  rotate_left
  · have hlt' : ¬ (i : Int) < (X p).now.s.r.length := by omega
    obtain rfl : i = (X p).now.s.r.length := by omega
    have hso : Sl A2 192 3 ao ((ownN (X p).v (X p).now.s.r.length).map Ow.enc) := by
      have hobt := lo.sl
      obtain ⟨a', c', e1, e2, -⟩ := hobt
      injection e1 with e1; rw [e1]; exact e2
    have x23 : Ext A2 (A2.set A.next (.row (askM (X p).w (ownN (X p).v (X p).now.s.r.length) ao co).enc 162 false)) → True := fun _ => trivial
    simp [E2, E3, E18, E19, hlt', k0, k1, al1, at1]
    refine ⟨ao1, ?_⟩
    refine DN.of ⟨x2.setnew (Nat.le_refl _) _, askM (X p).w (ownN (X p).v (X p).now.s.r.length) ao co, rfl, rfl, Sl.nil Pla.no _ _ _, Sl.nil Pla.no _ _ _, ?_⟩
    refine hso.kept fun b o x e hb => ?_
    rw [AH.get_set, if_neg]
    intro e2; subst e2
    have hobt := lo.sl
    obtain ⟨a', c', e1, -, e3⟩ := hobt
    injection e1 with e1; rw [e1] at e
    have := fo A.next (e3 _ _ e).1
    omega
  have hlt' : (i : Int) < (X p).now.s.r.length := by omega
  have hgi : IntKind.i64.wrap ((i : Int) + 1) = ((i + 1 : Nat) : Int) := by rw [i64_in (by omega) (by omega)]; simp
  have gp2 := x2.get hwf gp
  have hobt := (hsl.ext hwf x2).one (AI.ints_at (l := (X p).now.s.r) (i := i) hlt)
  obtain ⟨b, o, cs, q, hba, u1, u2⟩ := hobt
  by_cases hi0 : 0 < i
  rotate_left
  · have hi0' : ¬ (0 : Int) < i := by omega
    have hi00 : i = 0 := by omega
    have hst : ownN (X p).v (i + 1) = ownN (X p).v i := by subst hi00; unfold ownN; simp
    simp [E0, E3, E17, E18, E19, hlt, hlt', hba, u1, u2, hi0, hi0', hgi]
    exact NX.of ⟨m - 1, by omega, i + 1, ob, ao, co, by omega, x2, n2, k0, by rw [hst]; exact k1, by rw [hst]; exact lo, fo, by simp [E0], by simp [E2], by simp [E3], by simp [E17, hba], by simp [E18], by simp⟩
  have hi0' : (0 : Int) < i := by omega
  by_cases hh : (X p).now.s.w.hold ≤ (X p).w.setup
  rotate_left
  · have hst : ownN (X p).v (i + 1) = ownN (X p).v i := by
      have : ¬ (X p).v.now.w.hold ≤ (X p).v.w.setup := hh
      unfold ownN; rw [if_neg this, if_neg this]
    simp [E0, E3, E17, E18, E19, hlt, hlt', hba, u1, u2, hi0, hi0', hgi, gp2, rl, e14, e3, hh]
    exact NX.of ⟨m - 1, by omega, i + 1, ob, ao, co, by omega, x2, n2, k0, by rw [hst]; exact k1, by rw [hst]; exact lo, fo, by simp [E0], by simp [E2], by simp [E3], by simp [E17, hba], by simp [E18], by simp⟩
  have hst := ownN_step (X p).v hi0 hlt hh
  obtain ⟨k, hk⟩ : ∃ k, i = k + 1 := ⟨i - 1, by omega⟩
  have hkl : k < (X p).now.s.r.length := by omega
  have hgk : IntKind.i64.wrap ((i : Int) - 1) = (k : Int) := by rw [i64_in (by omega) (by omega)]; omega
  have hobt := (hsl.ext hwf x2).one (AI.ints_at (l := (X p).now.s.r) (i := k) hkl)
  obtain ⟨b2, o2, cs2, q2, hba2, v1, v2⟩ := hobt
  rw [hba] at hba2; injection hba2 with hba2; injection hba2 with hb2 ho2 _; subst hb2; subst ho2
  rw [u1] at v1; injection v1 with v1; injection v1 with v1 _ _; subst v1
  have hownl : (ownN (X p).v i).length ≤ 1000 := by
    unfold ownN; split <;> simp <;> omega
  have hobx : ∃ w : Ow, w = ⟨(X p).now.s.r[k]'hkl, (X p).now.s.r[i]'hlt, (X p).now.s.w.bw⟩ := ⟨_, rfl⟩
  obtain ⟨w, hw⟩ := hobx
  have hpush := lo.push (y := 24) hw2 (r := w.enc) ⟨rfl, rfl⟩ (by omega) (by omega) (by simp; omega) (by simp; omega)
  obtain ⟨v5, A5, ob5, p1, p2, p3, p4, p5⟩ := hpush
  have hst2 : ownN (X p).v (i + 1) = ownN (X p).v i ++ [w] := by
    rw [hst, hw]; subst hk; rfl
  rw [show (ownN (X p).v i).map Ow.enc ++ [w.enc] = (ownN (X p).v (i + 1)).map Ow.enc by rw [hst2]; simp] at p2
  have hobt := p2.slm
  obtain ⟨a5, c5, hv5, -⟩ := hobt
  subst hv5
  have hwe : w.enc = [.int .i64 ((X p).now.s.r[k]'hkl), .int .i64 ((X p).now.s.r[i]'hlt), .int .u64 (X p).now.s.w.bw] := by rw [hw]; rfl
  rw [hwe] at p1
  have hset := askM_set (X p).w (ownN (X p).v i) (ownN (X p).v (i + 1)) ao a5 co c5
  have k15 : A5.get (A.next + 1) = some (.row (askM (X p).w (ownN (X p).v i) ao co).enc 162 false) := by rw [p3 _ (by omega) (fun e => by have := fo _ e; omega), k1]
  have e8 : (askM (X p).w (ownN (X p).v i) ao co).enc[8]'(by rw [al1]; omega) = .slice ao (ownN (X p).v i).length co := rfl
  simp [E0, E3, E17, E18, E19, hlt, hlt', hba, u1, u2, hi0, hi0', hgi, gp2, rl, e14, e3, e18, e12, hh, k1, al1, e8, hgk, hkl, v2, p1, k15, hset]
  have hob5 : ∀ b, ob5 = some b → A.next + 2 ≤ b := fun b hb => by
    rcases p4 with e | e
    · exact fo b (by rw [← e]; exact hb)
    · rw [e] at hb; injection hb with hb; omega
  have x5 : Ext A A5 := fun b hb => by rw [p3 b (by omega) (fun e => by have := fo _ e; omega), x2 b hb]
  exact NX.of ⟨m - 1, by omega, i + 1, ob5, a5, c5, by omega, x5.setnew (by omega) _, by simp; omega, by rw [AH.get_set, if_neg (by omega), p3 _ (by omega) (fun e => by have := fo _ e; omega), k0], by rw [AH.get_set, if_pos rfl], p2.kept fun b hb => by rw [AH.get_set, if_neg (by have := hob5 b hb; omega)], hob5, by simp [E0], by simp [E2], by simp [E3], by simp [E17, hba], by simp [E18], by simp⟩
end
theorem clone_ok {A : AH} {a : Option Addr} {c : Nat} {l : List Int} (h : Sl A 3 1 a (ints l)) (hl : l.length ≤ 1000000000) : ACall Tryz.prog 72 [.slice a l.length c] A fun v A' => Ext A A' ∧ ∃ a' c', v = .slice a' l.length c' ∧ Sl A' 3 1 a' (ints l) ∧ (∀ b o, a' = some ⟨b, o, none⟩ → A.next ≤ b) ∧ (a = none ↔ a' = none) ∧ CapOk A' 3 a' l.length c' ∧ (l ≠ [] → ∃ b, a' = some ⟨b, 0, none⟩ ∧ A'.get b = some (.row (ints l).flatten 3 false)) := by
  refine code72.call (by simp) fun hwf => ?_
  unfold c72
  simp
  split
  · rename_i ha
    subst ha
    cases l with
    | nil => exact DN.of ⟨Ext.refl A, none, 0, rfl, h, by simp, by simp, Or.inl ⟨by simp, by unfold UNK; omega⟩, fun h => absurd rfl h⟩
    | cons x l => obtain ⟨b, o, cs, ro, h1, _⟩ := h.2.2 (by simp [ints]); cases h1
  · rename_i ha
    have hobt := appW_lit (e := 3) (z := 1) (y := 8) (c := c) (b := A.next) (o := 0) (h.ext hwf (Ext.alloc A (.row [] 3 false))) (by simp) (by omega) (by simp <;> omega) (by simp <;> omega)
    obtain ⟨b', o', c', A', h1, h2, h3, h4, h5, h6, h7⟩ := hobt
    rw [ints_len] at h1 h6
    simp [h1]
    exact DN.of ⟨(Ext.alloc A _).trans (by simp) h3, _, _, rfl, h2, fun b o hb => by injection hb with hb; injection hb with hb; omega, by simp [ha], h6, fun hn => by
      have hobt := h7 (by intro e; apply hn; have := congrArg List.length e; rw [ints_len] at this; exact List.eq_nil_of_length_eq_zero this)
      obtain ⟨e1, e2⟩ := hobt
      exact ⟨b', by rw [e1], e2⟩⟩
section
variable {n0 : Nat} {A A' : AH} {mb : Nat} {hd n : Int} {ps : List Nat} {X : Nat → VwM} {cnt : Int} {acts : List AcM} {lns : List Li} {p : Nat}
theorem MgA.new_cnt {lv av nv : Value} (h : MgA n0 A mb hd n ps X cnt acts lns) (g0 : A.get mb = some (.row [.int .i64 hd, .int .i64 n, lv, .int .i64 cnt, av, nv] 92 false)) (cnt' : Int) : MgA n0 (A.set mb (.row [.int .i64 hd, .int .i64 n, lv, .int .i64 cnt', av, nv] 92 false)) mb hd n ps X cnt' acts lns ∧ Fr n0 A (A.set mb (.row [.int .i64 hd, .int .i64 n, lv, .int .i64 cnt', av, nv] 92 false)) := by
  have hf : Fr2 92 92 A (A.set mb (.row [.int .i64 hd, .int .i64 n, lv, .int .i64 cnt', av, nv] 92 false)) := fun b cs T ro g h1 _ => by
    rw [AH.get_set, if_neg]
    intro e; subst e
    rw [g0] at g; injection g with g; injection g with _ g _; exact h1 g.symm
  have hT := hf.frT (Or.inl rfl) (Or.inl rfl)
  obtain ⟨⟨lv1, av1, nv1, g1, ⟨o1, l1, f1⟩, ⟨o2, l2, f2⟩, ⟨o3, l3, f3⟩⟩, h2, h3, h4, h5⟩ := h
  rw [g0] at g1
  injection g1 with g1; injection g1 with g1 _ _
  simp only [List.cons.injEq, and_true, true_and] at g1
  obtain ⟨rfl, rfl, rfl⟩ := g1
  exact ⟨⟨⟨lv, av, nv, by rw [AH.get_set, if_pos rfl], ⟨o1, lst_fr2 l1 hf (by decide) (by decide), f1⟩, ⟨o2, lst_fr2 l2 hf (by decide) (by decide), f2⟩, ⟨o3, lst_fr2 l3 hf (by decide) (by decide), f3⟩⟩, h2, fun p hp => ⟨(h3 p hp).1, by rw [hf p _ _ _ (h3 p hp).2.1 (by decide) (by decide)]; exact (h3 p hp).2.1, (h3 p hp).2.2.fr hT⟩, h4, fun y hy => (h5 y hy).fr hT⟩, fun b hb => by rw [AH.get_set, if_neg (by omega)], hT⟩
def TryP (n0 : Nat) (A' : AH) (mb : Nat) (hd n : Int) (ps : List Nat) (X : Nat → VwM) (cnt : Int) (acts : List AcM) (lns : List Li) (p : Nat) (now e : Int) (r : List Int) : Prop :=
  (∃ code, code = (if e = 0 then 7 else e) ∧ (e = 0 → 65535 ≤ cnt) ∧ MgA n0 A' mb hd n ps (updX X p { X p with wait := now + (X p).back + hd, back := min (2 * (X p).back) 8 }) cnt acts (lns ++ [⟨now, (X p).tn, 3, code⟩])) ∨
  (e = 0 ∧ cnt < 65535 ∧ ∃ a c a' c', MgA n0 A' mb hd n ps (updX X p { X p with new := ⟨⟨⟨(X p).tl, (X p).tn, hd, cnt + 1⟩, (X p).w, r⟩, a, c⟩, wait := now + 10 }) (cnt + 1) (acts ++ [⟨⟨1, (X p).tn, ⟨(X p).tl, (X p).tn, hd, cnt + 1⟩, (X p).w, r⟩, a', c'⟩]) lns)
set_option maxHeartbeats 4000000 in
theorem tries_ok (h : MgA n0 A mb hd n ps X cnt acts lns) (hp : p ∈ ps) (now : Int) (hnow : 0 ≤ now ∧ now ≤ 1099511627766) (hhd : 0 ≤ hd ∧ hd < 16) (hbk : 0 ≤ (X p).back ∧ (X p).back ≤ 8) (hc : 0 ≤ cnt ∧ cnt ≤ 65535) (hl1 : lns.length ≤ 100000) (hl2 : acts.length ≤ 100000) (hn0 : n0 ≤ A.next) (hw : (askV (X p).v).wf) {al : Option Addr} {cl : Nat} {l : List Adv} (hl : Sl A 83 15 al (l.map Adv.enc)) (hx : ∀ x ∈ l, x.wf) (hln : l.length ≤ 1000) :
    ACall Tryz.prog 48 [.pointer (some ⟨p, 0, none⟩), .int .i64 now, .slice al l.length cl] A fun _ A' => Fr n0 A A' ∧ ∃ e r, FN n l (askV (X p).v) hd (X p).tl = (e, r) ∧ TryP n0 A' mb hd n ps X cnt acts lns p now e r := by
  have hobt := h.man
  obtain ⟨lv, av, nv, g, -⟩ := hobt
  have gp := (h.tun p hp).2.1
  have rl := row_len (X p) mb
  have e32 : (VwM.row (X p) mb)[32]'(by rw [rl]; omega) = .pointer (some ⟨mb, 0, none⟩) := rfl
  have e1 : (VwM.row (X p) mb)[1]'(by rw [rl]; omega) = .int .i64 (X p).tl := rfl
  have e0 : (VwM.row (X p) mb)[0]'(by rw [rl]; omega) = .int .i64 (X p).tn := rfl
  refine ACall.wf fun hwf => ?_
  refine code48.call (by simp) fun hwf => ?_
  unfold c48
  simp [gp, rl, e32, g, e1]
  refine CN.use (ask_ok h hp) ?_
  rintro _ A2 hw2 hn2 ⟨x2, q, rfl, hq, hqo⟩
  have g2 := x2.get hwf g
  have gp2 := x2.get hwf gp
  have h2 := h.ext hwf x2
  simp [gp2, rl, e32, g2, e1]
  refine CN.use (cfind_ok (hl.ext hwf x2) hx hln q hqo (by rw [hq]; exact hw) n hd (X p).tl) ?_
  rintro _ A3 hw3 hn3 ⟨x3, ra, rc, r, xc, e, rfl, hF, hrs, -, hrl, hrt⟩
  rw [hq] at hF
  have hFN := FN_is hF
  have g3 := x3.get hw2 g2
  have gp3 := x3.get hw2 gp2
  have h3 := h2.ext hw2 x3
  have x03 := x2.trans (by omega) x3
  have f03 := Fr.ext hwf hn0 x03
  by_cases he : e = 0
  rotate_left
  · simp [he]
    refine CN.use (fails_ok h3 hp now e hl1 (by omega) hnow hhd hbk) ?_
    rintro _ A4 hw4 hn4 ⟨h4, f4⟩
    simp
    exact DN.of ⟨f03.trans f4, e, r, hFN, Or.inl ⟨e, by rw [if_neg he], fun h => absurd h he, h4⟩⟩
  by_cases hcm : 65535 ≤ cnt
  · simp [he, g3, hcm]
    refine CN.use (fails_ok h3 hp now 7 hl1 (by omega) hnow hhd hbk) ?_
    rintro _ A4 hw4 hn4 ⟨h4, f4⟩
    simp
    exact DN.of ⟨f03.trans f4, e, r, hFN, Or.inl ⟨7, by rw [if_pos he], fun _ => hcm, h4⟩⟩
  have hcw : IntKind.i64.wrap (cnt + 1) = cnt + 1 := i64_in (by omega) (by omega)
  have hnw : IntKind.i64.wrap (now + 10) = now + 10 := i64_in (by omega) (by omega)
  have hpm : ¬ p = mb := fun e => by subst e; rw [g3] at gp3; injection gp3 with gp3; injection gp3 with _ gp3 _; revert gp3; decide
  have hobx : ∃ A4, A4 = A3.set mb (.row [.int .i64 hd, .int .i64 n, lv, .int .i64 (cnt + 1), av, nv] 92 false) := ⟨_, rfl⟩
  obtain ⟨A4, hA4⟩ := hobx
  have hq4 := h3.new_cnt g3 (cnt + 1)
  rw [← hA4] at hq4
  obtain ⟨h4, f34⟩ := hq4
  have w4 : A4.wf := by rw [hA4]; exact AH.wf_set hw3 (hw3 _ _ g3) _
  have n4 : A4.next = A3.next := by rw [hA4]; rfl
  have gp4 := (h4.tun p hp).2.1
  have g4 : A4.get mb = some (.row [.int .i64 hd, .int .i64 n, lv, .int .i64 (cnt + 1), av, nv] 92 false) := by rw [hA4, AH.get_set, if_pos rfl]
  have rwant := row_want (X p) mb
  have hwl : (X p).w.enc.length = 6 := rfl
  have hobx : ∃ k : Ky, k = ⟨(X p).tl, (X p).tn, hd, cnt + 1⟩ := ⟨_, rfl⟩
  obtain ⟨k, hk⟩ := hobx
  have hobx : ∃ y : LsM, y = ⟨⟨k, (X p).w, r⟩, ra, rc⟩ := ⟨_, rfl⟩
  obtain ⟨y, hy⟩ := hobx
  have hobx : ∃ tv, tv = spl (spl [Value.int IntKind.u64 0, Value.int IntKind.i64 0, Value.int IntKind.i64 0, Value.int IntKind.u32 0, Value.int IntKind.u32 0, Value.int IntKind.u32 0, Value.slice none 0 0] 0 (X p).w.enc) 6 [Value.slice ra r.length rc] := ⟨_, rfl⟩
  obtain ⟨tv, htv⟩ := hobx
  have tl0 : (spl [Value.int IntKind.u64 0, Value.int IntKind.i64 0, Value.int IntKind.i64 0, Value.int IntKind.u32 0, Value.int IntKind.u32 0, Value.int IntKind.u32 0, Value.slice none 0 0] 0 (X p).w.enc).length = 7 := rfl
  have tl1 : tv.length = 7 := by rw [htv]; rfl
  have tl2 : ∀ v ∈ tv, oneB v = true := by
    have : tv.all oneB = true := by rw [htv]; rfl
    exact List.all_eq_true.1 this
  have ts : spl ((X p).row mb) 19 (.int .i64 (X p).tl :: .int .i64 (X p).tn :: .int .i64 hd :: .int .i64 (cnt + 1) :: tv) = VwM.row { X p with new := y } mb := by rw [htv, hy, hk]; rfl
  have rl5 := row_len { X p with new := y } mb
  have s5 := set_wait { X p with new := y } mb (now + 10)
  have rl6 := row_len { X p with new := y, wait := now + 10 } mb
  have h5n := h4.new_tun (q := p) (y := { X p with new := y, wait := now + 10 }) hp ⟨(h4.tun p hp).2.2.1, by
    rw [hy]
    exact LsM.ok.fr (x := ⟨⟨k, (X p).w, r⟩, ra, rc⟩) ⟨hrs, fun _ => hrt, hrl⟩ f34.2⟩
  have hobx : ∃ A5, A5 = A4.set p (.row (VwM.row { X p with new := y, wait := now + 10 } mb) 111 false) := ⟨_, rfl⟩
  obtain ⟨A5, hA5⟩ := hobx
  rw [← hA5] at h5n
  obtain ⟨h5, f45⟩ := h5n
  simp [he, g3, hcm, hcw, ← hA4, gp4, g4, hpm, rl, e1, e0, e32, rwant, hwl, ← htv, tl0, tl1, ts, rl5, hnw, s5, rl6, ← hA5]
  refine ⟨tl2, ?_⟩
  have w5 : A5.wf := by rw [hA5]; exact AH.wf_set w4 (w4 _ _ gp4) _
  have n5 : A5.next = A3.next := by rw [hA5, ← n4]; rfl
  have gp5 : A5.get p = some (.row (VwM.row { X p with new := y, wait := now + 10 } mb) 111 false) := by rw [hA5, AH.get_set, if_pos rfl]
  have rk5 := row_newk { X p with new := y, wait := now + 10 } mb
  have rw5 := row_want { X p with new := y, wait := now + 10 } mb
  have yk : y.s.k.enc = k.enc := by rw [hy]
  have r5 : Sl A5 3 1 ra (ints r) := by
    have := (h5.tun p hp).2.2.2.1
    rw [updX_same] at this
    simpa [hy] using this
  simp [gp5, rl6, rk5, rw5, hwl]
  refine CN.use (clone_ok r5 (by omega)) ?_
  rintro _ A6 hw6 hn6 ⟨x6, a', c', rfl, s6, -, -, -, t6⟩
  have h6 := h5.ext w5 x6
  have hact : ∀ v : AcM, v = ⟨⟨1, 0, k, (X p).w, r⟩, a', c'⟩ → v.ok A6 := fun v e => by
    rw [e]; exact ⟨s6, fun hn b o e2 => by
      have hobt := t6 hn
      obtain ⟨b', e3, e4⟩ := hobt
      have e2 : a' = some ⟨b, o, none⟩ := e2
      rw [e3] at e2; injection e2 with e2; injection e2 with e2 _ _; subst e2; exact ⟨_, _, e4⟩, hrl⟩
  have hobx : ∃ v : AcM, v = ⟨⟨1, 0, k, (X p).w, r⟩, a', c'⟩ := ⟨_, rfl⟩
  obtain ⟨v, hv⟩ := hobx
  have b1 : (spl [Value.int IntKind.i64 0, Value.int IntKind.i64 0, Value.int IntKind.i64 0, Value.int IntKind.i64 0, Value.int IntKind.u64 0, Value.int IntKind.i64 0, Value.int IntKind.i64 0, Value.int IntKind.u32 0, Value.int IntKind.u32 0, Value.int IntKind.u32 0, Value.slice none 0 0] 0 k.enc).length = 11 := rfl
  have b2 : (spl (spl [Value.int IntKind.i64 0, Value.int IntKind.i64 0, Value.int IntKind.i64 0, Value.int IntKind.i64 0, Value.int IntKind.u64 0, Value.int IntKind.i64 0, Value.int IntKind.i64 0, Value.int IntKind.u32 0, Value.int IntKind.u32 0, Value.int IntKind.u32 0, Value.slice none 0 0] 0 k.enc) 4 (X p).w.enc).length = 11 := rfl
  have b3 : Value.int .i64 1 :: Value.int .i64 0 :: spl (spl (spl [Value.int IntKind.i64 0, Value.int IntKind.i64 0, Value.int IntKind.i64 0, Value.int IntKind.i64 0, Value.int IntKind.u64 0, Value.int IntKind.i64 0, Value.int IntKind.i64 0, Value.int IntKind.u32 0, Value.int IntKind.u32 0, Value.int IntKind.u32 0, Value.slice none 0 0] 0 k.enc) 4 (X p).w.enc) 10 [Value.slice a' r.length c'] = v.enc := by rw [hv]; rfl
  have gp6 := x6.get w5 gp5
  simp [yk, gp6, rl6, rk5, rw5, hwl, b1, b2, b3]
  refine CN.use (does_ok h6 hp v (hact v hv) hl2 (by omega)) ?_
  rintro _ A7 hw7 hn7 ⟨h7, f7⟩
  simp
  have htn : (updX X p { X p with new := y, wait := now + 10 } p).tn = (X p).tn := by rw [updX_same]
  rw [htn, hv] at h7
  exact DN.of ⟨f03.trans (f34.trans (f45.trans ((Fr.ext w5 (by omega) x6).trans f7))), e, r, hFN, Or.inr ⟨he, by omega, ra, rc, a', c', by rw [hy, hk] at h7; exact h7⟩⟩
end
def Vw.wf (v : Vw) : Prop := (0 ≤ v.back ∧ v.back ≤ 8) ∧ v.w.wf ∧ v.now.w.wf ∧ v.new.w.wf
structure Mg.wf (m : Mg) : Prop where
  hd : 0 ≤ m.head ∧ m.head < 16
  n : 1 ≤ m.n ∧ m.n ≤ 16
  cnt : 0 ≤ m.count ∧ m.count ≤ 65535
  vs : ∀ v ∈ m.l, v.wf
  len : m.l.length ≤ 16
def Mg.room (m : Mg) (k : Nat) : Prop := m.acts.length + k ≤ 100000 ∧ m.lines.length + k ≤ 100000
def MP (n0 : Nat) (A : AH) (mb : Nat) (ps : List Nat) (m : Mg) : Prop := ∃ (X : Nat → VwM) (acts : List AcM), MgA n0 A mb m.head m.n ps X m.count acts m.lines ∧ m.l = ps.map (fun p => (X p).v) ∧ m.acts = acts.map AcM.x
section
variable {n0 : Nat} {A A' : AH} {mb : Nat} {ps : List Nat} {m : Mg} {p i : Nat} {v : Vw}
theorem MP.ext (h : MP n0 A mb ps m) (hw : A.wf) (hx : Ext A A') : MP n0 A' mb ps m := by
  obtain ⟨X, acts, h1, h2, h3⟩ := h
  exact ⟨X, acts, h1.ext hw hx, h2, h3⟩
theorem MP.len (h : MP n0 A mb ps m) : ps.length = m.l.length := by
  obtain ⟨X, acts, h1, h2, h3⟩ := h
  rw [h2, List.length_map]
theorem MP.vp (h : MP n0 A mb ps m) (hp : ps[i]? = some p) : ∃ v, m.l[i]? = some v := by
  obtain ⟨X, acts, h1, h2, h3⟩ := h
  exact ⟨_, by rw [h2, List.getElem?_map, hp]; rfl⟩
theorem at_X {X : Nat → VwM} (h2 : m.l = ps.map (fun p => (X p).v)) (hp : ps[i]? = some p) (hv : m.l[i]? = some v) : (X p).v = v ∧ p ∈ ps := by
  rw [h2, List.getElem?_map, hp] at hv
  injection hv with hv
  exact ⟨hv, List.mem_of_getElem? hp⟩
theorem put_X {X : Nat → VwM} (h2 : m.l = ps.map (fun p => (X p).v)) (hp : ps[i]? = some p) (hn : ps.Nodup) (y : VwM) : ps.map (fun q => (updX X p y q).v) = m.l.set i y.v := by
  have hi : i < ps.length := (List.getElem?_eq_some_iff.1 hp).1
  have hpi : ps[i] = p := (List.getElem?_eq_some_iff.1 hp).2
  apply List.ext_getElem?
  intro k
  rw [List.getElem?_set, h2, List.getElem?_map]
  by_cases e : i = k
  · subst e
    rw [if_pos rfl, if_pos (by rw [List.length_map]; exact hi), hp]
    simp [updX_same]
  · rw [if_neg e, List.getElem?_map]
    cases hk : ps[k]? with
    | none => rfl
    | some q =>
      have hobt := List.getElem?_eq_some_iff.1 hk
      obtain ⟨hkl, hkq⟩ := hobt
      have : q ≠ p := fun eq => by
        have hpw := List.pairwise_iff_getElem.1 hn
        rcases Nat.lt_or_gt_of_ne e with hlt | hlt
        · exact hpw i k hi hkl hlt (by rw [hpi, hkq, eq])
        · exact hpw k i hkl hi hlt (by rw [hpi, hkq, eq])
      simp [updX_ne X y this]
theorem mp_does (h : MP n0 A mb ps m) (hp : ps[i]? = some p) (hv : m.l[i]? = some v) (y : AcM) (hy : y.ok A) (hr : m.room 1) (hn0 : n0 ≤ A.next) : ACall Tryz.prog 83 [.pointer (some ⟨p, 0, none⟩), .agg y.enc.toArray] A fun _ A' => MP n0 A' mb ps (m.does ⟨y.x.kind, v.tn, y.x.k, y.x.w, y.x.r⟩) ∧ Fr n0 A A' := by
  obtain ⟨X, acts, h1, h2, h3⟩ := h
  have hobt := at_X h2 hp hv
  obtain ⟨rfl, hm⟩ := hobt
  refine (does_ok h1 hm y hy (by have := hr.1; rw [h3, List.length_map] at this; omega) hn0).mono fun _ A' _ _ ⟨q1, q2⟩ => ⟨⟨X, _, q1, h2, ?_⟩, q2⟩
  rw [List.map_append]
  show m.acts ++ _ = _
  rw [h3]; rfl
theorem mp_says (h : MP n0 A mb ps m) (hp : ps[i]? = some p) (hv : m.l[i]? = some v) (now what code : Int) (hr : m.room 1) (hn0 : n0 ≤ A.next) : ACall Tryz.prog 54 [.pointer (some ⟨p, 0, none⟩), .int .i64 now, .int .i64 what, .int .i64 code] A fun _ A' => MP n0 A' mb ps (m.says ⟨now, v.tn, what, code⟩) ∧ Fr n0 A A' := by
  obtain ⟨X, acts, h1, h2, h3⟩ := h
  have hobt := at_X h2 hp hv
  obtain ⟨rfl, hm⟩ := hobt
  exact (says_ok h1 hm now what code (by have := hr.2; omega) hn0).mono fun _ A' _ _ ⟨q1, q2⟩ => ⟨⟨X, _, q1, h2, h3⟩, q2⟩
theorem mp_rests (h : MP n0 A mb ps m) (hp : ps[i]? = some p) (hv : m.l[i]? = some v) (u : Int) : ACall Tryz.prog 45 [.pointer (some ⟨p, 0, none⟩), .int .i64 u] A fun _ A' => MP n0 A' mb ps (m.put i { v with wait := u, back := 1 }) ∧ Fr n0 A A' := by
  obtain ⟨X, acts, h1, h2, h3⟩ := h
  have hobt := at_X h2 hp hv
  obtain ⟨rfl, hm⟩ := hobt
  exact (rests_ok h1 hm u).mono fun _ A' _ _ ⟨q1, q2⟩ => ⟨⟨_, _, q1, by rw [put_X h2 hp h1.nd]; rfl, h3⟩, q2⟩
theorem mp_lacks (h : MP n0 A mb ps m) (hp : ps[i]? = some p) (hv : m.l[i]? = some v) : ACall Tryz.prog 56 [.pointer (some ⟨p, 0, none⟩)] A fun r A' => r = .bool (lacksB v) ∧ Ext A A' := by
  obtain ⟨X, acts, h1, h2, h3⟩ := h
  have hobt := at_X h2 hp hv
  obtain ⟨rfl, hm⟩ := hobt
  exact lacks_ok h1 hm
theorem stops_x (acts : List AcM) (x : LsM) (tn : Int) : (stopsM acts x tn).map AcM.x = if x.s.k.lsp = 0 then acts.map AcM.x else acts.map AcM.x ++ [⟨2, tn, x.s.k, wtZ, []⟩] := by
  unfold stopsM
  split
  · rfl
  · rw [List.map_append]; rfl
theorem mp_stop_new (h : MP n0 A mb ps m) (hp : ps[i]? = some p) (hv : m.l[i]? = some v) (hr : m.room 1) (hn0 : n0 ≤ A.next) : ACall Tryz.prog 51 [.pointer (some ⟨p, 0, none⟩), .pointer (some ⟨p, 19, none⟩)] A fun _ A' => MP n0 A' mb ps ((m.stop v.tn v.new).put i { v with new := lsZ }) ∧ Fr n0 A A' := by
  obtain ⟨X, acts, h1, h2, h3⟩ := h
  have hobt := at_X h2 hp hv
  obtain ⟨rfl, hm⟩ := hobt
  refine (stop_new_ok h1 hm (by have := hr.1; rw [h3, List.length_map] at this; omega) hn0).mono fun _ A' _ _ ⟨q1, q2⟩ => ⟨⟨updX X p { X p with new := lmZ }, stopsM acts (X p).new (X p).tn, ?_, ?_, ?_⟩, q2⟩
  rotate_left
  · rw [put_X h2 hp h1.nd]; unfold Mg.stop; split <;> rfl
  · rw [stops_x, ← h3]; unfold Mg.stop
    by_cases hk : (X p).new.s.k.lsp = 0
    · rw [if_pos hk, if_pos (show (X p).v.new.k.lsp = 0 from hk)]; rfl
    · rw [if_neg hk, if_neg (show ¬ (X p).v.new.k.lsp = 0 from hk)]; rfl
  · unfold Mg.stop; split <;> exact q1
theorem mp_stop_now (h : MP n0 A mb ps m) (hp : ps[i]? = some p) (hv : m.l[i]? = some v) (hr : m.room 1) (hn0 : n0 ≤ A.next) : ACall Tryz.prog 51 [.pointer (some ⟨p, 0, none⟩), .pointer (some ⟨p, 8, none⟩)] A fun _ A' => MP n0 A' mb ps ((m.stop v.tn v.now).put i { v with now := lsZ }) ∧ Fr n0 A A' := by
  obtain ⟨X, acts, h1, h2, h3⟩ := h
  have hobt := at_X h2 hp hv
  obtain ⟨rfl, hm⟩ := hobt
  refine (stop_now_ok h1 hm (by have := hr.1; rw [h3, List.length_map] at this; omega) hn0).mono fun _ A' _ _ ⟨q1, q2⟩ => ⟨⟨updX X p { X p with now := lmZ }, stopsM acts (X p).now (X p).tn, ?_, ?_, ?_⟩, q2⟩
  rotate_left
  · rw [put_X h2 hp h1.nd]; unfold Mg.stop; split <;> rfl
  · rw [stops_x, ← h3]; unfold Mg.stop
    by_cases hk : (X p).now.s.k.lsp = 0
    · rw [if_pos hk, if_pos (show (X p).v.now.k.lsp = 0 from hk)]; rfl
    · rw [if_neg hk, if_neg (show ¬ (X p).v.now.k.lsp = 0 from hk)]; rfl
  · unfold Mg.stop; split <;> exact q1
theorem mp_fails (h : MP n0 A mb ps m) (hp : ps[i]? = some p) (hv : m.l[i]? = some v) (now code : Int) (hr : m.room 1) (hn0 : n0 ≤ A.next) (hnow : 0 ≤ now ∧ now ≤ 1099511627766) (hm : m.wf) : ACall Tryz.prog 52 [.pointer (some ⟨p, 0, none⟩), .int .i64 now, .int .i64 code] A fun _ A' => MP n0 A' mb ps (m.fails i v now code) ∧ Fr n0 A A' := by
  have hvw := hm.vs v (List.mem_of_getElem? hv)
  obtain ⟨X, acts, h1, h2, h3⟩ := h
  have hobt := at_X h2 hp hv
  obtain ⟨rfl, hmp⟩ := hobt
  refine (fails_ok h1 hmp now code (by have := hr.2; omega) hn0 hnow hm.hd hvw.1).mono fun _ A' _ _ ⟨q1, q2⟩ => ⟨⟨_, _, q1, ?_, h3⟩, q2⟩
  rw [put_X h2 hp h1.nd]; rfl
theorem busy_is {X : Nat → VwM} (h2 : m.l = ps.map (fun p => (X p).v)) : busyX ps X = busyB m := by
  unfold busyX busyB
  rw [h2, List.any_map]; rfl
theorem mp_busy (h : MP n0 A mb ps m) (hm : m.wf) : ACall Tryz.prog 47 [.pointer (some ⟨mb, 0, none⟩)] A fun r A' => Ext A A' ∧ r = .bool (busyB m) := by
  have hl := h.len
  have := hm.len
  obtain ⟨X, acts, h1, h2, h3⟩ := h
  exact (busy_ok h1 (by omega)).mono fun _ A' _ _ ⟨q1, q2⟩ => ⟨q1, by rw [q2, busy_is h2]⟩
theorem ask_wf (hv : v.wf) (h5 : v.now.r.length ≤ 1000) : (askV v).wf := by
  obtain ⟨h1, h2, h3, h4⟩ := hv
  refine ⟨h2, fun o ho => ?_, by simp [askV], by simp [askV], ?_⟩
  · simp only [askV, ownL, ownN] at ho
    split at ho
    · obtain ⟨k, -, rfl⟩ := List.mem_map.1 ho
      exact h3.1
    · cases ho
  · simp only [askV, ownL, ownN]
    split
    · simp; omega
    · simp
theorem mp_tries (h : MP n0 A mb ps m) (hp : ps[i]? = some p) (hv : m.l[i]? = some v) (now : Int) (hr : m.room 1) (hn0 : n0 ≤ A.next) (hnow : 0 ≤ now ∧ now ≤ 1099511627766) (hm : m.wf) {al : Option Addr} {cl : Nat} {l : List Adv} (hl : Sl A 83 15 al (l.map Adv.enc)) (hx : ∀ x ∈ l, x.wf) (hln : l.length ≤ 1000) : ACall Tryz.prog 48 [.pointer (some ⟨p, 0, none⟩), .int .i64 now, .slice al l.length cl] A fun _ A' => MP n0 A' mb ps (m.tries i v now l) ∧ Fr n0 A A' := by
  have hvw := hm.vs v (List.mem_of_getElem? hv)
  obtain ⟨X, acts, h1, h2, h3⟩ := h
  have hobt := at_X h2 hp hv
  obtain ⟨rfl, hmp⟩ := hobt
  refine (tries_ok h1 hmp now hnow hm.hd hvw.1 hm.cnt (by have := hr.2; omega) (by have := hr.1; rw [h3, List.length_map] at this; omega) hn0 (ask_wf hvw (h1.tun p hmp).2.2.1.2.2) hl hx hln).mono fun _ A' _ _ ⟨q2, e, r, hF, q1⟩ => ⟨?_, q2⟩
  have hF' : FN m.n l (askV (X p).v) m.head (X p).v.tl = (e, r) := hF
  unfold Mg.tries
  simp only [hF']
  rcases q1 with ⟨code, hc, hc2, q1⟩ | ⟨he, hc, a, c, a', c', q1⟩
  · have hce : (if e = 0 ∧ 65535 ≤ m.count then 7 else e) = code := by
      rw [hc]
      by_cases he : e = 0
      · rw [if_pos ⟨he, hc2 he⟩, if_pos he]
      · rw [if_neg (fun h => he h.1), if_neg he]
    have hc0 : code ≠ 0 := by
      rw [hc]; split
      · omega
      · assumption
    rw [hce, if_pos hc0]
    exact ⟨_, _, q1, by rw [put_X h2 hp h1.nd]; rfl, h3⟩
  · rw [if_neg (show ¬ (e = 0 ∧ 65535 ≤ m.count) from fun h => by omega), if_neg (show ¬ (e ≠ 0) from fun h => h he)]
    refine ⟨_, _, q1, by rw [put_X h2 hp h1.nd]; rfl, ?_⟩
    rw [List.map_append, ← h3]; rfl
end
def posL : List Vw → Int → Nat
  | [], _ => 0
  | v :: l, n => if v.tn < n then posL l n + 1 else 0
theorem posL_le (l : List Vw) (n : Int) : posL l n ≤ l.length := by
  induction l with
  | nil => simp [posL]
  | cons v l ih => simp only [posL, List.length_cons]; split <;> omega
def isL (l : List Vw) (n : Int) : Bool := match l[posL l n]? with
  | some v => decide (v.tn = n)
  | none => false
def hitB (v : Vw) (k : Ky) : Bool := decide (k.lsp ≠ 0) && (decide (v.now.k = k) || decide (v.new.k = k))
def ownI : List Vw → Ky → Option Nat
  | [], _ => none
  | v :: l, k => if hitB v k then some 0 else (ownI l k).map (· + 1)
theorem drop_at {l : List Vw} {i : Nat} {v : Vw} (h : l[i]? = some v) : l.drop i = v :: l.drop (i + 1) := by
  have hobt := List.getElem?_eq_some_iff.1 h
  obtain ⟨hi, he⟩ := hobt
  rw [List.drop_eq_getElem_cons hi, he]
section
variable {n0 : Nat} {A A' : AH} {mb : Nat} {ps : List Nat} {m : Mg} {p i : Nat} {v : Vw}
theorem MP.row (h : MP n0 A mb ps m) (hp : ps[i]? = some p) (hv : m.l[i]? = some v) : ∃ x : VwM, x.v = v ∧ A.get p = some (.row (x.row mb) 111 false) ∧ x.ok A ∧ n0 ≤ p := by
  obtain ⟨X, acts, h1, h2, h3⟩ := h
  have hobt := at_X h2 hp hv
  obtain ⟨hx, hm⟩ := hobt
  exact ⟨X p, hx, (h1.tun p hm).2.1, (h1.tun p hm).2.2, (h1.tun p hm).1⟩
theorem MP.set (h : MP n0 A mb ps m) (hp : ps[i]? = some p) (hv : m.l[i]? = some v) {y : VwM} (hy : y.ok A) : MP n0 (A.set p (.row (VwM.row y mb) 111 false)) mb ps (m.put i y.v) ∧ Fr n0 A (A.set p (.row (VwM.row y mb) 111 false)) := by
  obtain ⟨X, acts, h1, h2, h3⟩ := h
  have hobt := at_X h2 hp hv
  obtain ⟨hx, hm⟩ := hobt
  have hobt := h1.new_tun hm hy
  obtain ⟨q1, q2⟩ := hobt
  exact ⟨⟨_, _, q1, (put_X h2 hp h1.nd y).symm, h3⟩, q2⟩
theorem MP.man (h : MP n0 A mb ps m) : ∃ lv av nv, A.get mb = some (.row [.int .i64 m.head, .int .i64 m.n, lv, .int .i64 m.count, av, nv] 92 false) ∧ ∃ a c, lv = .slice a ps.length c ∧ Sl A 109 1 a (ps.map ptrT) := by
  obtain ⟨X, acts, h1, h2, h3⟩ := h
  have hobt := h1.man
  obtain ⟨lv, av, nv, g, ⟨ob, ll, -⟩, -⟩ := hobt
  have hobt := ll.slm
  obtain ⟨a, c, e, hs⟩ := hobt
  exact ⟨lv, av, nv, g, a, c, e, hs⟩
theorem sl_ptr {a : Option Addr} (hs : Sl A 109 1 a (ps.map ptrT)) (hp : ps[i]? = some p) : (List.map ptrT ps)[i]? = some [.pointer (some ⟨p, 0, none⟩)] := by
  rw [List.getElem?_map, hp]; rfl
theorem mp_good (h : MP n0 A mb ps m) : ACall Tryz.prog 34 [.pointer (some ⟨mb, 0, none⟩)] A fun v A' => v = .bool (decide (0 < m.n)) ∧ A' = A := by
  obtain ⟨X, acts, h1, h2, h3⟩ := h
  exact mgood_ok h1
theorem mfind_ok (h : MP n0 A mb ps m) (hm : m.wf) (n : Int) : ACall Tryz.prog 42 [.pointer (some ⟨mb, 0, none⟩), .int .i64 n] A fun r A' => r = .tuple #[.int .i64 (posL m.l n), .bool (isL m.l n)] ∧ Ext A A' := by
  have hl := h.len
  have hml := hm.len
  have hman := h.man
  obtain ⟨lv, av, nv, g, a, c, rfl, hs⟩ := hman
  refine code42.call (by simp) fun hwf => ?_
  unfold c42
  simp [g]
  refine LN.use (fun k E A' => ∃ i : Nat, k + i = ps.length ∧ A' = A ∧ posL m.l n = i + posL (m.l.drop i) n ∧ E.get 0 = .pointer (some ⟨mb, 0, none⟩) ∧ E.get 1 = .int .i64 n ∧ E.get 11 = .slice a ps.length c ∧ E.get 12 = .int .i64 ps.length ∧ E.get 13 = .int .i64 i) ps.length
    ⟨0, by omega, rfl, by simp, by simp, by simp, by simp, by simp, by simp⟩ ?_
  rintro k E A1 hw1 hn1 ⟨i, hi, rfl, hpos, E0, E1, E11, E12, E13⟩
  by_cases hlt : i < ps.length
  · have hlt' : (i : Int) < ps.length := by omega
    have hgi : IntKind.i64.wrap ((i : Int) + 1) = ((i + 1 : Nat) : Int) := by rw [i64_in (by omega) (by omega)]; simp
    obtain ⟨p, hp⟩ : ∃ p, ps[i]? = some p := ⟨ps[i]'hlt, List.getElem?_eq_getElem hlt⟩
    have hobt := h.vp hp
    obtain ⟨v, hv⟩ := hobt
    have hobt := h.row hp hv
    obtain ⟨x, hx, gp, -, -⟩ := hobt
    have rl := row_len x mb
    have e0 : (VwM.row x mb)[0]'(by rw [rl]; omega) = .int .i64 x.tn := rfl
    have hxt : x.tn = v.tn := by rw [← hx]; rfl
    have hobt := hs.one (i := i) (v := .pointer (some ⟨p, 0, none⟩)) (sl_ptr hs hp)
    obtain ⟨b, o, cs, q, rfl, g1, g2⟩ := hobt
    rw [drop_at hv] at hpos
    by_cases hnv : v.tn < n
    · have hnv' : ¬ n ≤ v.tn := by omega
      simp [E0, E1, E11, E12, E13, hlt, hlt', g1, g2, gp, rl, e0, hxt, hnv', hgi]
      refine NX.of ⟨k - 1, by omega, i + 1, by omega, rfl, ?_, by simp [E0], by simp [E1], by simp [E11], by simp [E12], by simp⟩
      rw [hpos, posL, if_pos hnv]; omega
    · have hnv' : n ≤ v.tn := by omega
      simp [E0, E1, E11, E12, E13, hlt, hlt', g1, g2, gp, rl, e0, hxt, hnv', hgi]
      have hp0 : posL m.l n = i := by rw [hpos, posL, if_neg hnv]; rfl
      refine DN.of ⟨?_, Ext.refl _⟩
      unfold isL
      rw [hp0, hv]
  · have hlt' : ¬ (i : Int) < ps.length := by omega
    obtain rfl : i = ps.length := by omega
    have hp0 : posL m.l n = ps.length := by rw [hpos, hl, List.drop_length]; rfl
    have hh : isL m.l n = false := by unfold isL; rw [hp0, hl, List.getElem?_eq_none (Nat.le_refl _)]
    simp [E0, E12, E13, hlt', g]
    exact DN.of ⟨by rw [hp0, hh], Ext.refl _⟩
theorem owner_ok (h : MP n0 A mb ps m) (hm : m.wf) (k : Ky) : ACall Tryz.prog 49 [.pointer (some ⟨mb, 0, none⟩), .agg k.enc.toArray] A fun r A' => Ext A A' ∧ ((ownI m.l k = none ∧ r = .pointer none) ∨ ∃ (i p : Nat), ownI m.l k = some i ∧ ps[i]? = some p ∧ r = .pointer (some ⟨p, 0, none⟩)) := by
  have hl := h.len
  have hml := hm.len
  have hman := h.man
  obtain ⟨lv, av, nv, g, a, c, rfl, hs⟩ := hman
  have klen : k.enc.length = 4 := rfl
  have k3 : k.enc[3]'(by rw [klen]; omega) = .int .i64 k.lsp := rfl
  refine ACall.wf fun hwf => ?_
  have x1 := Ext.alloc A (.row k.enc 38 false)
  have hmlt : mb < A.next := hwf _ _ g
  have hmn : ¬ mb = A.next := by omega
  have hobx : ∃ A1, A1 = A.alloc (.row k.enc 38 false) := ⟨_, rfl⟩
  obtain ⟨A1, hA1⟩ := hobx
  rw [← hA1] at x1
  have w1 : A1.wf := by rw [hA1]; exact AH.wf_alloc hwf _
  have gk : A1.get A.next = some (.row k.enc 38 false) := by rw [hA1, AH.get_new]
  have h1 := h.ext hwf x1
  have s1 := hs.ext hwf x1
  refine code49.call (by simp) fun hwf => ?_
  unfold c49
  have gm1 := x1.get hwf g
  simp [g, klen, ← hA1, hmn, gm1]
  refine LN.use (fun j E A' => ∃ i : Nat, j + i = ps.length ∧ A' = A1 ∧ ownI m.l k = (ownI (m.l.drop i) k).map (· + i) ∧ E.get 0 = .pointer (some ⟨mb, 0, none⟩) ∧ E.get 3 = .pointer (some ⟨A.next, 0, none⟩) ∧ E.get 10 = .slice a ps.length c ∧ E.get 11 = .int .i64 ps.length ∧ E.get 12 = .int .i64 i) ps.length
    ⟨0, by omega, rfl, by simp, by simp, by simp, by simp, by simp, by simp⟩ ?_
  rintro j E A2 hw2 hn2 ⟨i, hi, rfl, hpos, E0, E3, E10, E11, E12⟩
  by_cases hlt : i < ps.length
  · have hlt' : (i : Int) < ps.length := by omega
    have hgi : IntKind.i64.wrap ((i : Int) + 1) = ((i + 1 : Nat) : Int) := by rw [i64_in (by omega) (by omega)]; simp
    obtain ⟨p, hp⟩ : ∃ p, ps[i]? = some p := ⟨ps[i]'hlt, List.getElem?_eq_getElem hlt⟩
    have hobt := h1.vp hp
    obtain ⟨v, hv⟩ := hobt
    have hobt := h1.row hp hv
    obtain ⟨x, hx, gp, -, -⟩ := hobt
    have rl := row_len x mb
    have rnk := row_nowk x mb
    have rwk := row_newk x mb
    have hx1 : x.now.s.k = v.now.k := by rw [← hx]; rfl
    have hx2 : x.new.s.k = v.new.k := by rw [← hx]; rfl
    have hobt := s1.one (i := i) (v := .pointer (some ⟨p, 0, none⟩)) (sl_ptr s1 hp)
    obtain ⟨b, o, cs, q, rfl, g1, g2⟩ := hobt
    rw [drop_at hv, ownI] at hpos
    have next : hitB v k = false → ownI m.l k = (ownI (m.l.drop (i + 1)) k).map (· + (i + 1)) := fun e => by
      rw [hpos, e, if_neg (by simp), Option.map_map]; congr 1; funext z; simp only [Function.comp]; omega
    have here : hitB v k = true → ownI m.l k = some i := fun e => by
      rw [hpos, if_pos e]; simp
    by_cases hz : k.lsp = 0
    · simp [E0, E3, E10, E11, E12, hlt, hlt', g1, g2, gp, gk, klen, k3, rl, rnk, rwk, hz, hgi]
      exact NX.of ⟨j - 1, by omega, i + 1, by omega, rfl, next (by simp [hitB, hz]), by simp [E0], by simp [E3], by simp [E10], by simp [E11], by simp⟩
    by_cases hk1 : v.now.k = k
    · simp [E0, E3, E10, E11, E12, hlt, hlt', g1, g2, gp, gk, klen, k3, rl, rnk, rwk, hz, hgi, hx1, hx2, hk1]
      exact DN.of ⟨x1, Or.inr ⟨i, p, here (by simp [hitB, hz, hk1]), hp, rfl⟩⟩
    by_cases hk2 : v.new.k = k
    · simp [E0, E3, E10, E11, E12, hlt, hlt', g1, g2, gp, gk, klen, k3, rl, rnk, rwk, hz, hgi, hx1, hx2, hk1, hk2]
      exact DN.of ⟨x1, Or.inr ⟨i, p, here (by simp [hitB, hz, hk2]), hp, rfl⟩⟩
    · simp [E0, E3, E10, E11, E12, hlt, hlt', g1, g2, gp, gk, klen, k3, rl, rnk, rwk, hz, hgi, hx1, hx2, hk1, hk2]
      exact NX.of ⟨j - 1, by omega, i + 1, by omega, rfl, next (by simp [hitB, hz, hk1, hk2]), by simp [E0], by simp [E3], by simp [E10], by simp [E11], by simp⟩
  · have hlt' : ¬ (i : Int) < ps.length := by omega
    obtain rfl : i = ps.length := by omega
    simp [E11, E12, hlt']
    exact DN.of ⟨x1, Or.inl ⟨by rw [hpos, hl, List.drop_length]; rfl, rfl⟩⟩
def Mg.leave (m : Mg) (i : Nat) (v : Vw) : Mg := ((if v.now.k.lsp = 0 then m else m.does ⟨4, v.tn, kyZ, wtZ, []⟩).stop v.tn v.now).put i { v with now := lsZ }
def bareA (kind : Int) (k : Ky) : AcM := ⟨⟨kind, 0, k, wtZ, []⟩, none, 0⟩
theorem bareA_ok (A : AH) (kind : Int) (k : Ky) : (bareA kind k).ok A := ⟨Sl.nil Pla.no _ _ _, (fun h => absurd rfl h), by simp [bareA]⟩
theorem leave_ok (h : MP n0 A mb ps m) (hp : ps[i]? = some p) (hv : m.l[i]? = some v) (hr : m.room 2) (hn0 : n0 ≤ A.next) : ACall Tryz.prog 53 [.pointer (some ⟨p, 0, none⟩)] A fun _ A' => MP n0 A' mb ps (m.leave i v) ∧ Fr n0 A A' := by
  have hobt := h.row hp hv
  obtain ⟨x, hx, gp, -, -⟩ := hobt
  have rl := row_len x mb
  have rn := row_now x mb
  have hxk : x.now.s.k.lsp = v.now.k.lsp := by rw [← hx]; rfl
  refine ACall.wf fun hwf => ?_
  refine code53.call (by simp) fun hwf => ?_
  unfold c53
  simp [gp, rl, rn]
  refine CN.use (lis_ok x.now A) ?_
  rintro _ A1 hw1 hn1 ⟨rfl, x1⟩
  have h1 := h.ext hwf x1
  have gp1 := x1.get hwf gp
  by_cases hk : v.now.k.lsp = 0
  · simp [hxk, hk, gp1, rl]
    refine CN.use (mp_stop_now h1 hp hv ⟨by have := hr.1; omega, by have := hr.2; omega⟩ (by omega)) ?_
    rintro _ A2 hw2 hn2 ⟨h2, f2⟩
    simp
    exact DN.of ⟨by unfold Mg.leave; rw [if_pos hk]; exact h2, (Fr.ext hwf hn0 x1).trans f2⟩
  · simp [hxk, hk, gp1, rl]
    refine CN.use (mp_does h1 hp hv (bareA 4 kyZ) (bareA_ok _ _ _) ⟨by have := hr.1; omega, by have := hr.2; omega⟩ (by omega)) ?_
    rintro _ A2 hw2 hn2 ⟨h2, f2⟩
    have hobt := h2.row hp hv
    obtain ⟨x', hx', gp2, -, -⟩ := hobt
    simp [gp2, row_len x' mb]
    refine CN.use (mp_stop_now h2 hp hv ⟨by have := hr.1; simp [Mg.does]; omega, by have := hr.2; simp [Mg.does]; omega⟩ (by omega)) ?_
    rintro _ A3 hw3 hn3 ⟨h3, f3⟩
    simp
    exact DN.of ⟨by unfold Mg.leave; rw [if_neg hk]; exact h3, (Fr.ext hwf hn0 x1).trans (f2.trans f3)⟩
end
section
variable (x : VwM)
theorem vw_len : x.enc.length = 32 := rfl
theorem vw_one : ∀ v ∈ x.enc, oneB v = true := List.all_eq_true.1 (rfl : x.enc.all oneB = true)
theorem vw_now : (x.enc.drop 8).take 11 = x.now.enc := rfl
theorem vw_new : (x.enc.drop 19).take 11 = x.new.enc := rfl
theorem vw_take : x.enc.take 32 = x.enc := rfl
theorem vset_now (y : LsM) : spl x.enc 8 y.enc = VwM.enc { x with now := y } := rfl
theorem vset_new (y : LsM) : spl x.enc 19 y.enc = VwM.enc { x with new := y } := rfl
end
theorem own_ok {A : AH} {x : LsM} (h : x.ok A) : ACall Tryz.prog 36 [.agg x.enc.toArray] A fun r A' => Ext A A' ∧ ∃ y : LsM, r = .agg y.enc.toArray ∧ y.s = x.s ∧ y.ok A' := by
  obtain ⟨hs, ht, hl⟩ := h
  have c1 : x.enc.length = 11 := rfl
  have c2 : ∀ v ∈ x.enc, oneB v = true := List.all_eq_true.1 (rfl : x.enc.all oneB = true)
  have c3 : x.enc.take 11 = x.enc := rfl
  have c10 : x.enc[10]'(by omega) = .slice x.a x.s.r.length x.c := rfl
  refine ACall.wf fun hwf => ?_
  have hobx : ∃ A1, A1 = (A.alloc (.row x.enc 69 false)).alloc (.row lmZ.enc 69 false) := ⟨_, rfl⟩
  obtain ⟨A1, hA1⟩ := hobx
  have x1 : Ext A A1 := by rw [hA1]; exact (Ext.alloc A _).app (by simp) _
  have w1 : A1.wf := by rw [hA1]; exact AH.wf_alloc (AH.wf_alloc hwf _) _
  have n1 : A1.next = A.next + 2 := by rw [hA1]; rfl
  have g0 : A1.get A.next = some (.row x.enc 69 false) := by rw [hA1]; simp [AH.get_alloc]
  have g1 : A1.get (A.next + 1) = some (.row lmZ.enc 69 false) := by rw [hA1]; simp [AH.get_alloc]
  have hzc : lmZ.enc = [.int .i64 0, .int .i64 0, .int .i64 0, .int .i64 0, .int .u64 0, .int .i64 0, .int .i64 0, .int .u32 0, .int .u32 0, .int .u32 0, .slice none 0 0] := rfl
  rw [hzc] at hA1
  have zl : lmZ.enc.length = 11 := rfl
  refine code36.call (by simp) fun hwf => ?_
  unfold c36
  simp [c1, c3, ← hA1, g0, c10]
  refine CN.use (clone_ok (hs.ext hwf x1) (by omega)) ?_
  rintro _ A2 hw2 hn2 ⟨x2, a', c', rfl, s2, -, -, -, t2⟩
  have g02 := x2.get w1 g0
  have g12 := x2.get w1 g1
  have hobx : ∃ y : LsM, y = ⟨x.s, a', c'⟩ := ⟨_, rfl⟩
  obtain ⟨y, hy⟩ := hobx
  have hset : spl x.enc 10 [.slice a' x.s.r.length c'] = y.enc := by rw [hy]; rfl
  have y1 : y.enc.length = 11 := rfl
  have y3 : y.enc.take 11 = y.enc := rfl
  have y4 : spl lmZ.enc 0 y.enc = y.enc := rfl
  have hn : A.next ≠ A.next + 1 := by omega
  simp [g02, c1, hset, y1, y3, g12, zl, y4]
  have y2 : ∀ v ∈ y.enc, oneB v = true := List.all_eq_true.1 (rfl : y.enc.all oneB = true)
  refine ⟨y2, ?_⟩
  have x02 := x1.trans (by omega) x2
  have hyo : y.ok A2 := by
    rw [hy]
    refine ⟨s2, fun hne b o e => ?_, hl⟩
    have hobt := t2 hne
    obtain ⟨b', e3, e4⟩ := hobt
    have e : a' = some ⟨b, o, none⟩ := e
    rw [e3] at e; injection e with e; injection e with e _ _; subst e; exact ⟨_, _, e4⟩
  have hf : FrT A2 ((A2.set A.next (.row y.enc 69 false)).set (A.next + 1) (.row y.enc 69 false)) → True := fun _ => trivial
  refine DN.of ⟨(x02.setnew (Nat.le_refl _) _).setnew (by omega) _, y, rfl, by rw [hy], ?_⟩
  obtain ⟨h1, h2, h3⟩ := hyo
  by_cases hr : y.s.r = []
  · refine ⟨?_, fun h => absurd hr h, h3⟩
    rw [hr] at h1 ⊢
    exact Sl.nil h1.2.1 _ _ _
  have hk : ∀ b o, y.a = some ⟨b, o, none⟩ → ((A2.set A.next (.row y.enc 69 false)).set (A.next + 1) (.row y.enc 69 false)).get b = A2.get b := fun b o e => by
    have hobt := h2 hr b o e
    obtain ⟨cs, ro, g⟩ := hobt
    rw [AH.get_set, if_neg, AH.get_set, if_neg]
    · intro e; subst e; rw [g02] at g; injection g with g; injection g with _ g _; revert g; decide
    · intro e; subst e; rw [g12] at g; injection g with g; injection g with _ g _; revert g; decide
  exact ⟨h1.kept fun b o y e _ => hk b o e, fun _ b o e => by
    have hobt := h2 hr b o e
    obtain ⟨cs, ro, g⟩ := hobt
    exact ⟨cs, ro, (hk b o e).trans g⟩, h3⟩
end Go.Proofs.YtnlopamlmojbgaaGreat.AC
