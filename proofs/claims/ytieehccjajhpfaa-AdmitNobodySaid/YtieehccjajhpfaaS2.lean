/-
  What the functions of the program, and those of the law, do.
-/
import Derived.Test.YtieehccjajhpfaaS1
import Derived.Test.YtieehccjajhpfaaP3
set_option linter.unusedSimpArgs false
set_option linter.unusedVariables false
/- Sorting pointers: by the heap; backwards. -/
namespace Go.Proofs.Ytieehccjajhpfaa.AC
open Go Go.AI Go.Proofs Go.Proofs.Ytieehccjajhpfaa.AQ
set_option linter.unusedVariables false
section
variable {Q : Nat → Prop} {A0 A A' : AH} {bb n c : Nat} {d : Array Nat} {lt : Nat → Nat → Bool} {f : FuncId}
theorem sift_sizeF {hi F : Nat} : ∀ (m root : Nat) (d : Array Nat), hi - root = m → (Sort.siftDown lt hi F root d).size = d.size := by
  intro m
  induction m using Nat.strongRecOn with
  | ind m ih =>
    intro root d hm
    by_cases h : 2 * root + 1 < hi
    · obtain ⟨ch, -, h1, h2, h3⟩ := sift_posF (lt := lt) (F := F) (d := d) h
      rw [h3]
      split
      · rw [ih (hi - ch) (by omega) ch _ rfl, Sort.size_swp]
      · rfl
    · rw [Sort.siftDown, dif_pos (show 2 * root + 1 ≥ hi by omega)]
theorem heapsF_ok (h : SSF Q A0 A (some bb) (.slice (some ⟨bb, 0, none⟩) n c) d) (hz : d.size = n) (hc : CmpF A0 (some bb) Q lt f) {a b : Nat} (hab : a < b) (hb : b ≤ n) :
    ACall Try.prog 73 [.slice (some ⟨bb, 0, none⟩) n c, .int .i64 a, .int .i64 b, .func (.func f) #[] #[]] A fun _ A' => SSF Q A0 A' (some bb) (.slice (some ⟨bb, 0, none⟩) n c) (Sort.heapSort lt d a b) := by
  have hz5 := h.sz
  have hexq : ∃ x : Nat, x = b - a := ⟨_, rfl⟩
  obtain ⟨hi, hhi⟩ := hexq
  have hexq : ∃ x : Nat, x = hi - 1 := ⟨_, rfl⟩
  obtain ⟨h1, hh1⟩ := hexq
  have hexq : ∃ x : Nat, x = h1 / 2 := ⟨_, rfl⟩
  obtain ⟨q, hq⟩ := hexq
  have hw0 : IntKind.i64.wrap ((b : Int) - a) = (hi : Int) := by rw [i64_in (by omega) (by omega)]; omega
  have hw1 : IntKind.i64.wrap ((hi : Int) - 1) = (h1 : Int) := by rw [i64_in (by omega) (by omega)]; omega
  have hw2 : IntKind.i64.wrap ((h1 : Int) / 2) = (q : Int) := by rw [show (h1 : Int) / 2 = ((h1 / 2 : Nat) : Int) from by omega, i64_in (by omega) (by omega), hq]
  have hw3 : ∀ k : Nat, k ≤ n → IntKind.i64.wrap ((k : Int) - 1) = (k : Int) - 1 := fun k hk => i64_in (by omega) (by omega)
  refine code73.call (by simp) fun hwf => ?_
  unfold c73
  simp [hw0, hw1, hw2]
  refine LN.use (fun m E A' => ∃ (k : Nat) (x : Int) (d' : Array Nat), m = k ∧ x = (k : Int) - 1 ∧ k ≤ n ∧ d'.size = n ∧ Sort.heapBuild lt hi a k d' = Sort.heapBuild lt hi a (q + 1) d ∧ SSF Q A0 A' (some bb) (.slice (some ⟨bb, 0, none⟩) n c) d' ∧ E.get 0 = .slice (some ⟨bb, 0, none⟩) n c ∧ E.get 3 = .func (.func f) #[] #[] ∧ E.get 8 = .int .i64 a ∧ E.get 9 = .int .i64 0 ∧ E.get 10 = .int .i64 hi ∧ E.get 11 = .int .i64 x) (q + 1)
    ⟨q + 1, q, d, rfl, by omega, by omega, hz, rfl, h, by simp, by simp, by simp, by simp, by simp, by simp⟩ ?_
  rintro m E A2 hwB hnB ⟨k, x, d2, rfl, hx, hkn, z2, q2, s2, e0, e3, e8, e9, e10, e11⟩
  by_cases hk0 : 0 < m
  · obtain ⟨j, rfl⟩ : ∃ j : Nat, x = j := ⟨m - 1, by omega⟩
    have hj : j + 1 = m := by omega
    simp [e0, e3, e8, e9, e10, e11]
    refine CN.use (siftF_ok s2 z2 hc (lo := j) (hi := hi) (F := a) (by omega) (by omega)) ?_
    rintro _ A3 hwC hnC s3
    simp [e11, hw3 j (by omega)]
    exact NX.of ⟨j, by omega, j, (j : Int) - 1, _, rfl, rfl, by omega, by rw [sift_sizeF _ _ _ rfl]; exact z2, by rw [← q2, ← hj, Sort.heapBuild], s3, by simp [e0], by simp [e3], by simp [e8], by simp [e9], by simp [e10], by simp⟩
  obtain rfl : m = 0 := by omega
  obtain rfl : x = -1 := by omega
  rw [Sort.heapBuild] at q2
  simp [e10, e11, hw1]
  refine LN.use (fun m E A' => ∃ (k : Nat) (x : Int) (d' : Array Nat), m = k ∧ x = (k : Int) - 1 ∧ k ≤ hi ∧ d'.size = n ∧ Sort.heapPop lt a k d' = Sort.heapSort lt d a b ∧ SSF Q A0 A' (some bb) (.slice (some ⟨bb, 0, none⟩) n c) d' ∧ E.get 0 = .slice (some ⟨bb, 0, none⟩) n c ∧ E.get 3 = .func (.func f) #[] #[] ∧ E.get 8 = .int .i64 a ∧ E.get 9 = .int .i64 0 ∧ E.get 12 = .int .i64 x) hi
    ⟨hi, h1, d2, rfl, by omega, Nat.le_refl _, z2, by rw [q2, Sort.heapSort, ← hhi, ← hh1, ← hq], s2, by simp [e0], by simp [e3], by simp [e8], by simp [e9], by simp⟩ ?_
  clear e0 e3 e8 e9 e10 e11 s2 z2 q2
  rintro m E A4 hwD hnD ⟨k, x, d2, rfl, hx, hkn, z2, q2, s2, e0, e3, e8, e9, e12⟩
  by_cases hk0 : 0 < m
  · obtain ⟨j, rfl⟩ : ∃ j : Nat, x = j := ⟨m - 1, by omega⟩
    have hj : j + 1 = m := by omega
    have hexq : ∃ x : Nat, x = a + j := ⟨_, rfl⟩
    obtain ⟨p, hp⟩ := hexq
    have hwp : IntKind.i64.wrap ((a : Int) + (j : Int)) = (p : Int) := by rw [i64_in (by omega) (by omega)]; omega
    have ha1 : a < d2.size := by omega
    have hp1 : p < d2.size := by omega
    have ha2 : a < n := by omega
    have hp2 : p < n := by omega
    have hobt := s2.at2 ha1 hp1
    obtain ⟨cs, k1, ⟨k2, k3⟩, ⟨k4, k5⟩, k6, k7⟩ := hobt
    simp [-getElem!_pos, e0, e3, e8, e9, e12, hwp, ha2, hp2, k1, k2, k3, k4, k5, k6]
    have s3 := k7 (A4.set bb (.row (spl (spl cs a [.pointer (some ⟨d2[p]!, 0, none⟩)]) p [.pointer (some ⟨d2[a]!, 0, none⟩)]) 86 false)) (by rw [AH.get_set, if_pos rfl]) (fun k hk hkb => by rw [AH.get_set, if_neg hkb]) (by simp)
    refine CN.use (siftF_ok s3 (by rw [Sort.size_swp]; exact z2) hc (lo := 0) (hi := j) (F := a) (by omega) (by omega)) ?_
    rintro _ A5 hwE hnE s5
    simp [e12, hw3 j (by omega)]
    exact NX.of ⟨j, by omega, j, (j : Int) - 1, _, rfl, rfl, by omega, by rw [sift_sizeF _ _ _ rfl, Sort.size_swp]; exact z2, by rw [← q2, ← hj, Sort.heapPop, ← hp], s5, by simp [e0], by simp [e3], by simp [e8], by simp [e9], by simp⟩
  obtain rfl : m = 0 := by omega
  obtain rfl : x = -1 := by omega
  rw [Sort.heapPop] at q2
  simp [e12]
  exact DN.of (by rw [← q2]; exact s2)
theorem revF_ok (h : SSF Q A0 A (some bb) (.slice (some ⟨bb, 0, none⟩) n c) d) (hz : d.size = n) {a b : Nat} (hab : a < b) (hb : b ≤ n) (g : Value) :
    ACall Try.prog 76 [.slice (some ⟨bb, 0, none⟩) n c, .int .i64 a, .int .i64 b, g] A fun _ A' => ∃ d', Sort.PermIn a b d d' ∧ SSF Q A0 A' (some bb) (.slice (some ⟨bb, 0, none⟩) n c) d' := by
  have hz5 := h.sz
  have hw1 : IntKind.i64.wrap ((b : Int) - 1) = ((b - 1 : Nat) : Int) := by rw [i64_in (by omega) (by omega)]; omega
  refine code76.call (by simp) fun hwf => ?_
  unfold c76
  simp [hw1]
  refine LN.use (fun m E A' => ∃ (i j : Nat) (d' : Array Nat), m = j + 1 - i ∧ a ≤ i ∧ j < b ∧ i ≤ n ∧ Sort.PermIn a b d d' ∧ SSF Q A0 A' (some bb) (.slice (some ⟨bb, 0, none⟩) n c) d' ∧ E.get 0 = .slice (some ⟨bb, 0, none⟩) n c ∧ E.get 8 = .int .i64 i ∧ E.get 9 = .int .i64 j) (b - a)
    ⟨a, b - 1, d, by omega, Nat.le_refl _, by omega, by omega, Sort.permIn_refl _ _ _, h, by simp, by simp, by simp⟩ ?_
  rintro m E A2 hwB hnB ⟨i, j, d2, rfl, hi, hj, hin, p2, s2, e0, e8, e9⟩
  have z2 : d2.size = n := by rw [p2.1]; exact hz
  by_cases hlt : i < j
  · have hlt' : (i : Int) < j := by omega
    have hwi : IntKind.i64.wrap ((i : Int) + 1) = ((i + 1 : Nat) : Int) := by rw [i64_in (by omega) (by omega)]; simp
    have hwj : IntKind.i64.wrap ((j : Int) - 1) = ((j - 1 : Nat) : Int) := by rw [i64_in (by omega) (by omega)]; omega
    have hi1 : i < d2.size := by omega
    have hj1 : j < d2.size := by omega
    have hi2 : i < n := by omega
    have hj2 : j < n := by omega
    have hobt := s2.at2 hi1 hj1
    obtain ⟨cs, k1, ⟨k2, k3⟩, ⟨k4, k5⟩, k6, k7⟩ := hobt
    simp [-getElem!_pos, e0, e8, e9, hlt', hlt, hi2, hj2, k1, k2, k3, k4, k5, k6, hwi, hwj]
    exact NX.of ⟨j - 1 + 1 - (i + 1), by omega, i + 1, j - 1, _, rfl, by omega, by omega, by omega, Sort.permIn_trans _ _ _ a b p2 (Sort.swp_permIn d2 a b i j hi (by omega) (by omega) hj (by omega)), k7 _ (by rw [AH.get_set, if_pos rfl]) (fun k hk hkb => by rw [AH.get_set, if_neg hkb]) (by simp), by simp [e0], by simp, by simp⟩
  · have hlt' : ¬ (i : Int) < j := by omega
    simp [e8, e9, hlt, hlt']
    exact DN.of ⟨d2, p2, s2⟩
end
end Go.Proofs.Ytieehccjajhpfaa.AC
/- Sorting pointers: the pivot. -/
namespace Go.Proofs.Ytieehccjajhpfaa.AC
open Go Go.AI Go.Proofs Go.Proofs.Ytieehccjajhpfaa.AQ
set_option linter.unusedVariables false
section
variable {Q : Nat → Prop} {A0 A A' : AH} {bb n c : Nat} {d : Array Nat} {lt : Nat → Nat → Bool} {f : FuncId}
theorem SSF.off {v : Value} (h : SSF Q A0 A (some bb) v d) {sp : Nat} (h1 : sp ≠ bb) (h2 : A0.next ≤ sp) (x : Blk) : SSF Q A0 (A.set sp x) (some bb) v d :=
  ⟨h.lq.kept fun b hb => by injection hb with hb; subst hb; rw [AH.get_set, if_neg (Ne.symm h1)], fun b b1 b2 => by rw [AH.get_set, if_neg (by omega)]; exact h.ko b b1 b2, by simpa using h.nx, h.q, h.sz⟩
def SwpF (A : AH) (sp : Nat) : Prop := ∃ x, A.get sp = some (.row [.int .i64 x] 3 false)
theorem ord2F_ok (h : SSF Q A0 A (some bb) (.slice (some ⟨bb, 0, none⟩) n c) d) (hz : d.size = n) (hc : CmpF A0 (some bb) Q lt f) {a b sp : Nat} (ha : a < n) (hb : b < n) (hs : SwpF A sp) (hs1 : sp ≠ bb) (hs2 : A0.next ≤ sp) :
    ACall Try.prog 105 [.slice (some ⟨bb, 0, none⟩) n c, .int .i64 a, .int .i64 b, .pointer (some ⟨sp, 0, none⟩), .func (.func f) #[] #[]] A fun v A' => ∃ p q : Nat, ((p = a ∧ q = b) ∨ (p = b ∧ q = a)) ∧ v = .tuple #[.int .i64 p, .int .i64 q] ∧ SSF Q A0 A' (some bb) (.slice (some ⟨bb, 0, none⟩) n c) d ∧ SwpF A' sp := by
  have hz5 := h.sz
  have ha1 : a < d.size := by omega
  have hb1 : b < d.size := by omega
  have hobt := h.at2 hb1 ha1
  obtain ⟨cs, k1, ⟨k2, k3⟩, ⟨k4, k5⟩, -, -⟩ := hobt
  obtain ⟨x, hx⟩ := hs
  refine code105.call (by simp) fun hwf => ?_
  unfold c105
  simp [-getElem!_pos, ha, hb, k1, k2, k3, k4, k5]
  refine CN.use (hc A h.ko h.nx _ _ (h.q _ hb1) (h.q _ ha1)) ?_
  rintro _ A2 hw2 hn2 ⟨r, rfl, -, x2⟩
  have g1 := x2.get hwf hx
  have h2 := h.ext hwf x2 hn2
  by_cases hr : r < 0
  · simp [hr, g1]
    exact DN.of ⟨b, a, Or.inr ⟨rfl, rfl⟩, rfl, h2.off hs1 hs2 _, _, by rw [AH.get_set, if_pos rfl]⟩
  · simp [hr]
    exact DN.of ⟨a, b, Or.inl ⟨rfl, rfl⟩, rfl, h2, x, g1⟩
theorem medF_ok (h : SSF Q A0 A (some bb) (.slice (some ⟨bb, 0, none⟩) n c) d) (hz : d.size = n) (hc : CmpF A0 (some bb) Q lt f) {a b e sp : Nat} (ha : a < n) (hb : b < n) (he : e < n) (hs : SwpF A sp) (hs1 : sp ≠ bb) (hs2 : A0.next ≤ sp) :
    ACall Try.prog 99 [.slice (some ⟨bb, 0, none⟩) n c, .int .i64 a, .int .i64 b, .int .i64 e, .pointer (some ⟨sp, 0, none⟩), .func (.func f) #[] #[]] A fun v A' => ∃ p : Nat, (p = a ∨ p = b ∨ p = e) ∧ v = .int .i64 p ∧ SSF Q A0 A' (some bb) (.slice (some ⟨bb, 0, none⟩) n c) d ∧ SwpF A' sp := by
  refine code99.call (by simp) fun hwf => ?_
  unfold c99
  simp
  refine CN.use (ord2F_ok h hz hc ha hb hs hs1 hs2) ?_
  rintro _ A2 hw2 hn2 ⟨p, q, hpq, rfl, h2, s2⟩
  simp
  refine CN.use (ord2F_ok h2 hz hc (a := q) (b := e) (by omega) he s2 hs1 hs2) ?_
  rintro _ A3 hw3 hn3 ⟨p', q', hpq', rfl, h3, s3⟩
  simp
  refine CN.use (ord2F_ok h3 hz hc (a := p) (b := p') (by omega) (by omega) s3 hs1 hs2) ?_
  rintro _ A4 hw4 hn4 ⟨p'', q'', hpq'', rfl, h4, s4⟩
  simp
  exact DN.of ⟨q'', by omega, rfl, h4, s4⟩
theorem medaF_ok (h : SSF Q A0 A (some bb) (.slice (some ⟨bb, 0, none⟩) n c) d) (hz : d.size = n) (hc : CmpF A0 (some bb) Q lt f) {a sp : Nat} (ha0 : 0 < a) (ha : a + 1 < n) (hs : SwpF A sp) (hs1 : sp ≠ bb) (hs2 : A0.next ≤ sp) :
    ACall Try.prog 98 [.slice (some ⟨bb, 0, none⟩) n c, .int .i64 a, .pointer (some ⟨sp, 0, none⟩), .func (.func f) #[] #[]] A fun v A' => ∃ p : Nat, (p = a - 1 ∨ p = a ∨ p = a + 1) ∧ v = .int .i64 p ∧ SSF Q A0 A' (some bb) (.slice (some ⟨bb, 0, none⟩) n c) d ∧ SwpF A' sp := by
  have hz5 := h.sz
  have hexq : ∃ x : Nat, x = a - 1 := ⟨_, rfl⟩
  obtain ⟨a1, ha1⟩ := hexq
  have hexq : ∃ x : Nat, x = a + 1 := ⟨_, rfl⟩
  obtain ⟨a2, ha2⟩ := hexq
  have hw1 : IntKind.i64.wrap ((a : Int) - 1) = (a1 : Int) := by rw [i64_in (by omega) (by omega)]; omega
  have hw2 : IntKind.i64.wrap ((a : Int) + 1) = (a2 : Int) := by rw [i64_in (by omega) (by omega)]; omega
  refine code98.call (by simp) fun hwf => ?_
  unfold c98
  simp [hw1, hw2]
  refine CN.use (medF_ok h hz hc (a := a1) (b := a) (e := a2) (by omega) (by omega) (by omega) hs hs1 hs2) ?_
  rintro _ A2 hw2 hn2 ⟨p, hp, rfl, h2, s2⟩
  simp
  exact DN.of ⟨p, by omega, rfl, h2, s2⟩
set_option maxHeartbeats 1000000 in
theorem pivF_ok (h : SSF Q A0 A (some bb) (.slice (some ⟨bb, 0, none⟩) n c) d) (hz : d.size = n) (hc : CmpF A0 (some bb) Q lt f) {a b : Nat} (hab : a + 12 < b) (hb : b ≤ n) :
    ACall Try.prog 75 [.slice (some ⟨bb, 0, none⟩) n c, .int .i64 a, .int .i64 b, .func (.func f) #[] #[]] A fun v A' => ∃ (p : Nat) (x : Int), a ≤ p ∧ p < b ∧ v = .tuple #[.int .i64 p, .int .i64 x] ∧ SSF Q A0 A' (some bb) (.slice (some ⟨bb, 0, none⟩) n c) d := by
  have hz5 := h.sz
  have hexq : ∃ x : Nat, x = b - a := ⟨_, rfl⟩
  obtain ⟨L, hL⟩ := hexq
  have hexq : ∃ x : Nat, x = L / 4 := ⟨_, rfl⟩
  obtain ⟨q, hq⟩ := hexq
  have hexq : ∃ x : Nat, x = q * 2 := ⟨_, rfl⟩
  obtain ⟨m2, hm2⟩ := hexq
  have hexq : ∃ x : Nat, x = q * 3 := ⟨_, rfl⟩
  obtain ⟨m3, hm3⟩ := hexq
  have hexq : ∃ x : Nat, x = a + q := ⟨_, rfl⟩
  obtain ⟨i, hi⟩ := hexq
  have hexq : ∃ x : Nat, x = a + m2 := ⟨_, rfl⟩
  obtain ⟨j, hj⟩ := hexq
  have hexq : ∃ x : Nat, x = a + m3 := ⟨_, rfl⟩
  obtain ⟨k, hk⟩ := hexq
  have v0 : IntKind.i64.wrap ((b : Int) - a) = (L : Int) := by rw [i64_in (by omega) (by omega)]; omega
  have v1 : IntKind.i64.wrap ((L : Int) / 4) = (q : Int) := by rw [show (L : Int) / 4 = ((L / 4 : Nat) : Int) from by omega, i64_in (by omega) (by omega), hq]
  have v2 : IntKind.i64.wrap (q : Int) = (q : Int) := i64_in (by omega) (by omega)
  have v3 : IntKind.i64.wrap ((q : Int) * 2) = (m2 : Int) := by rw [i64_in (by omega) (by omega)]; omega
  have v4 : IntKind.i64.wrap ((q : Int) * 3) = (m3 : Int) := by rw [i64_in (by omega) (by omega)]; omega
  have v5 : IntKind.i64.wrap ((a : Int) + q) = (i : Int) := by rw [i64_in (by omega) (by omega)]; omega
  have v6 : IntKind.i64.wrap ((a : Int) + m2) = (j : Int) := by rw [i64_in (by omega) (by omega)]; omega
  have v7 : IntKind.i64.wrap ((a : Int) + m3) = (k : Int) := by rw [i64_in (by omega) (by omega)]; omega
  have fi : 0 < i ∧ i + 1 < n ∧ a + 1 ≤ i ∧ i + 1 < b := by omega
  have fj : 0 < j ∧ j + 1 < n ∧ a + 1 ≤ j ∧ j + 1 < b := by omega
  have fk : 0 < k ∧ k + 1 < n ∧ a + 1 ≤ k ∧ k + 1 < b := by omega
  have hL8 : (8 : Int) ≤ L := by omega
  refine ACall.wf fun hwf => ?_
  have hbb : bb < A.next := h.lq.lt hwf rfl
  have s0 : SSF Q A0 (A.alloc (.row [.int .i64 0] 3 false)) (some bb) (.slice (some ⟨bb, 0, none⟩) n c) d := h.ext hwf (Ext.alloc A _) (by simp)
  have w0 : SwpF (A.alloc (.row [.int .i64 0] 3 false)) A.next := ⟨0, AH.get_new _ _⟩
  have hs1 : A.next ≠ bb := by omega
  have hs2 := h.nx
  by_cases h50 : (50 : Int) ≤ L
  · refine code75.call (by simp) fun hwf => ?_
    unfold c75
    simp [v0, v1, v2, v3, v4, v5, v6, v7, hL8, h50]
    refine CN.use (medaF_ok s0 hz hc (a := i) fi.1 fi.2.1 w0 hs1 hs2) ?_
    rintro _ A1 hw1 hn1 ⟨i2, hi2, rfl, s1, w1⟩
    simp [v0, v1, v2, v3, v4, v5, v6, v7, hL8, h50]
    refine CN.use (medaF_ok s1 hz hc (a := j) fj.1 fj.2.1 w1 hs1 hs2) ?_
    rintro _ A2 hw2 hn2 ⟨j2, hj2, rfl, s2, w2⟩
    simp [v0, v1, v2, v3, v4, v5, v6, v7, hL8, h50]
    refine CN.use (medaF_ok s2 hz hc (a := k) fk.1 fk.2.1 w2 hs1 hs2) ?_
    rintro _ A3 hw3 hn3 ⟨k2, hk2, rfl, s3, w3⟩
    simp [v0, v1, v2, v3, v4, v5, v6, v7, hL8, h50]
    have gi : a ≤ i2 ∧ i2 < n ∧ i2 < b := by clear v0 v1 v2 v3 v4 v5 v6 v7; omega
    have gj : a ≤ j2 ∧ j2 < n ∧ j2 < b := by clear v0 v1 v2 v3 v4 v5 v6 v7; omega
    have gk : a ≤ k2 ∧ k2 < n ∧ k2 < b := by clear v0 v1 v2 v3 v4 v5 v6 v7; omega
    refine CN.use (medF_ok s3 hz hc (a := i2) (b := j2) (e := k2) gi.2.1 gj.2.1 gk.2.1 w3 hs1 hs2) ?_
    rintro _ A5 hw5 hn5 ⟨p, hp, rfl, h5, x, hx⟩
    have gp : a ≤ p ∧ p < b := by
      rcases hp with rfl | rfl | rfl
      · exact ⟨gi.1, gi.2.2⟩
      · exact ⟨gj.1, gj.2.2⟩
      · exact ⟨gk.1, gk.2.2⟩
    by_cases x0 : x = 0
    · simp [hx, x0]
      exact DN.of ⟨p, _, gp.1, gp.2, rfl, h5⟩
    by_cases x1 : x = 12
    · simp [hx, x0, x1]
      exact DN.of ⟨p, _, gp.1, gp.2, rfl, h5⟩
    · simp [hx, x0, x1]
      exact DN.of ⟨p, _, gp.1, gp.2, rfl, h5⟩
  · have w3 := w0
    have hexq : ∃ x : Nat, x = i := ⟨_, rfl⟩
    obtain ⟨i2, hi2⟩ := hexq
    have hexq : ∃ x : Nat, x = j := ⟨_, rfl⟩
    obtain ⟨j2, hj2⟩ := hexq
    have hexq : ∃ x : Nat, x = k := ⟨_, rfl⟩
    obtain ⟨k2, hk2⟩ := hexq
    have gi : a ≤ i2 ∧ i2 < n ∧ i2 < b := by clear v0 v1 v2 v3 v4 v5 v6 v7; omega
    have gj : a ≤ j2 ∧ j2 < n ∧ j2 < b := by clear v0 v1 v2 v3 v4 v5 v6 v7; omega
    have gk : a ≤ k2 ∧ k2 < n ∧ k2 < b := by clear v0 v1 v2 v3 v4 v5 v6 v7; omega
    rw [← hi2] at v5
    rw [← hj2] at v6
    rw [← hk2] at v7
    refine code75.call (by simp) fun hwf => ?_
    unfold c75
    simp [v0, v1, v2, v3, v4, v5, v6, v7, hL8, h50]
    refine CN.use (medF_ok s0 hz hc (a := i2) (b := j2) (e := k2) gi.2.1 gj.2.1 gk.2.1 w3 hs1 hs2) ?_
    rintro _ A5 hw5 hn5 ⟨p, hp, rfl, h5, x, hx⟩
    have gp : a ≤ p ∧ p < b := by
      rcases hp with rfl | rfl | rfl
      · exact ⟨gi.1, gi.2.2⟩
      · exact ⟨gj.1, gj.2.2⟩
      · exact ⟨gk.1, gk.2.2⟩
    by_cases x0 : x = 0
    · simp [hx, x0]
      exact DN.of ⟨p, _, gp.1, gp.2, rfl, h5⟩
    by_cases x1 : x = 12
    · simp [hx, x0, x1]
      exact DN.of ⟨p, _, gp.1, gp.2, rfl, h5⟩
    · simp [hx, x0, x1]
      exact DN.of ⟨p, _, gp.1, gp.2, rfl, h5⟩
end
end Go.Proofs.Ytieehccjajhpfaa.AC
/- Sorting pointers: patterns broken. -/
namespace Go.Proofs.Ytieehccjajhpfaa.AC
open Go Go.AI Go.Proofs Go.Proofs.Ytieehccjajhpfaa.AQ
set_option linter.unusedVariables false
section
variable {Q : Nat → Prop} {A0 A A' : AH} {bb n c : Nat} {d : Array Nat} {lt : Nat → Nat → Bool} {f : FuncId}
set_option maxHeartbeats 1000000 in
theorem brkF_ok (h : SSF Q A0 A (some bb) (.slice (some ⟨bb, 0, none⟩) n c) d) (hz : d.size = n) (hn : n < 256) {a b : Nat} (hab : a + 12 < b) (hb : b ≤ n) (g : Value) :
    ACall Try.prog 74 [.slice (some ⟨bb, 0, none⟩) n c, .int .i64 a, .int .i64 b, g] A fun _ A' => ∃ d', Sort.PermIn a b d d' ∧ SSF Q A0 A' (some bb) (.slice (some ⟨bb, 0, none⟩) n c) d' := by
  have hexq : ∃ x : Nat, x = b - a := ⟨_, rfl⟩
  obtain ⟨L, hL⟩ := hexq
  have hexq : ∃ x : Nat, x = L / 4 := ⟨_, rfl⟩
  obtain ⟨q, hq⟩ := hexq
  have hexq : ∃ x : Nat, x = q * 2 := ⟨_, rfl⟩
  obtain ⟨m2, hm2⟩ := hexq
  have hexq : ∃ x : Nat, x = a + m2 := ⟨_, rfl⟩
  obtain ⟨j, hj⟩ := hexq
  have hexq : ∃ x : Nat, x = j - 1 := ⟨_, rfl⟩
  obtain ⟨j0, hj0⟩ := hexq
  have hexq : ∃ x : Nat, x = j + 1 := ⟨_, rfl⟩
  obtain ⟨j1, hj1⟩ := hexq
  have v0 : IntKind.i64.wrap ((b : Int) - a) = (L : Int) := by rw [i64_in (by omega) (by omega)]; omega
  have v1 : IntKind.i64.wrap ((L : Int) / 4) = (q : Int) := by rw [show (L : Int) / 4 = ((L / 4 : Nat) : Int) from by omega, i64_in (by omega) (by omega), hq]
  have v3 : IntKind.i64.wrap ((q : Int) * 2) = (m2 : Int) := by rw [i64_in (by omega) (by omega)]; omega
  have v6 : IntKind.i64.wrap ((a : Int) + m2) = (j : Int) := by rw [i64_in (by omega) (by omega)]; omega
  have v7 : IntKind.i64.wrap ((j : Int) - 1) = (j0 : Int) := by rw [i64_in (by omega) (by omega)]; omega
  have v8 : IntKind.i64.wrap ((j : Int) + 1) = (j1 : Int) := by rw [i64_in (by omega) (by omega)]; omega
  have v9 : IntKind.u64.wrap (L : Int) = (L : Int) := by rw [wrap64]; omega
  have fj : a + 5 ≤ j ∧ j + 3 ≤ b := by omega
  have hL8 : (8 : Int) ≤ L := by omega
  have hL256 : L < 256 := by omega
  have hL0 : 0 < L := by omega
  refine ACall.wf fun hwf => ?_
  have hbb : bb < A.next := h.lq.lt hwf rfl
  have s0 : SSF Q A0 (A.alloc (.row [.int .u64 L] 143 false)) (some bb) (.slice (some ⟨bb, 0, none⟩) n c) d := h.ext hwf (Ext.alloc A _) (by simp)
  have hnx := h.nx
  refine code74.call (by simp) fun hwf => ?_
  unfold c74
  simp [v0, v1, v3, v6, v7, v9, hL8]
  refine CN.use (npow_ok L hL256 _) ?_
  rintro _ A1 hw1 hn1 ⟨⟨M, l, rfl, hM, hM1, hM2, hl⟩, rfl⟩
  have hM2' := hM2 hL0
  have hexq : ∃ x : Nat, x = M - 1 := ⟨_, rfl⟩
  obtain ⟨M1, hM1e⟩ := hexq
  have v10 : IntKind.u64.wrap ((M : Int) - 1) = (M1 : Int) := by rw [wrap64]; omega
  simp [v0, v1, v3, v6, v7, v9, hL8]
  refine LN.use (fun m E A' => ∃ (t : Nat) (d' : Array Nat) (x : Int), m = j1 + 1 - t ∧ j0 ≤ t ∧ t ≤ j1 + 1 ∧ Sort.PermIn a b d d' ∧ SSF Q A0 A' (some bb) (.slice (some ⟨bb, 0, none⟩) n c) d' ∧ A'.get A.next = some (.row [.int .u64 x] 143 false) ∧ E.get 0 = .slice (some ⟨bb, 0, none⟩) n c ∧ E.get 1 = .int .i64 a ∧ E.get 8 = .int .i64 L ∧ E.get 9 = .pointer (some ⟨A.next, 0, none⟩) ∧ E.get 10 = .int .u64 M ∧ E.get 11 = .int .i64 t) 3
    ⟨j0, d, L, by omega, Nat.le_refl _, by omega, Sort.permIn_refl _ _ _, s0, AH.get_new _ _, by simp, by simp, by simp, by simp, by simp, by simp⟩ ?_
  rintro m E A2 hw2 hn2 ⟨t, d2, x, rfl, ht0, ht1, p2, s2, g2, e0, e1, e8, e9, e10, e11⟩
  have z2 : d2.size = n := by rw [p2.1]; exact hz
  by_cases hlt : t ≤ j1
  rotate_left
  · have hlt' : ¬ (t : Int) ≤ j1 := by omega
    simp [e1, e8, e11, v1, v3, v6, v8, hlt, hlt']
    exact DN.of ⟨d2, p2, s2⟩
  have hlt' : (t : Int) ≤ j1 := by omega
  simp [e1, e8, e9, e11, v1, v3, v6, v8, hlt, hlt']
  refine CN.use (next_ok g2) ?_
  rintro _ A3 hw3 hn3 ⟨y, rfl, hy, g3, k3, n3⟩
  have s3 : SSF Q A0 A3 (some bb) (.slice (some ⟨bb, 0, none⟩) n c) d2 := ⟨s2.lq.kept fun b hb => by injection hb with hb; subst hb; exact k3 _ (by omega), fun b b1 b2 => by rw [k3 b (by omega)]; exact s2.ko b b1 b2, by have := s2.nx; omega, s2.q, s2.sz⟩
  have hobt := and_lowM hy hl hM hM1e
  obtain ⟨z, hz1, hz2⟩ := hobt
  have v11 : IntKind.i64.wrap (z : Int) = (z : Int) := i64_in (by omega) (by omega)
  have v12 : IntKind.i64.wrap ((t : Int) + 1) = ((t + 1 : Nat) : Int) := by rw [i64_in (by omega) (by omega)]; simp
  have hta : a ≤ t ∧ t < b := by omega
  have ht2 : t < d2.size := by omega
  have ht3 : t < n := by omega
  by_cases hzL : L ≤ z
  · have hzL' : (L : Int) ≤ z := by omega
    have hexq : ∃ x : Nat, x = z - L := ⟨_, rfl⟩
    obtain ⟨o, ho⟩ := hexq
    have hexq : ∃ x : Nat, x = a + o := ⟨_, rfl⟩
    obtain ⟨p, hp⟩ := hexq
    have v14 : IntKind.i64.wrap ((z : Int) - L) = (o : Int) := by rw [i64_in (by omega) (by omega)]; omega
    have v13 : IntKind.i64.wrap ((a : Int) + (o : Nat)) = (p : Int) := by rw [i64_in (by omega) (by omega)]; omega
    have hp2 : p < d2.size := by omega
    have hp3 : p < n := by omega
    have hobt := s3.at2 ht2 hp2
    obtain ⟨cs, k1, ⟨k2, k3'⟩, ⟨k4, k5⟩, k6, k7⟩ := hobt
    simp [-getElem!_pos, e0, e1, e8, e10, e11, v10, intBin_andJ, hz1, v11, v12, hzL, hzL', v14, v13, ht3, hp3, k1, k2, k3', k4, k5, k6]
    exact NX.of ⟨j1 + 1 - (t + 1), by omega, t + 1, _, _, rfl, by omega, by omega, Sort.permIn_trans _ _ _ a b p2 (Sort.swp_permIn d2 a b t p hta.1 hta.2 (by omega) (by omega) (by omega)), k7 _ (by rw [AH.get_set, if_pos rfl]) (fun k hk hkb => by rw [AH.get_set, if_neg hkb]) (by simp), by rw [AH.get_set, if_neg (by omega)]; exact g3, by simp [e0], by simp [e1], by simp [e8], by simp [e9], by simp [e10], by simp⟩
  · have hzL' : ¬ (L : Int) ≤ z := by omega
    have hexq : ∃ x : Nat, x = a + z := ⟨_, rfl⟩
    obtain ⟨p, hp⟩ := hexq
    have v14 : True := trivial
    have v13 : IntKind.i64.wrap ((a : Int) + (z : Nat)) = (p : Int) := by rw [i64_in (by omega) (by omega)]; omega
    have hp2 : p < d2.size := by omega
    have hp3 : p < n := by omega
    have hobt := s3.at2 ht2 hp2
    obtain ⟨cs, k1, ⟨k2, k3'⟩, ⟨k4, k5⟩, k6, k7⟩ := hobt
    simp [-getElem!_pos, e0, e1, e8, e10, e11, v10, intBin_andJ, hz1, v11, v12, hzL, hzL', v14, v13, ht3, hp3, k1, k2, k3', k4, k5, k6]
    exact NX.of ⟨j1 + 1 - (t + 1), by omega, t + 1, _, _, rfl, by omega, by omega, Sort.permIn_trans _ _ _ a b p2 (Sort.swp_permIn d2 a b t p hta.1 hta.2 (by omega) (by omega) (by omega)), k7 _ (by rw [AH.get_set, if_pos rfl]) (fun k hk hkb => by rw [AH.get_set, if_neg hkb]) (by simp), by rw [AH.get_set, if_neg (by omega)]; exact g3, by simp [e0], by simp [e1], by simp [e8], by simp [e9], by simp [e10], by simp⟩
end
end Go.Proofs.Ytieehccjajhpfaa.AC
/- Sorting pointers: parted by equals. -/
namespace Go.Proofs.Ytieehccjajhpfaa.AC
open Go Go.AI Go.Proofs Go.Proofs.Ytieehccjajhpfaa.AQ
set_option linter.unusedVariables false
section
variable {Q : Nat → Prop} {A0 A A' : AH} {bb n c : Nat} {d : Array Nat} {lt : Nat → Nat → Bool} {f : FuncId}
theorem scanDown_posF {p : Nat → Bool} {d : Array Nat} {i j : Nat} (hi : 1 ≤ i) : Sort.scanDown p d i j = if i ≤ j ∧ p d[j]! = true then Sort.scanDown p d i (j - 1) else j := by
  cases j with
  | zero => rw [if_neg (by omega)]; rfl
  | succ j => rw [Sort.scanDown, Nat.add_sub_cancel]; simp
set_option maxHeartbeats 1000000 in
theorem pareqF_ok (h : SSF Q A0 A (some bb) (.slice (some ⟨bb, 0, none⟩) n c) d) (hz : d.size = n) (hc : CmpF A0 (some bb) Q lt f) {a b pv : Nat} (hap : a ≤ pv) (hpb : pv < b) (hb : b ≤ n) :
    ACall Try.prog 78 [.slice (some ⟨bb, 0, none⟩) n c, .int .i64 a, .int .i64 b, .int .i64 pv, .func (.func f) #[] #[]] A fun v A' => v = .int .i64 ((Sort.partitionEqual lt d a b pv).1 : Nat) ∧ SSF Q A0 A' (some bb) (.slice (some ⟨bb, 0, none⟩) n c) (Sort.partitionEqual lt d a b pv).2 := by
  have hz5 := h.sz
  have hw1 : IntKind.i64.wrap ((a : Int) + 1) = ((a + 1 : Nat) : Int) := by rw [i64_in (by omega) (by omega)]; simp
  have hw2 : IntKind.i64.wrap ((b : Int) - 1) = ((b - 1 : Nat) : Int) := by rw [i64_in (by omega) (by omega)]; omega
  have ha1 : a < d.size := by omega
  have hp1 : pv < d.size := by omega
  have ha2 : a < n := by omega
  have hp2 : pv < n := by omega
  have hobt := h.at2 ha1 hp1
  obtain ⟨cs, k1, ⟨k2, k3⟩, ⟨k4, k5⟩, k6, k7⟩ := hobt
  refine code78.call (by simp) fun hwf => ?_
  unfold c78
  simp [-getElem!_pos, ha2, hp2, k1, k2, k3, k4, k5, k6, hw1, hw2]
  refine LN.use (fun m E A' => ∃ (i j : Nat) (d' : Array Nat), m = j + 1 - i ∧ a < i ∧ i ≤ j + 1 ∧ j < b ∧ d'.size = n ∧ Sort.partEqLoop lt a i j d' = Sort.partitionEqual lt d a b pv ∧ SSF Q A0 A' (some bb) (.slice (some ⟨bb, 0, none⟩) n c) d' ∧ E.get 0 = .slice (some ⟨bb, 0, none⟩) n c ∧ E.get 1 = .int .i64 a ∧ E.get 4 = .func (.func f) #[] #[] ∧ E.get 11 = .int .i64 i ∧ E.get 12 = .int .i64 j) (b - 1 + 1 - (a + 1))
    ⟨a + 1, b - 1, _, rfl, by omega, by omega, by omega, by rw [Sort.size_swp]; exact hz, rfl, k7 _ (by rw [AH.get_set, if_pos rfl]) (fun k hk hkb => by rw [AH.get_set, if_neg hkb]) (by simp), by simp, by simp, by simp, by simp [hw1], by simp [hw2]⟩ ?_
  clear k1 k2 k3 k4 k5 k6 k7
  rintro m E A2 hwB hnB ⟨i0, j0, d2, rfl, hai, hij0, hjb, z2, q2, s2, e0, e1, e4, ei, ej⟩
  simp
  have hexq : ∃ T, T = Sort.scanUp (fun x => !lt d2[a]! x) d2 j0 i0 := ⟨_, rfl⟩
  obtain ⟨T1, hT1⟩ := hexq
  refine LN.join 2 (fun m E A' => ∃ i : Nat, m = j0 + 1 - i ∧ i0 ≤ i ∧ i ≤ j0 + 1 ∧ Sort.scanUp (fun x => !lt d2[a]! x) d2 j0 i = T1 ∧ SSF Q A0 A' (some bb) (.slice (some ⟨bb, 0, none⟩) n c) d2 ∧ E.get 0 = .slice (some ⟨bb, 0, none⟩) n c ∧ E.get 1 = .int .i64 a ∧ E.get 4 = .func (.func f) #[] #[] ∧ E.get 11 = .int .i64 i ∧ E.get 12 = .int .i64 j0) (j0 + 1 - i0)
    (fun E A' => A'.wf ∧ SSF Q A0 A' (some bb) (.slice (some ⟨bb, 0, none⟩) n c) d2 ∧ E.get 0 = .slice (some ⟨bb, 0, none⟩) n c ∧ E.get 1 = .int .i64 a ∧ E.get 4 = .func (.func f) #[] #[] ∧ E.get 11 = .int .i64 T1 ∧ E.get 12 = .int .i64 j0)
    ⟨i0, rfl, Nat.le_refl _, by omega, hT1.symm, s2, by simp [e0], by simp [e1], by simp [e4], by simp [ei], by simp [ej]⟩ ?_ ?_
  · clear e0 e1 e4 ei ej
    rintro m E B hB hnB ⟨i, rfl, hi1, hi2, qi, sB, e0, e1, e4, ei, ej⟩
    by_cases hij : i ≤ j0
    rotate_left
    · have hij' : ¬ (i : Int) ≤ j0 := by omega
      rw [Sort.scanUp, if_neg (by simp [hij])] at qi
      simp [e0, e1, e4, ei, ej, hij, hij']
      exact NX.of ⟨hB, sB, by simp [e0], by simp [e1], by simp [e4], by simp [ei, qi], by simp [ej]⟩
    have hij' : (i : Int) ≤ j0 := by omega
    have hi3 : i < d2.size := by omega
    have ha3 : a < d2.size := by omega
    have hi4 : i < n := by omega
    have ha4 : a < n := by omega
    have hgi : IntKind.i64.wrap ((i : Int) + 1) = ((i + 1 : Nat) : Int) := by rw [i64_in (by omega) (by omega)]; simp
    have hobt := sB.at2 ha3 hi3
    obtain ⟨cs, k1, ⟨k2, k3⟩, ⟨k4, k5⟩, -, -⟩ := hobt
    simp [-getElem!_pos, e0, e1, e4, ei, ej, hij, hij', ha4, hi4, k1, k2, k3, k4, k5]
    refine CN.use (hc B sB.ko sB.nx _ _ (sB.q _ ha3) (sB.q _ hi3)) ?_
    rintro _ C hC hnC ⟨r, rfl, hr, x3⟩
    have sC := sB.ext hB x3 hnC
    have hbool := Bool.eq_false_or_eq_true (lt d2[a]! d2[i]!)
    have hr2 : r < 0 ↔ lt d2[a]! d2[i]! = true := by rw [← hr]; simp
    rcases hbool with hl | hl
    · have hr' : r < 0 := hr2.2 hl
      rw [Sort.scanUp, if_neg (by simp [hl])] at qi
      simp [e0, e1, e4, ei, ej, hij, hij', hr']
      exact NX.of ⟨hC, sC, by simp [e0], by simp [e1], by simp [e4], by simp [ei, qi], by simp [ej]⟩
    · have hr' : ¬ r < 0 := fun h => by rw [hr2, hl] at h; cases h
      rw [Sort.scanUp, if_pos (by simp [hij, hl])] at qi
      simp [e0, e1, e4, ei, ej, hij, hij', hr', hgi]
      exact NX.of ⟨j0 + 1 - (i + 1), by omega, i + 1, rfl, by omega, by omega, qi, sC, by simp [e0], by simp [e1], by simp [e4], by simp, by simp [ej]⟩
  rintro E B ⟨hB, sB, e0, e1, e4, ei, ej⟩
  have u1 := Sort.scanUp_spec (fun x => !lt d2[a]! x) d2 j0 _ i0 rfl
  rw [← hT1] at u1
  have u1a := u1.1
  have u1b := u1.2.1 hij0
  simp
  have hexq : ∃ T, T = Sort.scanDown (fun x => lt d2[a]! x) d2 T1 j0 := ⟨_, rfl⟩
  obtain ⟨T2, hT2⟩ := hexq
  refine LN.join 4 (fun m E A' => ∃ j : Nat, m = j ∧ j ≤ j0 ∧ T1 ≤ j + 1 ∧ Sort.scanDown (fun x => lt d2[a]! x) d2 T1 j = T2 ∧ SSF Q A0 A' (some bb) (.slice (some ⟨bb, 0, none⟩) n c) d2 ∧ E.get 0 = .slice (some ⟨bb, 0, none⟩) n c ∧ E.get 1 = .int .i64 a ∧ E.get 4 = .func (.func f) #[] #[] ∧ E.get 11 = .int .i64 T1 ∧ E.get 12 = .int .i64 j) j0
    (fun E A' => A'.wf ∧ SSF Q A0 A' (some bb) (.slice (some ⟨bb, 0, none⟩) n c) d2 ∧ E.get 0 = .slice (some ⟨bb, 0, none⟩) n c ∧ E.get 1 = .int .i64 a ∧ E.get 4 = .func (.func f) #[] #[] ∧ E.get 11 = .int .i64 T1 ∧ E.get 12 = .int .i64 T2)
    ⟨j0, rfl, Nat.le_refl _, by omega, hT2.symm, sB, by simp [e0], by simp [e1], by simp [e4], by simp [ei], by simp [ej]⟩ ?_ ?_
  · clear e0 e1 e4 ei ej
    rintro m E B hB hnB ⟨j, rfl, hj1, hj2, qj, sB, e0, e1, e4, ei, ej⟩
    rw [scanDown_posF (by omega)] at qj
    by_cases hij : T1 ≤ m
    rotate_left
    · have hij' : ¬ (T1 : Int) ≤ m := by omega
      rw [if_neg (fun h => hij h.1)] at qj
      simp [e0, e1, e4, ei, ej, hij, hij']
      exact NX.of ⟨hB, sB, by simp [e0], by simp [e1], by simp [e4], by simp [ei], by simp [ej, qj]⟩
    have hij' : (T1 : Int) ≤ m := by omega
    have hj3 : m < d2.size := by omega
    have ha3 : a < d2.size := by omega
    have hj4 : m < n := by omega
    have ha4 : a < n := by omega
    have hgj : IntKind.i64.wrap ((m : Int) - 1) = ((m - 1 : Nat) : Int) := by rw [i64_in (by omega) (by omega)]; omega
    have hobt := sB.at2 ha3 hj3
    obtain ⟨cs, k1, ⟨k2, k3⟩, ⟨k4, k5⟩, -, -⟩ := hobt
    simp [-getElem!_pos, e0, e1, e4, ei, ej, hij, hij', ha4, hj4, k1, k2, k3, k4, k5]
    refine CN.use (hc B sB.ko sB.nx _ _ (sB.q _ ha3) (sB.q _ hj3)) ?_
    rintro _ C hC hnC ⟨r, rfl, hr, x3⟩
    have sC := sB.ext hB x3 hnC
    have hbool := Bool.eq_false_or_eq_true (lt d2[a]! d2[m]!)
    have hr2 : r < 0 ↔ lt d2[a]! d2[m]! = true := by rw [← hr]; simp
    rcases hbool with hl | hl
    · have hr' : r < 0 := hr2.2 hl
      rw [if_pos ⟨hij, by simp [hl]⟩] at qj
      simp [e0, e1, e4, ei, ej, hij, hij', hr', hgj]
      exact NX.of ⟨m - 1, by omega, m - 1, rfl, by omega, by omega, qj, sC, by simp [e0], by simp [e1], by simp [e4], by simp [ei], by simp⟩
    · have hr' : ¬ r < 0 := fun h => by rw [hr2, hl] at h; cases h
      rw [if_neg (fun h => by simp [hl] at h)] at qj
      simp [e0, e1, e4, ei, ej, hij, hij', hr']
      exact NX.of ⟨hC, sC, by simp [e0], by simp [e1], by simp [e4], by simp [ei], by simp [ej, qj]⟩
  rintro E C ⟨hC, sC, e0, e1, e4, ei, ej⟩
  have u2 := Sort.scanDown_spec (fun x => lt d2[a]! x) d2 T1 j0
  rw [← hT2] at u2
  have u2a := u2.1
  have u2b := u2.2.1 u1b
  rw [Sort.partEqLoop_eq, ← hT1, ← hT2] at q2
  by_cases hend : T2 < T1
  · have hend' : (T2 : Int) < T1 := by omega
    rw [if_pos hend] at q2
    simp [e0, e1, e4, ei, ej, hend, hend']
    refine DN.of ⟨?_, ?_⟩
    · rw [← q2]
    · rw [← q2]; exact sC
  have hend' : ¬ (T2 : Int) < T1 := by omega
  rw [if_neg hend] at q2
  have hne : T1 ≠ T2 := fun e => by
    have x1 := u1.2.2.2 (by omega)
    have x2 := u2.2.2.2 (by omega) (by omega)
    rw [← e] at x2
    simp only [x2] at x1
    cases x1
  have t1 : T1 < d2.size := by omega
  have t2 : T2 < d2.size := by omega
  have t3 : T1 < n := by omega
  have t4 : T2 < n := by omega
  have hgi : IntKind.i64.wrap ((T1 : Int) + 1) = ((T1 + 1 : Nat) : Int) := by rw [i64_in (by omega) (by omega)]; simp
  have hgj : IntKind.i64.wrap ((T2 : Int) - 1) = ((T2 - 1 : Nat) : Int) := by rw [i64_in (by omega) (by omega)]; omega
  have hobt := sC.at2 t1 t2
  obtain ⟨cs', k1, ⟨k2, k3⟩, ⟨k4, k5⟩, k6, k7⟩ := hobt
  simp [-getElem!_pos, e0, e1, e4, ei, ej, hend, hend', t3, t4, k1, k2, k3, k4, k5, k6, hgi, hgj]
  exact NX.of ⟨T2 - 1 + 1 - (T1 + 1), by omega, T1 + 1, T2 - 1, _, rfl, by omega, by omega, by omega, by rw [Sort.size_swp]; exact z2, q2, k7 _ (by rw [AH.get_set, if_pos rfl]) (fun k hk hkb => by rw [AH.get_set, if_neg hkb]) (by simp), by simp [e0], by simp [e1], by simp [e4], by simp, by simp⟩
end
end Go.Proofs.Ytieehccjajhpfaa.AC
/- Sorting pointers: parted. -/
namespace Go.Proofs.Ytieehccjajhpfaa.AC
open Go Go.AI Go.Proofs Go.Proofs.Ytieehccjajhpfaa.AQ
set_option linter.unusedVariables false
section
variable {Q : Nat → Prop} {A0 A A' : AH} {bb n c : Nat} {d : Array Nat} {lt : Nat → Nat → Bool} {f : FuncId}
set_option maxHeartbeats 2000000 in
theorem partF_ok (h : SSF Q A0 A (some bb) (.slice (some ⟨bb, 0, none⟩) n c) d) (hz : d.size = n) (hc : CmpF A0 (some bb) Q lt f) {a b pv : Nat} (hap : a ≤ pv) (hpb : pv < b) (hb : b ≤ n) :
    ACall Try.prog 79 [.slice (some ⟨bb, 0, none⟩) n c, .int .i64 a, .int .i64 b, .int .i64 pv, .func (.func f) #[] #[]] A fun v A' => v = .tuple #[.int .i64 ((Sort.partition lt d a b pv).1 : Nat), .bool (Sort.partition lt d a b pv).2.1] ∧ SSF Q A0 A' (some bb) (.slice (some ⟨bb, 0, none⟩) n c) (Sort.partition lt d a b pv).2.2 := by
  have hz5 := h.sz
  have hw1 : IntKind.i64.wrap ((a : Int) + 1) = ((a + 1 : Nat) : Int) := by rw [i64_in (by omega) (by omega)]; simp
  have hw2 : IntKind.i64.wrap ((b : Int) - 1) = ((b - 1 : Nat) : Int) := by rw [i64_in (by omega) (by omega)]; omega
  have ha1 : a < d.size := by omega
  have hp1 : pv < d.size := by omega
  have ha2 : a < n := by omega
  have hp2 : pv < n := by omega
  have hexq : ∃ x : Nat, x = a + 1 := ⟨_, rfl⟩
  obtain ⟨i0, hi0⟩ := hexq
  have hexq : ∃ x : Nat, x = b - 1 := ⟨_, rfl⟩
  obtain ⟨j0, hj0⟩ := hexq
  rw [← hi0] at hw1
  rw [← hj0] at hw2
  have hexq : ∃ x, x = Sort.swp d a pv := ⟨_, rfl⟩
  obtain ⟨d2, hd2⟩ := hexq
  have z2 : d2.size = n := by rw [hd2, Sort.size_swp]; exact hz
  have hobt := h.at2 ha1 hp1
  obtain ⟨cs, k1, ⟨k2, k3⟩, ⟨k4, k5⟩, k6, k7⟩ := hobt
  have hexq : ∃ x, x = Sort.partition lt d a b pv := ⟨_, rfl⟩
  obtain ⟨R, hR⟩ := hexq
  rw [← hR]
  unfold Sort.partition at hR
  simp only [← hd2, ← hi0, ← hj0] at hR
  refine code79.call (by simp) fun hwf => ?_
  unfold c79
  simp [-getElem!_pos, ha2, hp2, k1, k2, k3, k4, k5, k6, hw1, hw2]
  have s2 := k7 (A.set bb (.row (spl (spl cs a [.pointer (some ⟨d[pv]!, 0, none⟩)]) pv [.pointer (some ⟨d[a]!, 0, none⟩)]) 86 false)) (by rw [AH.get_set, if_pos rfl]) (fun k hk hkb => by rw [AH.get_set, if_neg hkb]) (by simp)
  rw [← hd2] at s2
  clear k1 k2 k3 k4 k5 k6 k7
  have e0 : True := trivial
  have e1 : True := trivial
  have e4 : True := trivial
  have ei : True := trivial
  have ej : True := trivial
  have hexq : ∃ T, T = Sort.scanUp (fun x => lt x d2[a]!) d2 j0 i0 := ⟨_, rfl⟩
  obtain ⟨T1, hT1⟩ := hexq
  refine LN.join 0 (fun m E A' => ∃ i : Nat, m = j0 + 1 - i ∧ i0 ≤ i ∧ i ≤ j0 + 1 ∧ Sort.scanUp (fun x => lt x d2[a]!) d2 j0 i = T1 ∧ SSF Q A0 A' (some bb) (.slice (some ⟨bb, 0, none⟩) n c) d2 ∧ E.get 0 = .slice (some ⟨bb, 0, none⟩) n c ∧ E.get 1 = .int .i64 a ∧ E.get 4 = .func (.func f) #[] #[] ∧ E.get 12 = .int .i64 i ∧ E.get 13 = .int .i64 j0) (j0 + 1 - i0)
    (fun E A' => A'.wf ∧ SSF Q A0 A' (some bb) (.slice (some ⟨bb, 0, none⟩) n c) d2 ∧ E.get 0 = .slice (some ⟨bb, 0, none⟩) n c ∧ E.get 1 = .int .i64 a ∧ E.get 4 = .func (.func f) #[] #[] ∧ E.get 12 = .int .i64 T1 ∧ E.get 13 = .int .i64 j0)
    ⟨i0, rfl, Nat.le_refl _, by omega, hT1.symm, s2, by simp [e0], by simp [e1], by simp [e4], by simp [ei], by simp [ej]⟩ ?_ ?_
  · clear e0 e1 e4 ei ej
    rintro m E B hB hnB ⟨i, rfl, hi1, hi2, qi, sB, e0, e1, e4, ei, ej⟩
    by_cases hij : i ≤ j0
    rotate_left
    · have hij' : ¬ (i : Int) ≤ j0 := by omega
      rw [Sort.scanUp, if_neg (by simp [hij])] at qi
      simp [e0, e1, e4, ei, ej, hij, hij']
      exact NX.of ⟨hB, sB, by simp [e0], by simp [e1], by simp [e4], by simp [ei, qi], by simp [ej]⟩
    have hij' : (i : Int) ≤ j0 := by omega
    have hi3 : i < d2.size := by omega
    have ha3 : a < d2.size := by omega
    have hi4 : i < n := by omega
    have ha4 : a < n := by omega
    have hgi : IntKind.i64.wrap ((i : Int) + 1) = ((i + 1 : Nat) : Int) := by rw [i64_in (by omega) (by omega)]; simp
    have hobt := sB.at2 ha3 hi3
    obtain ⟨cs, k1, ⟨k2, k3⟩, ⟨k4, k5⟩, -, -⟩ := hobt
    simp [-getElem!_pos, e0, e1, e4, ei, ej, hij, hij', ha4, hi4, k1, k2, k3, k4, k5]
    refine CN.use (hc B sB.ko sB.nx _ _ (sB.q _ hi3) (sB.q _ ha3)) ?_
    rintro _ C hC hnC ⟨r, rfl, hr, x3⟩
    have sC := sB.ext hB x3 hnC
    have hbool := Bool.eq_false_or_eq_true (lt d2[i]! d2[a]!)
    have hr2 : r < 0 ↔ lt d2[i]! d2[a]! = true := by rw [← hr]; simp
    rcases hbool with hl | hl
    · have hr' : r < 0 := hr2.2 hl
      rw [Sort.scanUp, if_pos (by simp [hij, hl])] at qi
      simp [e0, e1, e4, ei, ej, hij, hij', hr', hgi]
      exact NX.of ⟨j0 + 1 - (i + 1), by omega, i + 1, rfl, by omega, by omega, qi, sC, by simp [e0], by simp [e1], by simp [e4], by simp, by simp [ej]⟩
    · have hr' : ¬ r < 0 := fun h => by rw [hr2, hl] at h; cases h
      rw [Sort.scanUp, if_neg (by simp [hl])] at qi
      simp [e0, e1, e4, ei, ej, hij, hij', hr']
      exact NX.of ⟨hC, sC, by simp [e0], by simp [e1], by simp [e4], by simp [ei, qi], by simp [ej]⟩
  rintro E B ⟨hB, sB, e0, e1, e4, ei, ej⟩
  have u1 := Sort.scanUp_spec (fun x => lt x d2[a]!) d2 j0 _ i0 rfl
  rw [← hT1] at u1
  have u1a := u1.1
  have u1b := u1.2.1 (by omega)
  simp
  have hexq : ∃ T, T = Sort.scanDown (fun x => !lt x d2[a]!) d2 T1 j0 := ⟨_, rfl⟩
  obtain ⟨T2, hT2⟩ := hexq
  refine LN.join 2 (fun m E A' => ∃ j : Nat, m = j ∧ j ≤ j0 ∧ T1 ≤ j + 1 ∧ Sort.scanDown (fun x => !lt x d2[a]!) d2 T1 j = T2 ∧ SSF Q A0 A' (some bb) (.slice (some ⟨bb, 0, none⟩) n c) d2 ∧ E.get 0 = .slice (some ⟨bb, 0, none⟩) n c ∧ E.get 1 = .int .i64 a ∧ E.get 4 = .func (.func f) #[] #[] ∧ E.get 12 = .int .i64 T1 ∧ E.get 13 = .int .i64 j) j0
    (fun E A' => A'.wf ∧ SSF Q A0 A' (some bb) (.slice (some ⟨bb, 0, none⟩) n c) d2 ∧ E.get 0 = .slice (some ⟨bb, 0, none⟩) n c ∧ E.get 1 = .int .i64 a ∧ E.get 4 = .func (.func f) #[] #[] ∧ E.get 12 = .int .i64 T1 ∧ E.get 13 = .int .i64 T2)
    ⟨j0, rfl, Nat.le_refl _, by omega, hT2.symm, sB, by simp [e0], by simp [e1], by simp [e4], by simp [ei], by simp [ej]⟩ ?_ ?_
  · clear e0 e1 e4 ei ej
    rintro m E B hB hnB ⟨j, rfl, hj1, hj2, qj, sB, e0, e1, e4, ei, ej⟩
    rw [scanDown_posF (by omega)] at qj
    by_cases hij : T1 ≤ m
    rotate_left
    · have hij' : ¬ (T1 : Int) ≤ m := by omega
      rw [if_neg (fun h => hij h.1)] at qj
      simp [e0, e1, e4, ei, ej, hij, hij']
      exact NX.of ⟨hB, sB, by simp [e0], by simp [e1], by simp [e4], by simp [ei], by simp [ej, qj]⟩
    have hij' : (T1 : Int) ≤ m := by omega
    have hj3 : m < d2.size := by omega
    have ha3 : a < d2.size := by omega
    have hj4 : m < n := by omega
    have ha4 : a < n := by omega
    have hgj : IntKind.i64.wrap ((m : Int) - 1) = ((m - 1 : Nat) : Int) := by rw [i64_in (by omega) (by omega)]; omega
    have hobt := sB.at2 ha3 hj3
    obtain ⟨cs, k1, ⟨k2, k3⟩, ⟨k4, k5⟩, -, -⟩ := hobt
    simp [-getElem!_pos, e0, e1, e4, ei, ej, hij, hij', ha4, hj4, k1, k2, k3, k4, k5]
    refine CN.use (hc B sB.ko sB.nx _ _ (sB.q _ hj3) (sB.q _ ha3)) ?_
    rintro _ C hC hnC ⟨r, rfl, hr, x3⟩
    have sC := sB.ext hB x3 hnC
    have hbool := Bool.eq_false_or_eq_true (lt d2[m]! d2[a]!)
    have hr2 : r < 0 ↔ lt d2[m]! d2[a]! = true := by rw [← hr]; simp
    rcases hbool with hl | hl
    · have hr' : r < 0 := hr2.2 hl
      rw [if_neg (fun h => by simp [hl] at h)] at qj
      simp [e0, e1, e4, ei, ej, hij, hij', hr']
      exact NX.of ⟨hC, sC, by simp [e0], by simp [e1], by simp [e4], by simp [ei], by simp [ej, qj]⟩
    · have hr' : ¬ r < 0 := fun h => by rw [hr2, hl] at h; cases h
      rw [if_pos ⟨hij, by simp [hl]⟩] at qj
      simp [e0, e1, e4, ei, ej, hij, hij', hr', hgj]
      exact NX.of ⟨m - 1, by omega, m - 1, rfl, by omega, by omega, qj, sC, by simp [e0], by simp [e1], by simp [e4], by simp [ei], by simp⟩
  rintro E C ⟨hC, sC, e0, e1, e4, ei, ej⟩
  have u2 := Sort.scanDown_spec (fun x => !lt x d2[a]!) d2 T1 j0
  rw [← hT2] at u2
  have u2a := u2.1
  have u2b := u2.2.1 u1b
  rw [← hT1, ← hT2] at hR
  have t4 : T2 < n := by omega
  have t4' : T2 < d2.size := by omega
  have ha3 : a < d2.size := by omega
  by_cases hend : T2 < T1
  · have hend' : (T2 : Int) < T1 := by omega
    rw [if_pos hend] at hR
    have hobt := sC.at2 t4' ha3
    obtain ⟨cs', k1, ⟨k2, k3⟩, ⟨k4, k5⟩, k6, k7⟩ := hobt
    simp [-getElem!_pos, e0, e1, e4, ei, ej, hend, hend', ha2, t4, k1, k2, k3, k4, k5, k6]
    refine DN.of ⟨by rw [hR], ?_⟩
    rw [hR]
    exact k7 _ (by rw [AH.get_set, if_pos rfl]) (fun k hk hkb => by rw [AH.get_set, if_neg hkb]) (by simp)
  have hend' : ¬ (T2 : Int) < T1 := by omega
  rw [if_neg hend] at hR
  have hne : T1 ≠ T2 := fun e => by
    have x1 := u1.2.2.2 (by omega)
    have x2 := u2.2.2.2 (by omega) (by omega)
    rw [← e] at x2
    simp only [x1] at x2
    cases x2
  have t1 : T1 < d2.size := by omega
  have t3 : T1 < n := by omega
  have hgi : IntKind.i64.wrap ((T1 : Int) + 1) = ((T1 + 1 : Nat) : Int) := by rw [i64_in (by omega) (by omega)]; simp
  have hgj : IntKind.i64.wrap ((T2 : Int) - 1) = ((T2 - 1 : Nat) : Int) := by rw [i64_in (by omega) (by omega)]; omega
  have hobt := sC.at2 t1 t4'
  obtain ⟨cs', k1, ⟨k2, k3⟩, ⟨k4, k5⟩, k6, k7⟩ := hobt
  simp [-getElem!_pos, e0, e1, e4, ei, ej, hend, hend', t3, t4, k1, k2, k3, k4, k5, k6, hgi, hgj]
  have hexq : ∃ x, x = Sort.partLoop lt a (T1 + 1) (T2 - 1) (Sort.swp d2 T1 T2) := ⟨_, rfl⟩
  obtain ⟨r, hr⟩ := hexq
  rw [← hr] at hR
  refine LN.use (fun m E A' => ∃ (i j : Nat) (d' : Array Nat), m = j + 1 - i ∧ a < i ∧ i ≤ j + 1 ∧ j < b ∧ d'.size = n ∧ Sort.partLoop lt a i j d' = r ∧ SSF Q A0 A' (some bb) (.slice (some ⟨bb, 0, none⟩) n c) d' ∧ E.get 0 = .slice (some ⟨bb, 0, none⟩) n c ∧ E.get 1 = .int .i64 a ∧ E.get 4 = .func (.func f) #[] #[] ∧ E.get 12 = .int .i64 i ∧ E.get 13 = .int .i64 j) (T2 - 1 + 1 - (T1 + 1))
    ⟨T1 + 1, T2 - 1, _, rfl, by omega, by omega, by omega, by rw [Sort.size_swp]; exact z2, hr.symm, k7 _ (by rw [AH.get_set, if_pos rfl]) (fun k hk hkb => by rw [AH.get_set, if_neg hkb]) (by simp), by simp [e0], by simp [e1], by simp [e4], by simp, by simp⟩ ?_
  clear k1 k2 k3 k4 k5 k6 k7 e0 e1 e4 ei ej hr u1 u2 hgi hgj t1 t3 t4 t4' hne hend hend' u1a u1b u2a u2b sB sC s2
  rintro m E A3 hw3 hn3 ⟨i1, j1, d3, rfl, hai, hij1, hjb, z3, q3, s3, e0, e1, e4, ei, ej⟩
  simp
  have hexq : ∃ T, T = Sort.scanUp (fun x => lt x d3[a]!) d3 j1 i1 := ⟨_, rfl⟩
  obtain ⟨T3, hT3⟩ := hexq
  refine LN.join 6 (fun m E A' => ∃ i : Nat, m = j1 + 1 - i ∧ i1 ≤ i ∧ i ≤ j1 + 1 ∧ Sort.scanUp (fun x => lt x d3[a]!) d3 j1 i = T3 ∧ SSF Q A0 A' (some bb) (.slice (some ⟨bb, 0, none⟩) n c) d3 ∧ E.get 0 = .slice (some ⟨bb, 0, none⟩) n c ∧ E.get 1 = .int .i64 a ∧ E.get 4 = .func (.func f) #[] #[] ∧ E.get 12 = .int .i64 i ∧ E.get 13 = .int .i64 j1) (j1 + 1 - i1)
    (fun E A' => A'.wf ∧ SSF Q A0 A' (some bb) (.slice (some ⟨bb, 0, none⟩) n c) d3 ∧ E.get 0 = .slice (some ⟨bb, 0, none⟩) n c ∧ E.get 1 = .int .i64 a ∧ E.get 4 = .func (.func f) #[] #[] ∧ E.get 12 = .int .i64 T3 ∧ E.get 13 = .int .i64 j1)
    ⟨i1, rfl, Nat.le_refl _, by omega, hT3.symm, s3, by simp [e0], by simp [e1], by simp [e4], by simp [ei], by simp [ej]⟩ ?_ ?_
  · clear e0 e1 e4 ei ej
    rintro m E B hB hnB ⟨i, rfl, hi1, hi2, qi, sB, e0, e1, e4, ei, ej⟩
    by_cases hij : i ≤ j1
    rotate_left
    · have hij' : ¬ (i : Int) ≤ j1 := by omega
      rw [Sort.scanUp, if_neg (by simp [hij])] at qi
      simp [e0, e1, e4, ei, ej, hij, hij']
      exact NX.of ⟨hB, sB, by simp [e0], by simp [e1], by simp [e4], by simp [ei, qi], by simp [ej]⟩
    have hij' : (i : Int) ≤ j1 := by omega
    have hi3 : i < d3.size := by omega
    have ha3 : a < d3.size := by omega
    have hi4 : i < n := by omega
    have ha4 : a < n := by omega
    have hgi : IntKind.i64.wrap ((i : Int) + 1) = ((i + 1 : Nat) : Int) := by rw [i64_in (by omega) (by omega)]; simp
    have hobt := sB.at2 ha3 hi3
    obtain ⟨cs, k1, ⟨k2, k3⟩, ⟨k4, k5⟩, -, -⟩ := hobt
    simp [-getElem!_pos, e0, e1, e4, ei, ej, hij, hij', ha4, hi4, k1, k2, k3, k4, k5]
    refine CN.use (hc B sB.ko sB.nx _ _ (sB.q _ hi3) (sB.q _ ha3)) ?_
    rintro _ C hC hnC ⟨r, rfl, hr, x3⟩
    have sC := sB.ext hB x3 hnC
    have hbool := Bool.eq_false_or_eq_true (lt d3[i]! d3[a]!)
    have hr2 : r < 0 ↔ lt d3[i]! d3[a]! = true := by rw [← hr]; simp
    rcases hbool with hl | hl
    · have hr' : r < 0 := hr2.2 hl
      rw [Sort.scanUp, if_pos (by simp [hij, hl])] at qi
      simp [e0, e1, e4, ei, ej, hij, hij', hr', hgi]
      exact NX.of ⟨j1 + 1 - (i + 1), by omega, i + 1, rfl, by omega, by omega, qi, sC, by simp [e0], by simp [e1], by simp [e4], by simp, by simp [ej]⟩
    · have hr' : ¬ r < 0 := fun h => by rw [hr2, hl] at h; cases h
      rw [Sort.scanUp, if_neg (by simp [hl])] at qi
      simp [e0, e1, e4, ei, ej, hij, hij', hr']
      exact NX.of ⟨hC, sC, by simp [e0], by simp [e1], by simp [e4], by simp [ei, qi], by simp [ej]⟩
  rintro E B ⟨hB, sB, e0, e1, e4, ei, ej⟩
  have u1 := Sort.scanUp_spec (fun x => lt x d3[a]!) d3 j1 _ i1 rfl
  rw [← hT3] at u1
  have u1a := u1.1
  have u1b := u1.2.1 hij1
  simp
  have hexq : ∃ T, T = Sort.scanDown (fun x => !lt x d3[a]!) d3 T3 j1 := ⟨_, rfl⟩
  obtain ⟨T4, hT4⟩ := hexq
  refine LN.join 8 (fun m E A' => ∃ j : Nat, m = j ∧ j ≤ j1 ∧ T3 ≤ j + 1 ∧ Sort.scanDown (fun x => !lt x d3[a]!) d3 T3 j = T4 ∧ SSF Q A0 A' (some bb) (.slice (some ⟨bb, 0, none⟩) n c) d3 ∧ E.get 0 = .slice (some ⟨bb, 0, none⟩) n c ∧ E.get 1 = .int .i64 a ∧ E.get 4 = .func (.func f) #[] #[] ∧ E.get 12 = .int .i64 T3 ∧ E.get 13 = .int .i64 j) j1
    (fun E A' => A'.wf ∧ SSF Q A0 A' (some bb) (.slice (some ⟨bb, 0, none⟩) n c) d3 ∧ E.get 0 = .slice (some ⟨bb, 0, none⟩) n c ∧ E.get 1 = .int .i64 a ∧ E.get 4 = .func (.func f) #[] #[] ∧ E.get 12 = .int .i64 T3 ∧ E.get 13 = .int .i64 T4)
    ⟨j1, rfl, Nat.le_refl _, by omega, hT4.symm, sB, by simp [e0], by simp [e1], by simp [e4], by simp [ei], by simp [ej]⟩ ?_ ?_
  · clear e0 e1 e4 ei ej
    rintro m E B hB hnB ⟨j, rfl, hj1, hj2, qj, sB, e0, e1, e4, ei, ej⟩
    rw [scanDown_posF (by omega)] at qj
    by_cases hij : T3 ≤ m
    rotate_left
    · have hij' : ¬ (T3 : Int) ≤ m := by omega
      rw [if_neg (fun h => hij h.1)] at qj
      simp [e0, e1, e4, ei, ej, hij, hij']
      exact NX.of ⟨hB, sB, by simp [e0], by simp [e1], by simp [e4], by simp [ei], by simp [ej, qj]⟩
    have hij' : (T3 : Int) ≤ m := by omega
    have hj3 : m < d3.size := by omega
    have ha3 : a < d3.size := by omega
    have hj4 : m < n := by omega
    have ha4 : a < n := by omega
    have hgj : IntKind.i64.wrap ((m : Int) - 1) = ((m - 1 : Nat) : Int) := by rw [i64_in (by omega) (by omega)]; omega
    have hobt := sB.at2 ha3 hj3
    obtain ⟨cs, k1, ⟨k2, k3⟩, ⟨k4, k5⟩, -, -⟩ := hobt
    simp [-getElem!_pos, e0, e1, e4, ei, ej, hij, hij', ha4, hj4, k1, k2, k3, k4, k5]
    refine CN.use (hc B sB.ko sB.nx _ _ (sB.q _ hj3) (sB.q _ ha3)) ?_
    rintro _ C hC hnC ⟨r, rfl, hr, x3⟩
    have sC := sB.ext hB x3 hnC
    have hbool := Bool.eq_false_or_eq_true (lt d3[m]! d3[a]!)
    have hr2 : r < 0 ↔ lt d3[m]! d3[a]! = true := by rw [← hr]; simp
    rcases hbool with hl | hl
    · have hr' : r < 0 := hr2.2 hl
      rw [if_neg (fun h => by simp [hl] at h)] at qj
      simp [e0, e1, e4, ei, ej, hij, hij', hr']
      exact NX.of ⟨hC, sC, by simp [e0], by simp [e1], by simp [e4], by simp [ei], by simp [ej, qj]⟩
    · have hr' : ¬ r < 0 := fun h => by rw [hr2, hl] at h; cases h
      rw [if_pos ⟨hij, by simp [hl]⟩] at qj
      simp [e0, e1, e4, ei, ej, hij, hij', hr', hgj]
      exact NX.of ⟨m - 1, by omega, m - 1, rfl, by omega, by omega, qj, sC, by simp [e0], by simp [e1], by simp [e4], by simp [ei], by simp⟩
  rintro E C ⟨hC, sC, e0, e1, e4, ei, ej⟩
  have u2 := Sort.scanDown_spec (fun x => !lt x d3[a]!) d3 T3 j1
  rw [← hT4] at u2
  have u2a := u2.1
  have u2b := u2.2.1 u1b
  rw [Sort.partLoop_eq, ← hT3, ← hT4] at q3
  have t4 : T4 < n := by omega
  have t4' : T4 < d3.size := by omega
  have ha3 : a < d3.size := by omega
  by_cases hend : T4 < T3
  · have hend' : (T4 : Int) < T3 := by omega
    rw [if_pos hend] at q3
    subst q3
    simp only [] at hR
    have hobt := sC.at2 t4' ha3
    obtain ⟨cs', k1, ⟨k2, k3⟩, ⟨k4, k5⟩, k6, k7⟩ := hobt
    simp [-getElem!_pos, e0, e1, e4, ei, ej, hend, hend', ha2, t4, k1, k2, k3, k4, k5, k6]
    refine DN.of ⟨by rw [hR], ?_⟩
    rw [hR]
    exact k7 _ (by rw [AH.get_set, if_pos rfl]) (fun k hk hkb => by rw [AH.get_set, if_neg hkb]) (by simp)
  have hend' : ¬ (T4 : Int) < T3 := by omega
  rw [if_neg hend] at q3
  have hne : T3 ≠ T4 := fun e => by
    have x1 := u1.2.2.2 (by omega)
    have x2 := u2.2.2.2 (by omega) (by omega)
    rw [← e] at x2
    simp only [x1] at x2
    cases x2
  have t1 : T3 < d3.size := by omega
  have t3 : T3 < n := by omega
  have hgi : IntKind.i64.wrap ((T3 : Int) + 1) = ((T3 + 1 : Nat) : Int) := by rw [i64_in (by omega) (by omega)]; simp
  have hgj : IntKind.i64.wrap ((T4 : Int) - 1) = ((T4 - 1 : Nat) : Int) := by rw [i64_in (by omega) (by omega)]; omega
  have hobt := sC.at2 t1 t4'
  obtain ⟨cs', k1, ⟨k2, k3⟩, ⟨k4, k5⟩, k6, k7⟩ := hobt
  simp [-getElem!_pos, e0, e1, e4, ei, ej, hend, hend', t3, t4, k1, k2, k3, k4, k5, k6, hgi, hgj]
  exact NX.of ⟨T4 - 1 + 1 - (T3 + 1), by omega, T3 + 1, T4 - 1, _, rfl, by omega, by omega, by omega, by rw [Sort.size_swp]; exact z3, q3, k7 _ (by rw [AH.get_set, if_pos rfl]) (fun k hk hkb => by rw [AH.get_set, if_neg hkb]) (by simp), by simp [e0], by simp [e1], by simp [e4], by simp, by simp⟩
end
end Go.Proofs.Ytieehccjajhpfaa.AC
/- Sorting pointers: a few insertions. -/
namespace Go.Proofs.Ytieehccjajhpfaa.AC
open Go Go.AI Go.Proofs Go.Proofs.Ytieehccjajhpfaa.AQ
set_option linter.unusedVariables false
section
variable {Q : Nat → Prop} {A0 A A' : AH} {bb n c : Nat} {d : Array Nat} {lt : Nat → Nat → Bool} {f : FuncId}
set_option maxHeartbeats 2000000 in
theorem pinsF_ok (h : SSF Q A0 A (some bb) (.slice (some ⟨bb, 0, none⟩) n c) d) (hz : d.size = n) (hc : CmpF A0 (some bb) Q lt f) {a b : Nat} (hab : a < b) (hb : b ≤ n) :
    ACall Try.prog 77 [.slice (some ⟨bb, 0, none⟩) n c, .int .i64 a, .int .i64 b, .func (.func f) #[] #[]] A fun v A' => v = .bool (Sort.partialInsertionSort lt d a b).2 ∧ SSF Q A0 A' (some bb) (.slice (some ⟨bb, 0, none⟩) n c) (Sort.partialInsertionSort lt d a b).1 := by
  have hz5 := h.sz
  have hexq : ∃ x : Nat, x = a + 1 := ⟨_, rfl⟩
  obtain ⟨i0, hi0⟩ := hexq
  have hw1 : IntKind.i64.wrap ((a : Int) + 1) = (i0 : Int) := by rw [i64_in (by omega) (by omega)]; omega
  have hexq : ∃ x, x = Sort.partialInsertionSort lt d a b := ⟨_, rfl⟩
  obtain ⟨P, hP⟩ := hexq
  rw [← hP]
  unfold Sort.partialInsertionSort at hP
  rw [← hi0] at hP
  refine code77.call (by simp) fun hwf => ?_
  unfold c77
  simp [hw1]
  refine LN.use (fun m E A' => ∃ (t i : Nat) (d' : Array Nat), m = 5 - t ∧ t ≤ 5 ∧ a < i ∧ i ≤ b ∧ d'.size = n ∧ Sort.partialIns lt a b (5 - t) i d' = P ∧ SSF Q A0 A' (some bb) (.slice (some ⟨bb, 0, none⟩) n c) d' ∧ E.get 0 = .slice (some ⟨bb, 0, none⟩) n c ∧ E.get 1 = .int .i64 a ∧ E.get 2 = .int .i64 b ∧ E.get 3 = .func (.func f) #[] #[] ∧ E.get 9 = .int .i64 i ∧ E.get 10 = .int .i64 t) 5
    ⟨0, i0, d, rfl, by omega, by omega, by omega, hz, hP.symm, h, by simp, by simp, by simp, by simp, by simp [hw1], by simp⟩ ?_
  rintro m E A2 hw2 hn2 ⟨t, i1, d2, rfl, ht, hai, hib, z2, q2, s2, e0, e1, e2, e3, e9, e10⟩
  by_cases ht5 : t < 5
  rotate_left
  · have ht5' : ¬ (t : Int) < 5 := by omega
    rw [show 5 - t = 0 from by omega, Sort.partialIns] at q2
    simp [e10, ht5']
    refine DN.of ⟨by rw [← q2], ?_⟩
    rw [← q2]; exact s2
  have ht5' : (t : Int) < 5 := by omega
  obtain ⟨s, hs⟩ : ∃ s, 5 - t = s + 1 := ⟨4 - t, by omega⟩
  rw [hs, Sort.partialIns] at q2
  have hgt : IntKind.i64.wrap ((t : Int) + 1) = ((t + 1 : Nat) : Int) := by rw [i64_in (by omega) (by omega)]; simp
  have hexq : ∃ x, x = Sort.scanSorted lt d2 b i1 := ⟨_, rfl⟩
  obtain ⟨T, hT⟩ := hexq
  rw [← hT] at q2
  simp [e10, ht5']
  refine LN.join 2 (fun m E A' => ∃ i : Nat, m = b - i ∧ i1 ≤ i ∧ i ≤ b ∧ Sort.scanSorted lt d2 b i = T ∧ SSF Q A0 A' (some bb) (.slice (some ⟨bb, 0, none⟩) n c) d2 ∧ E.get 0 = .slice (some ⟨bb, 0, none⟩) n c ∧ E.get 1 = .int .i64 a ∧ E.get 2 = .int .i64 b ∧ E.get 3 = .func (.func f) #[] #[] ∧ E.get 9 = .int .i64 i ∧ E.get 10 = .int .i64 t) (b - i1)
    (fun E A' => A'.wf ∧ i1 ≤ T ∧ T ≤ b ∧ SSF Q A0 A' (some bb) (.slice (some ⟨bb, 0, none⟩) n c) d2 ∧ E.get 0 = .slice (some ⟨bb, 0, none⟩) n c ∧ E.get 1 = .int .i64 a ∧ E.get 2 = .int .i64 b ∧ E.get 3 = .func (.func f) #[] #[] ∧ E.get 9 = .int .i64 T ∧ E.get 10 = .int .i64 t)
    ⟨i1, rfl, Nat.le_refl _, hib, hT.symm, s2, by simp [e0], by simp [e1], by simp [e2], by simp [e3], by simp [e9], by simp [e10]⟩ ?_ ?_
  · clear e0 e1 e2 e3 e9 e10
    rintro m E B hB hnB ⟨i, rfl, hi1, hi2, qi, sB, e0, e1, e2, e3, e9, e10⟩
    by_cases hij : i < b
    rotate_left
    · have hij' : ¬ (i : Int) < b := by omega
      rw [Sort.scanSorted, if_neg (by simp [hij])] at qi
      subst qi
      simp [e0, e1, e2, e3, e9, hij, hij']
      exact NX.of ⟨hB, hi1, hi2, sB, by simp [e0], by simp [e1], by simp [e2], by simp [e3], by simp [e9], by simp [e10]⟩
    have hij' : (i : Int) < b := by omega
    have hexq : ∃ x : Nat, x = i - 1 := ⟨_, rfl⟩
    obtain ⟨p, hp⟩ := hexq
    have hwp : IntKind.i64.wrap ((i : Int) - 1) = (p : Int) := by rw [i64_in (by omega) (by omega)]; omega
    have hi3 : i < d2.size := by omega
    have hp3 : p < d2.size := by omega
    have hi4 : i < n := by omega
    have hp4 : p < n := by omega
    have hgi : IntKind.i64.wrap ((i : Int) + 1) = ((i + 1 : Nat) : Int) := by rw [i64_in (by omega) (by omega)]; simp
    have hobt := sB.at2 hi3 hp3
    obtain ⟨cs, k1, ⟨k2, k3⟩, ⟨k4, k5⟩, -, -⟩ := hobt
    simp [-getElem!_pos, e0, e1, e2, e3, e9, hij, hij', hwp, hi4, hp4, k1, k2, k3, k4, k5]
    refine CN.use (hc B sB.ko sB.nx _ _ (sB.q _ hi3) (sB.q _ hp3)) ?_
    rintro _ C hC hnC ⟨r, rfl, hr, x3⟩
    have sC := sB.ext hB x3 hnC
    have hbool := Bool.eq_false_or_eq_true (lt d2[i]! d2[p]!)
    have hr2 : r < 0 ↔ lt d2[i]! d2[p]! = true := by rw [← hr]; simp
    rw [hp] at hbool hr2
    rcases hbool with hl | hl
    · have hr' : r < 0 := hr2.2 hl
      rw [Sort.scanSorted, if_neg (by simp [hl])] at qi
      subst qi
      simp [e0, e1, e2, e3, e9, hr']
      exact NX.of ⟨hC, hi1, hi2, sC, by simp [e0], by simp [e1], by simp [e2], by simp [e3], by simp [e9], by simp [e10]⟩
    · have hr' : ¬ r < 0 := fun h => by rw [hr2, hl] at h; cases h
      rw [Sort.scanSorted, if_pos (by simp [hij, hl])] at qi
      simp [e0, e1, e2, e3, e9, hr', hgi]
      exact NX.of ⟨b - (i + 1), by omega, i + 1, rfl, by omega, by omega, qi, sC, by simp [e0], by simp [e1], by simp [e2], by simp [e3], by simp, by simp [e10]⟩
  clear e0 e1 e2 e3 e9 e10
  rintro E B ⟨hB, hT1, hT2, sB, e0, e1, e2, e3, e9, e10⟩
  by_cases hTb : T = b
  · have hTb' : (T : Int) = b := by omega
    rw [if_pos hTb] at q2
    simp [e2, e9, hTb']
    refine DN.of ⟨by rw [← q2], ?_⟩
    rw [← q2]; exact sB
  have hTb' : ¬ (T : Int) = b := by omega
  rw [if_neg hTb] at q2
  have hexq : ∃ x : Nat, x = b - a := ⟨_, rfl⟩
  obtain ⟨ba, hba⟩ := hexq
  have hwba : IntKind.i64.wrap ((b : Int) - a) = (ba : Int) := by rw [i64_in (by omega) (by omega)]; omega
  by_cases h50 : ba < 50
  · have h50' : (ba : Int) < 50 := by omega
    rw [if_pos (by omega)] at q2
    simp [e1, e2, e9, hTb', hwba, h50']
    refine DN.of ⟨by rw [← q2], ?_⟩
    rw [← q2]; exact sB
  have h50' : ¬ (ba : Int) < 50 := by omega
  rw [if_neg (by omega)] at q2
  have hexq : ∃ x : Nat, x = T - 1 := ⟨_, rfl⟩
  obtain ⟨p, hp⟩ := hexq
  have hexq : ∃ x : Nat, x = T - a := ⟨_, rfl⟩
  obtain ⟨it, hit⟩ := hexq
  have hexq : ∃ x : Nat, x = b - T := ⟨_, rfl⟩
  obtain ⟨bt, hbt⟩ := hexq
  have hwp : IntKind.i64.wrap ((T : Int) - 1) = (p : Int) := by rw [i64_in (by omega) (by omega)]; omega
  have hwit : IntKind.i64.wrap ((T : Int) - a) = (it : Int) := by rw [i64_in (by omega) (by omega)]; omega
  have hwbt : IntKind.i64.wrap ((b : Int) - T) = (bt : Int) := by rw [i64_in (by omega) (by omega)]; omega
  have hwT : IntKind.i64.wrap ((T : Int) + 1) = ((T + 1 : Nat) : Int) := by rw [i64_in (by omega) (by omega)]; simp
  rw [← hp, ← hit, ← hbt] at q2
  have t1 : T < d2.size := by omega
  have p1 : p < d2.size := by omega
  have t2 : T < n := by omega
  have p2 : p < n := by omega
  have hobt := sB.at2 t1 p1
  obtain ⟨cs, k1, ⟨k2, k3⟩, ⟨k4, k5⟩, k6, k7⟩ := hobt
  have hexq : ∃ x, x = Sort.swp d2 T p := ⟨_, rfl⟩
  obtain ⟨D1, hD1⟩ := hexq
  have z3 : D1.size = n := by rw [hD1, Sort.size_swp]; exact z2
  rw [← hD1] at q2
  simp only [ge_iff_le] at q2
  have s3 := k7 (B.set bb (.row (spl (spl cs T [.pointer (some ⟨d2[p]!, 0, none⟩)]) p [.pointer (some ⟨d2[T]!, 0, none⟩)]) 86 false)) (by rw [AH.get_set, if_pos rfl]) (fun k hk hkb => by rw [AH.get_set, if_neg hkb]) (by simp)
  rw [← hD1] at s3
  clear k7
  by_cases hi2 : 2 ≤ it
  · have hi2' : (2 : Int) ≤ it := by omega
    rw [if_pos hi2] at q2
    have hexq : ∃ x, x = Sort.shiftDown lt p D1 := ⟨_, rfl⟩
    obtain ⟨D2, hD2⟩ := hexq
    rw [← hD2] at q2
    by_cases hb2 : 2 ≤ bt
    · have hb2' : (2 : Int) ≤ bt := by omega
      rw [if_pos hb2] at q2
      have hexq : ∃ x, x = Sort.shiftUp lt b (T + 1) D2 := ⟨_, rfl⟩
      obtain ⟨D3, hD3⟩ := hexq
      rw [← hD3] at q2
      simp [-getElem!_pos, e0, e1, e2, e3, e9, e10, hTb', hwba, h50', hwp, hwit, hi2', t2, p2, k1, k2, k3, k4, k5, k6]
      refine LN.join 4 (fun m E A' => ∃ (j : Nat) (d' : Array Nat), m = j ∧ j ≤ p ∧ d'.size = n ∧ Sort.shiftDown lt j d' = D2 ∧ SSF Q A0 A' (some bb) (.slice (some ⟨bb, 0, none⟩) n c) d' ∧ E.get 0 = .slice (some ⟨bb, 0, none⟩) n c ∧ E.get 1 = .int .i64 a ∧ E.get 2 = .int .i64 b ∧ E.get 3 = .func (.func f) #[] #[] ∧ E.get 9 = .int .i64 T ∧ E.get 10 = .int .i64 t ∧ E.get 11 = .int .i64 j) p
        (fun E A' => A'.wf ∧ D2.size = n ∧ SSF Q A0 A' (some bb) (.slice (some ⟨bb, 0, none⟩) n c) D2 ∧ E.get 0 = .slice (some ⟨bb, 0, none⟩) n c ∧ E.get 1 = .int .i64 a ∧ E.get 2 = .int .i64 b ∧ E.get 3 = .func (.func f) #[] #[] ∧ E.get 9 = .int .i64 T ∧ E.get 10 = .int .i64 t)
        ⟨p, D1, rfl, Nat.le_refl _, z3, hD2.symm, s3, by simp [e0], by simp [e1], by simp [e2], by simp [e3], by simp [e9], by simp [e10], by simp⟩ ?_ ?_
      · clear e0 e1 e2 e3 e9 e10
        rintro m E B hB hnB ⟨j, d4, rfl, hj1, z4, qj, sB, e0, e1, e2, e3, e9, e10, e11⟩
        by_cases hj0 : 1 ≤ m
        rotate_left
        · have hj0' : ¬ (1 : Int) ≤ m := by omega
          obtain rfl : m = 0 := by omega
          rw [Sort.shiftDown] at qj
          subst qj
          simp [e0, e1, e2, e3, e9, e10, e11]
          exact NX.of ⟨hB, z4, sB, by simp [e0], by simp [e1], by simp [e2], by simp [e3], by simp [e9], by simp [e10]⟩
        have hj0' : (1 : Int) ≤ m := by omega
        have hexq : ∃ x : Nat, x = m - 1 := ⟨_, rfl⟩
        obtain ⟨w, hw⟩ := hexq
        have hww : IntKind.i64.wrap ((m : Int) - 1) = (w : Int) := by rw [i64_in (by omega) (by omega)]; omega
        have hm3 : m < d4.size := by omega
        have hw3 : w < d4.size := by omega
        have hm4 : m < n := by omega
        have hw4 : w < n := by omega
        rw [show m = w + 1 from by omega, Sort.shiftDown, show w + 1 = m from by omega] at qj
        have hobt := sB.at2 hm3 hw3
        obtain ⟨cs, k1, ⟨k2, k3⟩, ⟨k4, k5⟩, k6, k7⟩ := hobt
        simp [-getElem!_pos, e0, e1, e2, e3, e9, e10, e11, hj0, hj0', hww, hm4, hw4, k1, k2, k3, k4, k5]
        refine CN.use (hc B sB.ko sB.nx _ _ (sB.q _ hm3) (sB.q _ hw3)) ?_
        rintro _ C hC hnC ⟨r, rfl, hr, x3⟩
        have sC := sB.ext hB x3 hnC
        have k1' := x3.get hB k1
        have hbool := Bool.eq_false_or_eq_true (lt d4[m]! d4[w]!)
        have hr2 : r < 0 ↔ lt d4[m]! d4[w]! = true := by rw [← hr]; simp
        rcases hbool with hl | hl
        · have hr' : r < 0 := hr2.2 hl
          rw [if_neg (by simp [hl])] at qj
          simp [-getElem!_pos, e0, e1, e2, e3, e9, e10, e11, hr', hww, hm4, hw4, k1', k2, k3, k4, k5, k6]
          exact NX.of ⟨w, by omega, w, _, rfl, by omega, by rw [Sort.size_swp]; exact z4, qj, k7 _ (by rw [AH.get_set, if_pos rfl]) (fun k hk hkb => by rw [AH.get_set, if_neg hkb, x3 k hk]) (by simpa using hnC), by simp [e0], by simp [e1], by simp [e2], by simp [e3], by simp [e9], by simp [e10], by simp⟩
        · have hr' : ¬ r < 0 := fun h => by rw [hr2, hl] at h; cases h
          rw [if_pos (by simp [hl])] at qj
          subst qj
          simp [e0, e1, e2, e3, e9, e10, e11, hr']
          exact NX.of ⟨hC, z4, sC, by simp [e0], by simp [e1], by simp [e2], by simp [e3], by simp [e9], by simp [e10]⟩
      clear e0 e1 e2 e3 e9 e10
      rintro E B4 ⟨hB4, z4, s4, e0, e1, e2, e3, e9, e10⟩
      simp [e2, e9, hwbt, hb2']
      refine LN.join 6 (fun m E A' => ∃ (j : Nat) (d' : Array Nat), m = b - j ∧ T < j ∧ j ≤ b ∧ d'.size = n ∧ Sort.shiftUp lt b j d' = D3 ∧ SSF Q A0 A' (some bb) (.slice (some ⟨bb, 0, none⟩) n c) d' ∧ E.get 0 = .slice (some ⟨bb, 0, none⟩) n c ∧ E.get 1 = .int .i64 a ∧ E.get 2 = .int .i64 b ∧ E.get 3 = .func (.func f) #[] #[] ∧ E.get 9 = .int .i64 T ∧ E.get 10 = .int .i64 t ∧ E.get 12 = .int .i64 j) (b - (T + 1))
        (fun E A' => A'.wf ∧ D3.size = n ∧ SSF Q A0 A' (some bb) (.slice (some ⟨bb, 0, none⟩) n c) D3 ∧ E.get 0 = .slice (some ⟨bb, 0, none⟩) n c ∧ E.get 1 = .int .i64 a ∧ E.get 2 = .int .i64 b ∧ E.get 3 = .func (.func f) #[] #[] ∧ E.get 9 = .int .i64 T ∧ E.get 10 = .int .i64 t)
        ⟨T + 1, D2, rfl, by omega, by omega, z4, hD3.symm, s4, by simp [e0], by simp [e1], by simp [e2], by simp [e3], by simp [e9], by simp [e10], by simp [hwT]⟩ ?_ ?_
      · clear e0 e1 e2 e3 e9 e10
        rintro m E B hB hnB ⟨j, d4, rfl, hj1, hj2, z4, qj, sB, e0, e1, e2, e3, e9, e10, e12⟩
        rw [Sort.shiftUp] at qj
        by_cases hj0 : j < b
        rotate_left
        · have hj0' : ¬ (j : Int) < b := by omega
          rw [if_neg hj0] at qj
          subst qj
          simp [e0, e1, e2, e3, e9, e10, e12, hj0, hj0']
          exact NX.of ⟨hB, z4, sB, by simp [e0], by simp [e1], by simp [e2], by simp [e3], by simp [e9], by simp [e10]⟩
        have hj0' : (j : Int) < b := by omega
        rw [if_pos hj0] at qj
        have hexq : ∃ x : Nat, x = j - 1 := ⟨_, rfl⟩
        obtain ⟨w, hw⟩ := hexq
        have hww : IntKind.i64.wrap ((j : Int) - 1) = (w : Int) := by rw [i64_in (by omega) (by omega)]; omega
        have hgj : IntKind.i64.wrap ((j : Int) + 1) = ((j + 1 : Nat) : Int) := by rw [i64_in (by omega) (by omega)]; simp
        have hm3 : j < d4.size := by omega
        have hw3 : w < d4.size := by omega
        have hm4 : j < n := by omega
        have hw4 : w < n := by omega
        rw [← hw] at qj
        have hobt := sB.at2 hm3 hw3
        obtain ⟨cs, k1, ⟨k2, k3⟩, ⟨k4, k5⟩, k6, k7⟩ := hobt
        simp [-getElem!_pos, e0, e1, e2, e3, e9, e10, e12, hj0, hj0', hww, hm4, hw4, k1, k2, k3, k4, k5]
        refine CN.use (hc B sB.ko sB.nx _ _ (sB.q _ hm3) (sB.q _ hw3)) ?_
        rintro _ C hC hnC ⟨r, rfl, hr, x3⟩
        have sC := sB.ext hB x3 hnC
        have k1' := x3.get hB k1
        have hbool := Bool.eq_false_or_eq_true (lt d4[j]! d4[w]!)
        have hr2 : r < 0 ↔ lt d4[j]! d4[w]! = true := by rw [← hr]; simp
        rcases hbool with hl | hl
        · have hr' : r < 0 := hr2.2 hl
          rw [if_neg (by simp [hl])] at qj
          simp [-getElem!_pos, e0, e1, e2, e3, e9, e10, e12, hr', hww, hgj, hm4, hw4, k1', k2, k3, k4, k5, k6]
          exact NX.of ⟨b - (j + 1), by omega, j + 1, _, rfl, by omega, by omega, by rw [Sort.size_swp]; exact z4, qj, k7 _ (by rw [AH.get_set, if_pos rfl]) (fun k hk hkb => by rw [AH.get_set, if_neg hkb, x3 k hk]) (by simpa using hnC), by simp [e0], by simp [e1], by simp [e2], by simp [e3], by simp [e9], by simp [e10], by simp⟩
        · have hr' : ¬ r < 0 := fun h => by rw [hr2, hl] at h; cases h
          rw [if_pos (by simp [hl])] at qj
          subst qj
          simp [e0, e1, e2, e3, e9, e10, e12, hr']
          exact NX.of ⟨hC, z4, sC, by simp [e0], by simp [e1], by simp [e2], by simp [e3], by simp [e9], by simp [e10]⟩
      clear e0 e1 e2 e3 e9 e10
      rintro E B6 ⟨hB6, z6, s6, e0, e1, e2, e3, e9, e10⟩
      simp [e10, hgt]
      exact NX.of ⟨5 - (t + 1), by omega, t + 1, T, D3, rfl, by omega, by omega, by omega, z6, by rw [show 5 - (t + 1) = s from by omega]; exact q2, s6, by simp [e0], by simp [e1], by simp [e2], by simp [e3], by simp [e9], by simp⟩
    · have hb2' : ¬ (2 : Int) ≤ bt := by omega
      rw [if_neg hb2] at q2
      have hexq : ∃ x, x = D2 := ⟨_, rfl⟩
      obtain ⟨D3, hD3⟩ := hexq
      rw [← hD3] at q2
      simp [-getElem!_pos, e0, e1, e2, e3, e9, e10, hTb', hwba, h50', hwp, hwit, hi2', t2, p2, k1, k2, k3, k4, k5, k6]
      refine LN.join 4 (fun m E A' => ∃ (j : Nat) (d' : Array Nat), m = j ∧ j ≤ p ∧ d'.size = n ∧ Sort.shiftDown lt j d' = D2 ∧ SSF Q A0 A' (some bb) (.slice (some ⟨bb, 0, none⟩) n c) d' ∧ E.get 0 = .slice (some ⟨bb, 0, none⟩) n c ∧ E.get 1 = .int .i64 a ∧ E.get 2 = .int .i64 b ∧ E.get 3 = .func (.func f) #[] #[] ∧ E.get 9 = .int .i64 T ∧ E.get 10 = .int .i64 t ∧ E.get 11 = .int .i64 j) p
        (fun E A' => A'.wf ∧ D2.size = n ∧ SSF Q A0 A' (some bb) (.slice (some ⟨bb, 0, none⟩) n c) D2 ∧ E.get 0 = .slice (some ⟨bb, 0, none⟩) n c ∧ E.get 1 = .int .i64 a ∧ E.get 2 = .int .i64 b ∧ E.get 3 = .func (.func f) #[] #[] ∧ E.get 9 = .int .i64 T ∧ E.get 10 = .int .i64 t)
        ⟨p, D1, rfl, Nat.le_refl _, z3, hD2.symm, s3, by simp [e0], by simp [e1], by simp [e2], by simp [e3], by simp [e9], by simp [e10], by simp⟩ ?_ ?_
      · clear e0 e1 e2 e3 e9 e10
        rintro m E B hB hnB ⟨j, d4, rfl, hj1, z4, qj, sB, e0, e1, e2, e3, e9, e10, e11⟩
        by_cases hj0 : 1 ≤ m
        rotate_left
        · have hj0' : ¬ (1 : Int) ≤ m := by omega
          obtain rfl : m = 0 := by omega
          rw [Sort.shiftDown] at qj
          subst qj
          simp [e0, e1, e2, e3, e9, e10, e11]
          exact NX.of ⟨hB, z4, sB, by simp [e0], by simp [e1], by simp [e2], by simp [e3], by simp [e9], by simp [e10]⟩
        have hj0' : (1 : Int) ≤ m := by omega
        have hexq : ∃ x : Nat, x = m - 1 := ⟨_, rfl⟩
        obtain ⟨w, hw⟩ := hexq
        have hww : IntKind.i64.wrap ((m : Int) - 1) = (w : Int) := by rw [i64_in (by omega) (by omega)]; omega
        have hm3 : m < d4.size := by omega
        have hw3 : w < d4.size := by omega
        have hm4 : m < n := by omega
        have hw4 : w < n := by omega
        rw [show m = w + 1 from by omega, Sort.shiftDown, show w + 1 = m from by omega] at qj
        have hobt := sB.at2 hm3 hw3
        obtain ⟨cs, k1, ⟨k2, k3⟩, ⟨k4, k5⟩, k6, k7⟩ := hobt
        simp [-getElem!_pos, e0, e1, e2, e3, e9, e10, e11, hj0, hj0', hww, hm4, hw4, k1, k2, k3, k4, k5]
        refine CN.use (hc B sB.ko sB.nx _ _ (sB.q _ hm3) (sB.q _ hw3)) ?_
        rintro _ C hC hnC ⟨r, rfl, hr, x3⟩
        have sC := sB.ext hB x3 hnC
        have k1' := x3.get hB k1
        have hbool := Bool.eq_false_or_eq_true (lt d4[m]! d4[w]!)
        have hr2 : r < 0 ↔ lt d4[m]! d4[w]! = true := by rw [← hr]; simp
        rcases hbool with hl | hl
        · have hr' : r < 0 := hr2.2 hl
          rw [if_neg (by simp [hl])] at qj
          simp [-getElem!_pos, e0, e1, e2, e3, e9, e10, e11, hr', hww, hm4, hw4, k1', k2, k3, k4, k5, k6]
          exact NX.of ⟨w, by omega, w, _, rfl, by omega, by rw [Sort.size_swp]; exact z4, qj, k7 _ (by rw [AH.get_set, if_pos rfl]) (fun k hk hkb => by rw [AH.get_set, if_neg hkb, x3 k hk]) (by simpa using hnC), by simp [e0], by simp [e1], by simp [e2], by simp [e3], by simp [e9], by simp [e10], by simp⟩
        · have hr' : ¬ r < 0 := fun h => by rw [hr2, hl] at h; cases h
          rw [if_pos (by simp [hl])] at qj
          subst qj
          simp [e0, e1, e2, e3, e9, e10, e11, hr']
          exact NX.of ⟨hC, z4, sC, by simp [e0], by simp [e1], by simp [e2], by simp [e3], by simp [e9], by simp [e10]⟩
      clear e0 e1 e2 e3 e9 e10
      rintro E B4 ⟨hB4, z4, s4, e0, e1, e2, e3, e9, e10⟩
      simp [e2, e9, e10, hwbt, hb2', hgt]
      rw [← hD3] at s4 z4
      exact NX.of ⟨5 - (t + 1), by omega, t + 1, T, D3, rfl, by omega, by omega, by omega, z4, by rw [show 5 - (t + 1) = s from by omega]; exact q2, s4, by simp [e0], by simp [e1], by simp [e2], by simp [e3], by simp [e9], by simp⟩
  · have hi2' : ¬ (2 : Int) ≤ it := by omega
    rw [if_neg hi2] at q2
    have hexq : ∃ x, x = D1 := ⟨_, rfl⟩
    obtain ⟨D2, hD2⟩ := hexq
    rw [← hD2] at q2 s3 z3
    by_cases hb2 : 2 ≤ bt
    · have hb2' : (2 : Int) ≤ bt := by omega
      rw [if_pos hb2] at q2
      have hexq : ∃ x, x = Sort.shiftUp lt b (T + 1) D2 := ⟨_, rfl⟩
      obtain ⟨D3, hD3⟩ := hexq
      rw [← hD3] at q2
      simp [-getElem!_pos, e0, e1, e2, e3, e9, e10, hTb', hwba, h50', hwp, hwit, hi2', hwbt, hb2', t2, p2, k1, k2, k3, k4, k5, k6]
      refine LN.join 6 (fun m E A' => ∃ (j : Nat) (d' : Array Nat), m = b - j ∧ T < j ∧ j ≤ b ∧ d'.size = n ∧ Sort.shiftUp lt b j d' = D3 ∧ SSF Q A0 A' (some bb) (.slice (some ⟨bb, 0, none⟩) n c) d' ∧ E.get 0 = .slice (some ⟨bb, 0, none⟩) n c ∧ E.get 1 = .int .i64 a ∧ E.get 2 = .int .i64 b ∧ E.get 3 = .func (.func f) #[] #[] ∧ E.get 9 = .int .i64 T ∧ E.get 10 = .int .i64 t ∧ E.get 12 = .int .i64 j) (b - (T + 1))
        (fun E A' => A'.wf ∧ D3.size = n ∧ SSF Q A0 A' (some bb) (.slice (some ⟨bb, 0, none⟩) n c) D3 ∧ E.get 0 = .slice (some ⟨bb, 0, none⟩) n c ∧ E.get 1 = .int .i64 a ∧ E.get 2 = .int .i64 b ∧ E.get 3 = .func (.func f) #[] #[] ∧ E.get 9 = .int .i64 T ∧ E.get 10 = .int .i64 t)
        ⟨T + 1, D2, rfl, by omega, by omega, z3, hD3.symm, s3, by simp [e0], by simp [e1], by simp [e2], by simp [e3], by simp [e9], by simp [e10], by simp [hwT]⟩ ?_ ?_
      · clear e0 e1 e2 e3 e9 e10
        rintro m E B hB hnB ⟨j, d4, rfl, hj1, hj2, z4, qj, sB, e0, e1, e2, e3, e9, e10, e12⟩
        rw [Sort.shiftUp] at qj
        by_cases hj0 : j < b
        rotate_left
        · have hj0' : ¬ (j : Int) < b := by omega
          rw [if_neg hj0] at qj
          subst qj
          simp [e0, e1, e2, e3, e9, e10, e12, hj0, hj0']
          exact NX.of ⟨hB, z4, sB, by simp [e0], by simp [e1], by simp [e2], by simp [e3], by simp [e9], by simp [e10]⟩
        have hj0' : (j : Int) < b := by omega
        rw [if_pos hj0] at qj
        have hexq : ∃ x : Nat, x = j - 1 := ⟨_, rfl⟩
        obtain ⟨w, hw⟩ := hexq
        have hww : IntKind.i64.wrap ((j : Int) - 1) = (w : Int) := by rw [i64_in (by omega) (by omega)]; omega
        have hgj : IntKind.i64.wrap ((j : Int) + 1) = ((j + 1 : Nat) : Int) := by rw [i64_in (by omega) (by omega)]; simp
        have hm3 : j < d4.size := by omega
        have hw3 : w < d4.size := by omega
        have hm4 : j < n := by omega
        have hw4 : w < n := by omega
        rw [← hw] at qj
        have hobt := sB.at2 hm3 hw3
        obtain ⟨cs, k1, ⟨k2, k3⟩, ⟨k4, k5⟩, k6, k7⟩ := hobt
        simp [-getElem!_pos, e0, e1, e2, e3, e9, e10, e12, hj0, hj0', hww, hm4, hw4, k1, k2, k3, k4, k5]
        refine CN.use (hc B sB.ko sB.nx _ _ (sB.q _ hm3) (sB.q _ hw3)) ?_
        rintro _ C hC hnC ⟨r, rfl, hr, x3⟩
        have sC := sB.ext hB x3 hnC
        have k1' := x3.get hB k1
        have hbool := Bool.eq_false_or_eq_true (lt d4[j]! d4[w]!)
        have hr2 : r < 0 ↔ lt d4[j]! d4[w]! = true := by rw [← hr]; simp
        rcases hbool with hl | hl
        · have hr' : r < 0 := hr2.2 hl
          rw [if_neg (by simp [hl])] at qj
          simp [-getElem!_pos, e0, e1, e2, e3, e9, e10, e12, hr', hww, hgj, hm4, hw4, k1', k2, k3, k4, k5, k6]
          exact NX.of ⟨b - (j + 1), by omega, j + 1, _, rfl, by omega, by omega, by rw [Sort.size_swp]; exact z4, qj, k7 _ (by rw [AH.get_set, if_pos rfl]) (fun k hk hkb => by rw [AH.get_set, if_neg hkb, x3 k hk]) (by simpa using hnC), by simp [e0], by simp [e1], by simp [e2], by simp [e3], by simp [e9], by simp [e10], by simp⟩
        · have hr' : ¬ r < 0 := fun h => by rw [hr2, hl] at h; cases h
          rw [if_pos (by simp [hl])] at qj
          subst qj
          simp [e0, e1, e2, e3, e9, e10, e12, hr']
          exact NX.of ⟨hC, z4, sC, by simp [e0], by simp [e1], by simp [e2], by simp [e3], by simp [e9], by simp [e10]⟩
      clear e0 e1 e2 e3 e9 e10
      rintro E B6 ⟨hB6, z6, s6, e0, e1, e2, e3, e9, e10⟩
      simp [e10, hgt]
      exact NX.of ⟨5 - (t + 1), by omega, t + 1, T, D3, rfl, by omega, by omega, by omega, z6, by rw [show 5 - (t + 1) = s from by omega]; exact q2, s6, by simp [e0], by simp [e1], by simp [e2], by simp [e3], by simp [e9], by simp⟩
    · have hb2' : ¬ (2 : Int) ≤ bt := by omega
      rw [if_neg hb2] at q2
      have hexq : ∃ x, x = D2 := ⟨_, rfl⟩
      obtain ⟨D3, hD3⟩ := hexq
      rw [← hD3] at q2 s3 z3
      simp [-getElem!_pos, e0, e1, e2, e3, e9, e10, hTb', hwba, h50', hwp, hwit, hi2', hwbt, hb2', hgt, t2, p2, k1, k2, k3, k4, k5, k6]
      exact NX.of ⟨5 - (t + 1), by omega, t + 1, T, D3, rfl, by omega, by omega, by omega, z3, by rw [show 5 - (t + 1) = s from by omega]; exact q2, s3, by simp [e0], by simp [e1], by simp [e2], by simp [e3], by simp [e9], by simp⟩
end
end Go.Proofs.Ytieehccjajhpfaa.AC
/- Sorting pointers: the whole. -/
namespace Go.Proofs.Ytieehccjajhpfaa.AC
open Go Go.AI Go.Proofs Go.Proofs.Ytieehccjajhpfaa.AQ
set_option linter.unusedVariables false
section
variable {Q : Nat → Prop} {A0 A A' : AH} {bb n c : Nat} {d : Array Nat} {lt : Nat → Nat → Bool} {f : FuncId}
set_option maxHeartbeats 4000000 in
theorem pdqF_ok (hO : Sort.SWO lt) (hn : n < 256) (hc : CmpF A0 (some bb) Q lt f) : ∀ (k : Nat) (A : AH) (d : Array Nat) (a b : Nat) (lim : Int), b - a = k → a ≤ b → b ≤ n → Sort.Below lt a b d → SSF Q A0 A (some bb) (.slice (some ⟨bb, 0, none⟩) n c) d → d.size = n →
    ACall Try.prog 62 [.slice (some ⟨bb, 0, none⟩) n c, .int .i64 a, .int .i64 b, .int .i64 lim, .func (.func f) #[] #[]] A fun _ A' => ∃ d', Sort.PermIn a b d d' ∧ Sort.SortedIn lt a b d' ∧ SSF Q A0 A' (some bb) (.slice (some ⟨bb, 0, none⟩) n c) d' := by
  intro k
  induction k using Nat.strongRecOn with
  | ind k ih =>
  intro A d a b lim hk hab hbn hBel h hz
  refine code62.call (by simp) fun hwf => ?_
  unfold c62
  simp
  refine LN.use (fun m E A' => ∃ (a1 b1 : Nat) (lim : Int) (wb wp : Bool) (d' : Array Nat), m = b1 - a1 ∧ a ≤ a1 ∧ a1 ≤ b1 ∧ b1 ≤ b ∧ d'.size = n ∧ Sort.Below lt a1 b1 d' ∧ (∀ R, Sort.PermIn a1 b1 d' R → Sort.SortedIn lt a1 b1 R → Sort.PermIn a b d R ∧ Sort.SortedIn lt a b R) ∧ SSF Q A0 A' (some bb) (.slice (some ⟨bb, 0, none⟩) n c) d' ∧ E.get 0 = .slice (some ⟨bb, 0, none⟩) n c ∧ E.get 1 = .int .i64 a1 ∧ E.get 2 = .int .i64 b1 ∧ E.get 3 = .int .i64 lim ∧ E.get 4 = .func (.func f) #[] #[] ∧ E.get 10 = .bool wb ∧ E.get 11 = .bool wp) (b - a)
    ⟨a, b, lim, true, true, d, rfl, Nat.le_refl _, hab, Nat.le_refl _, hz, hBel, fun R h1 h2 => ⟨h1, h2⟩, h, by simp, by simp, by simp, by simp, by simp, by simp, by simp⟩ ?_
  clear h hz hBel lim
  rintro m E A1 hw1 hn1 ⟨a1, b1, lim, wb, wp, d1, rfl, ha1, hab1, hb1, z1, bel1, R1, s1, e0, e1, e2, e3, e4, e10, e11⟩
  have hexq : ∃ x : Nat, x = b1 - a1 := ⟨_, rfl⟩
  obtain ⟨L, hL⟩ := hexq
  have vL : IntKind.i64.wrap ((b1 : Int) - a1) = (L : Int) := by rw [i64_in (by omega) (by omega)]; omega
  by_cases h12 : L ≤ 12
  · have h12' : (L : Int) ≤ 12 := by omega
    simp [e0, e1, e2, e3, e4, e10, e11, vL, h12, h12']
    have hins := inssF_ok s1 hc (a := a1) (b := b1) (by omega) (by omega)
    refine CN.use hins ?_
    rintro _ A2 hw2 hn2 s2
    simp
    have hobt := Sort.insertionSort_holds hO d1 a1 b1 hab1 (by omega)
    obtain ⟨p1, p2⟩ := hobt
    have hobt := R1 _ p1 p2
    obtain ⟨p3, p4⟩ := hobt
    exact DN.of ⟨_, p3, p4, s2⟩
  have h12' : ¬ (L : Int) ≤ 12 := by omega
  by_cases hl0 : lim = 0
  · subst hl0
    simp [e0, e1, e2, e3, e4, e10, e11, vL, h12, h12']
    refine CN.use (heapsF_ok s1 z1 hc (a := a1) (b := b1) (by omega) (by omega)) ?_
    rintro _ A2 hw2 hn2 s2
    simp
    have hobt := Sort.heapSort_holds hO d1 a1 b1 hab1 (by omega)
    obtain ⟨p1, p2⟩ := hobt
    have hobt := R1 _ p1 p2
    obtain ⟨p3, p4⟩ := hobt
    exact DN.of ⟨_, p3, p4, s2⟩
  have R0 := R1
  cases wb with
  | false =>
    simp [e0, e1, e2, e3, e4, e10, e11, vL, h12, h12', hl0]
    refine CN.use (brkF_ok s1 z1 hn (a := a1) (b := b1) (by omega) (by omega) _) ?_
    rintro _ A2 hw2 hn2 ⟨D2, p2, s2⟩
    have z2 : D2.size = n := by rw [p2.1]; exact z1
    have bel2 := Sort.Below.permA Sort.permIn_all (by omega) bel1 p2
    have R2 := fun R h1 h2 => R1 R (Sort.permIn_trans _ _ _ _ _ p2 h1) h2
    simp [e0, e1, e2, e3, e4, e10, e11]
    refine CN.use (pivF_ok s2 z2 hc (a := a1) (b := b1) (by omega) (by omega)) ?_
    rintro _ A3 hw3 hn3 ⟨pv, x, hpv1, hpv2, rfl, s3⟩
    by_cases x2 : x = 2
    · simp [e0, e1, e2, e3, e4, e10, e11, x2]
      refine CN.use (revF_ok s3 z2 (a := a1) (b := b1) (by omega) (by omega) _) ?_
      rintro _ A4 hw4 hn4 ⟨D4, p4, s4⟩
      have z4 : D4.size = n := by rw [p4.1]; exact z2
      have bel4 := Sort.Below.permA Sort.permIn_all (by omega) bel2 p4
      have R4 := fun R h1 h2 => R2 R (Sort.permIn_trans _ _ _ _ _ p4 h1) h2
      have hexq : ∃ x : Nat, x = b1 - 1 := ⟨_, rfl⟩
      obtain ⟨bm, hbm⟩ := hexq
      have hexq : ∃ x : Nat, x = pv - a1 := ⟨_, rfl⟩
      obtain ⟨pa, hpa⟩ := hexq
      have hexq : ∃ x : Nat, x = bm - pa := ⟨_, rfl⟩
      obtain ⟨pr, hpr⟩ := hexq
      have y1 : IntKind.i64.wrap ((b1 : Int) - 1) = (bm : Int) := by rw [i64_in (by omega) (by omega)]; omega
      have y2 : IntKind.i64.wrap ((pv : Int) - a1) = (pa : Int) := by rw [i64_in (by omega) (by omega)]; omega
      have y3 : IntKind.i64.wrap ((bm : Int) - pa) = (pr : Int) := by rw [i64_in (by omega) (by omega)]; omega
      have hpr1 : a1 ≤ pr := by omega
      have hpr2 : pr < b1 := by omega
      by_cases ha0 : 0 < a1
      · have ha0' : (0 : Int) < a1 := by omega
        have hexq : ∃ x : Nat, x = a1 - 1 := ⟨_, rfl⟩
        obtain ⟨w, hw⟩ := hexq
        have hww : IntKind.i64.wrap ((a1 : Int) - 1) = (w : Int) := by rw [i64_in (by omega) (by omega)]; omega
        have w1 : w < D4.size := by omega
        have w2 : w < n := by omega
        have q1 : pr < D4.size := by omega
        have q2 : pr < n := by omega
        have hobt := s4.at2 w1 q1
        obtain ⟨cs, k1, ⟨k2, k3⟩, ⟨k4, k5⟩, -, -⟩ := hobt
        simp [-getElem!_pos, e0, e1, e2, e3, e4, e10, e11, y1, y2, y3, ha0, ha0', hww, w2, q2, k1, k2, k3, k4, k5]
        refine CN.use (hc _ s4.ko s4.nx _ _ (s4.q _ w1) (s4.q _ q1)) ?_
        rintro _ A6 hw6 hn6 ⟨r, rfl, hr, x6⟩
        have s6 := s4.ext hw4 x6 hn6
        have hbool := Bool.eq_false_or_eq_true (lt D4[w]! D4[pr]!)
        have hr2 : r < 0 ↔ lt D4[w]! D4[pr]! = true := by rw [← hr]; simp
        rcases hbool with hl | hl
        · have hr' : r < 0 := hr2.2 hl
          simp [e0, e1, e2, e3, e4, e10, e11, y1, y2, y3, hr']
          refine CN.use (partF_ok s6 z4 hc (a := a1) (b := b1) (pv := pr) hpr1 hpr2 (by omega)) ?_
          rintro _ A7 hw7 hn7 ⟨rfl, s7⟩
          have hexq : ∃ x, x = Sort.partition lt D4 a1 b1 pr := ⟨_, rfl⟩
          obtain ⟨⟨mid, ap, D7⟩, hD7⟩ := hexq
          rw [← hD7] at s7
          simp only [] at s7
          have hobt := Sort.round_part hO (Sort.partition_holds lt) hpr1 hpr2 (by omega) bel4 hD7.symm
          obtain ⟨rp1, rp2, rp3, rp4, rp5, rp6, rp7⟩ := hobt
          have z7 : D7.size = n := by rw [rp3]; exact z4
          have hexq : ∃ x : Nat, x = mid - a1 := ⟨_, rfl⟩
          obtain ⟨ll, hll⟩ := hexq
          have hexq : ∃ x : Nat, x = b1 - mid := ⟨_, rfl⟩
          obtain ⟨rl, hrl⟩ := hexq
          have hexq : ∃ x : Nat, x = mid + 1 := ⟨_, rfl⟩
          obtain ⟨m1, hm1⟩ := hexq
          have vll : IntKind.i64.wrap ((mid : Int) - a1) = (ll : Int) := by rw [i64_in (by omega) (by omega)]; omega
          have vrl : IntKind.i64.wrap ((b1 : Int) - mid) = (rl : Int) := by rw [i64_in (by omega) (by omega)]; omega
          have vm1 : IntKind.i64.wrap ((mid : Int) + 1) = (m1 : Int) := by rw [i64_in (by omega) (by omega)]; omega
          by_cases hside : ll < rl
          · have hside' : (ll : Int) < rl := by omega
            simp [← hD7, e0, e1, e2, e3, e4, e10, e11, vll, vrl, hside']
            refine CN.use (ih (mid - a1) (by omega) A7 D7 a1 mid _ rfl rp1 (by omega) rp4 s7 z7) ?_
            rintro _ A8 hw8 hn8 ⟨L8, g1, g2, s8⟩
            have hobt := rp6 L8 g1 g2
            obtain ⟨g3, g4⟩ := hobt
            simp [e0, e1, e2, e3, e4, e10, e11, vm1]
            exact NX.of ⟨b1 - m1, by omega, m1, b1, _, _, _, L8, rfl, by omega, by omega, by omega, by rw [g1.1]; exact z7, by rw [hm1]; exact g3, fun R h1 h2 => by rw [hm1] at h1 h2; obtain ⟨h3, h4⟩ := g4 R h1 h2; exact R4 R h3 h4, s8, by simp [e0], by simp, by simp [e2], by simp [e3] <;> rfl, by simp [e4], by simp <;> rfl, by simp <;> rfl⟩
          · have hside' : ¬ (ll : Int) < rl := by omega
            simp [← hD7, e0, e1, e2, e3, e4, e10, e11, vll, vrl, vm1, hside']
            refine CN.use (ih (b1 - m1) (by omega) A7 D7 m1 b1 _ rfl (by omega) (by omega) (by rw [hm1]; exact rp5) s7 z7) ?_
            rintro _ A8 hw8 hn8 ⟨L8, g1, g2, s8⟩
            rw [hm1] at g1 g2
            have hobt := rp7 L8 g1 g2
            obtain ⟨g3, g4⟩ := hobt
            simp [e0, e1, e2, e3, e4, e10, e11]
            exact NX.of ⟨mid - a1, by omega, a1, mid, _, _, _, L8, rfl, by omega, by omega, by omega, by rw [g1.1]; exact z7, g3, fun R h1 h2 => by obtain ⟨h3, h4⟩ := g4 R h1 h2; exact R4 R h3 h4, s8, by simp [e0], by simp [e1], by simp, by simp [e3] <;> rfl, by simp [e4], by simp <;> rfl, by simp <;> rfl⟩
        · have hr' : ¬ r < 0 := fun h => by rw [hr2, hl] at h; cases h
          simp [e0, e1, e2, e3, e4, e10, e11, y1, y2, y3, hr']
          refine CN.use (pareqF_ok s6 z4 hc (a := a1) (b := b1) (pv := pr) hpr1 hpr2 (by omega)) ?_
          rintro _ A7 hw7 hn7 ⟨rfl, s7⟩
          have hexq : ∃ x, x = Sort.partitionEqual lt D4 a1 b1 pr := ⟨_, rfl⟩
          obtain ⟨⟨mid, D7⟩, hD7⟩ := hexq
          rw [← hD7] at s7
          simp only [] at s7
          rw [hw] at hl
          have hobt := Sort.round_eq hO (Sort.partitionEqual_holds lt) ha0 hpr1 hpr2 (by omega) bel4 hl hD7.symm
          obtain ⟨rp1, rp2, rp3, rp4, rp5⟩ := hobt
          simp [← hD7, e0, e1, e2, e3, e4, e10, e11]
          exact NX.of ⟨b1 - mid, by omega, mid, b1, _, _, _, D7, rfl, by omega, by omega, by omega, by rw [rp3]; exact z4, rp4, fun R h1 h2 => by obtain ⟨h3, h4⟩ := rp5 R h1 h2; exact R4 R h3 h4, s7, by simp [e0], by simp, by simp [e2], by simp [e3] <;> rfl, by simp [e4], by simp [e10] <;> rfl, by simp [e11] <;> rfl⟩
      · have ha0' : ¬ (0 : Int) < a1 := by omega
        simp [e0, e1, e2, e3, e4, e10, e11, y1, y2, y3, ha0, ha0']
        refine CN.use (partF_ok s4 z4 hc (a := a1) (b := b1) (pv := pr) hpr1 hpr2 (by omega)) ?_
        rintro _ A7 hw7 hn7 ⟨rfl, s7⟩
        have hexq : ∃ x, x = Sort.partition lt D4 a1 b1 pr := ⟨_, rfl⟩
        obtain ⟨⟨mid, ap, D7⟩, hD7⟩ := hexq
        rw [← hD7] at s7
        simp only [] at s7
        have hobt := Sort.round_part hO (Sort.partition_holds lt) hpr1 hpr2 (by omega) bel4 hD7.symm
        obtain ⟨rp1, rp2, rp3, rp4, rp5, rp6, rp7⟩ := hobt
        have z7 : D7.size = n := by rw [rp3]; exact z4
        have hexq : ∃ x : Nat, x = mid - a1 := ⟨_, rfl⟩
        obtain ⟨ll, hll⟩ := hexq
        have hexq : ∃ x : Nat, x = b1 - mid := ⟨_, rfl⟩
        obtain ⟨rl, hrl⟩ := hexq
        have hexq : ∃ x : Nat, x = mid + 1 := ⟨_, rfl⟩
        obtain ⟨m1, hm1⟩ := hexq
        have vll : IntKind.i64.wrap ((mid : Int) - a1) = (ll : Int) := by rw [i64_in (by omega) (by omega)]; omega
        have vrl : IntKind.i64.wrap ((b1 : Int) - mid) = (rl : Int) := by rw [i64_in (by omega) (by omega)]; omega
        have vm1 : IntKind.i64.wrap ((mid : Int) + 1) = (m1 : Int) := by rw [i64_in (by omega) (by omega)]; omega
        by_cases hside : ll < rl
        · have hside' : (ll : Int) < rl := by omega
          simp [← hD7, e0, e1, e2, e3, e4, e10, e11, vll, vrl, hside']
          refine CN.use (ih (mid - a1) (by omega) A7 D7 a1 mid _ rfl rp1 (by omega) rp4 s7 z7) ?_
          rintro _ A8 hw8 hn8 ⟨L8, g1, g2, s8⟩
          have hobt := rp6 L8 g1 g2
          obtain ⟨g3, g4⟩ := hobt
          simp [e0, e1, e2, e3, e4, e10, e11, vm1]
          exact NX.of ⟨b1 - m1, by omega, m1, b1, _, _, _, L8, rfl, by omega, by omega, by omega, by rw [g1.1]; exact z7, by rw [hm1]; exact g3, fun R h1 h2 => by rw [hm1] at h1 h2; obtain ⟨h3, h4⟩ := g4 R h1 h2; exact R4 R h3 h4, s8, by simp [e0], by simp, by simp [e2], by simp [e3] <;> rfl, by simp [e4], by simp <;> rfl, by simp <;> rfl⟩
        · have hside' : ¬ (ll : Int) < rl := by omega
          simp [← hD7, e0, e1, e2, e3, e4, e10, e11, vll, vrl, vm1, hside']
          refine CN.use (ih (b1 - m1) (by omega) A7 D7 m1 b1 _ rfl (by omega) (by omega) (by rw [hm1]; exact rp5) s7 z7) ?_
          rintro _ A8 hw8 hn8 ⟨L8, g1, g2, s8⟩
          rw [hm1] at g1 g2
          have hobt := rp7 L8 g1 g2
          obtain ⟨g3, g4⟩ := hobt
          simp [e0, e1, e2, e3, e4, e10, e11]
          exact NX.of ⟨mid - a1, by omega, a1, mid, _, _, _, L8, rfl, by omega, by omega, by omega, by rw [g1.1]; exact z7, g3, fun R h1 h2 => by obtain ⟨h3, h4⟩ := g4 R h1 h2; exact R4 R h3 h4, s8, by simp [e0], by simp [e1], by simp, by simp [e3] <;> rfl, by simp [e4], by simp <;> rfl, by simp <;> rfl⟩
    · have y1 : True := trivial
      by_cases ha0 : 0 < a1
      · have ha0' : (0 : Int) < a1 := by omega
        have hexq : ∃ x : Nat, x = a1 - 1 := ⟨_, rfl⟩
        obtain ⟨w, hw⟩ := hexq
        have hww : IntKind.i64.wrap ((a1 : Int) - 1) = (w : Int) := by rw [i64_in (by omega) (by omega)]; omega
        have w1 : w < D2.size := by omega
        have w2 : w < n := by omega
        have q1 : pv < D2.size := by omega
        have q2 : pv < n := by omega
        have hobt := s3.at2 w1 q1
        obtain ⟨cs, k1, ⟨k2, k3⟩, ⟨k4, k5⟩, -, -⟩ := hobt
        simp [-getElem!_pos, e0, e1, e2, e3, e4, e10, e11, x2, ha0, ha0', hww, w2, q2, k1, k2, k3, k4, k5]
        refine CN.use (hc _ s3.ko s3.nx _ _ (s3.q _ w1) (s3.q _ q1)) ?_
        rintro _ A6 hw6 hn6 ⟨r, rfl, hr, x6⟩
        have s6 := s3.ext hw3 x6 hn6
        have hbool := Bool.eq_false_or_eq_true (lt D2[w]! D2[pv]!)
        have hr2 : r < 0 ↔ lt D2[w]! D2[pv]! = true := by rw [← hr]; simp
        rcases hbool with hl | hl
        · have hr' : r < 0 := hr2.2 hl
          simp [e0, e1, e2, e3, e4, e10, e11, x2, hr']
          refine CN.use (partF_ok s6 z2 hc (a := a1) (b := b1) (pv := pv) hpv1 hpv2 (by omega)) ?_
          rintro _ A7 hw7 hn7 ⟨rfl, s7⟩
          have hexq : ∃ x, x = Sort.partition lt D2 a1 b1 pv := ⟨_, rfl⟩
          obtain ⟨⟨mid, ap, D7⟩, hD7⟩ := hexq
          rw [← hD7] at s7
          simp only [] at s7
          have hobt := Sort.round_part hO (Sort.partition_holds lt) hpv1 hpv2 (by omega) bel2 hD7.symm
          obtain ⟨rp1, rp2, rp3, rp4, rp5, rp6, rp7⟩ := hobt
          have z7 : D7.size = n := by rw [rp3]; exact z2
          have hexq : ∃ x : Nat, x = mid - a1 := ⟨_, rfl⟩
          obtain ⟨ll, hll⟩ := hexq
          have hexq : ∃ x : Nat, x = b1 - mid := ⟨_, rfl⟩
          obtain ⟨rl, hrl⟩ := hexq
          have hexq : ∃ x : Nat, x = mid + 1 := ⟨_, rfl⟩
          obtain ⟨m1, hm1⟩ := hexq
          have vll : IntKind.i64.wrap ((mid : Int) - a1) = (ll : Int) := by rw [i64_in (by omega) (by omega)]; omega
          have vrl : IntKind.i64.wrap ((b1 : Int) - mid) = (rl : Int) := by rw [i64_in (by omega) (by omega)]; omega
          have vm1 : IntKind.i64.wrap ((mid : Int) + 1) = (m1 : Int) := by rw [i64_in (by omega) (by omega)]; omega
          by_cases hside : ll < rl
          · have hside' : (ll : Int) < rl := by omega
            simp [← hD7, e0, e1, e2, e3, e4, e10, e11, vll, vrl, hside']
            refine CN.use (ih (mid - a1) (by omega) A7 D7 a1 mid _ rfl rp1 (by omega) rp4 s7 z7) ?_
            rintro _ A8 hw8 hn8 ⟨L8, g1, g2, s8⟩
            have hobt := rp6 L8 g1 g2
            obtain ⟨g3, g4⟩ := hobt
            simp [e0, e1, e2, e3, e4, e10, e11, vm1]
            exact NX.of ⟨b1 - m1, by omega, m1, b1, _, _, _, L8, rfl, by omega, by omega, by omega, by rw [g1.1]; exact z7, by rw [hm1]; exact g3, fun R h1 h2 => by rw [hm1] at h1 h2; obtain ⟨h3, h4⟩ := g4 R h1 h2; exact R2 R h3 h4, s8, by simp [e0], by simp, by simp [e2], by simp [e3] <;> rfl, by simp [e4], by simp <;> rfl, by simp <;> rfl⟩
          · have hside' : ¬ (ll : Int) < rl := by omega
            simp [← hD7, e0, e1, e2, e3, e4, e10, e11, vll, vrl, vm1, hside']
            refine CN.use (ih (b1 - m1) (by omega) A7 D7 m1 b1 _ rfl (by omega) (by omega) (by rw [hm1]; exact rp5) s7 z7) ?_
            rintro _ A8 hw8 hn8 ⟨L8, g1, g2, s8⟩
            rw [hm1] at g1 g2
            have hobt := rp7 L8 g1 g2
            obtain ⟨g3, g4⟩ := hobt
            simp [e0, e1, e2, e3, e4, e10, e11]
            exact NX.of ⟨mid - a1, by omega, a1, mid, _, _, _, L8, rfl, by omega, by omega, by omega, by rw [g1.1]; exact z7, g3, fun R h1 h2 => by obtain ⟨h3, h4⟩ := g4 R h1 h2; exact R2 R h3 h4, s8, by simp [e0], by simp [e1], by simp, by simp [e3] <;> rfl, by simp [e4], by simp <;> rfl, by simp <;> rfl⟩
        · have hr' : ¬ r < 0 := fun h => by rw [hr2, hl] at h; cases h
          simp [e0, e1, e2, e3, e4, e10, e11, x2, hr']
          refine CN.use (pareqF_ok s6 z2 hc (a := a1) (b := b1) (pv := pv) hpv1 hpv2 (by omega)) ?_
          rintro _ A7 hw7 hn7 ⟨rfl, s7⟩
          have hexq : ∃ x, x = Sort.partitionEqual lt D2 a1 b1 pv := ⟨_, rfl⟩
          obtain ⟨⟨mid, D7⟩, hD7⟩ := hexq
          rw [← hD7] at s7
          simp only [] at s7
          rw [hw] at hl
          have hobt := Sort.round_eq hO (Sort.partitionEqual_holds lt) ha0 hpv1 hpv2 (by omega) bel2 hl hD7.symm
          obtain ⟨rp1, rp2, rp3, rp4, rp5⟩ := hobt
          simp [← hD7, e0, e1, e2, e3, e4, e10, e11]
          exact NX.of ⟨b1 - mid, by omega, mid, b1, _, _, _, D7, rfl, by omega, by omega, by omega, by rw [rp3]; exact z2, rp4, fun R h1 h2 => by obtain ⟨h3, h4⟩ := rp5 R h1 h2; exact R2 R h3 h4, s7, by simp [e0], by simp, by simp [e2], by simp [e3] <;> rfl, by simp [e4], by simp [e10] <;> rfl, by simp [e11] <;> rfl⟩
      · have ha0' : ¬ (0 : Int) < a1 := by omega
        simp [e0, e1, e2, e3, e4, e10, e11, x2, ha0, ha0']
        refine CN.use (partF_ok s3 z2 hc (a := a1) (b := b1) (pv := pv) hpv1 hpv2 (by omega)) ?_
        rintro _ A7 hw7 hn7 ⟨rfl, s7⟩
        have hexq : ∃ x, x = Sort.partition lt D2 a1 b1 pv := ⟨_, rfl⟩
        obtain ⟨⟨mid, ap, D7⟩, hD7⟩ := hexq
        rw [← hD7] at s7
        simp only [] at s7
        have hobt := Sort.round_part hO (Sort.partition_holds lt) hpv1 hpv2 (by omega) bel2 hD7.symm
        obtain ⟨rp1, rp2, rp3, rp4, rp5, rp6, rp7⟩ := hobt
        have z7 : D7.size = n := by rw [rp3]; exact z2
        have hexq : ∃ x : Nat, x = mid - a1 := ⟨_, rfl⟩
        obtain ⟨ll, hll⟩ := hexq
        have hexq : ∃ x : Nat, x = b1 - mid := ⟨_, rfl⟩
        obtain ⟨rl, hrl⟩ := hexq
        have hexq : ∃ x : Nat, x = mid + 1 := ⟨_, rfl⟩
        obtain ⟨m1, hm1⟩ := hexq
        have vll : IntKind.i64.wrap ((mid : Int) - a1) = (ll : Int) := by rw [i64_in (by omega) (by omega)]; omega
        have vrl : IntKind.i64.wrap ((b1 : Int) - mid) = (rl : Int) := by rw [i64_in (by omega) (by omega)]; omega
        have vm1 : IntKind.i64.wrap ((mid : Int) + 1) = (m1 : Int) := by rw [i64_in (by omega) (by omega)]; omega
        by_cases hside : ll < rl
        · have hside' : (ll : Int) < rl := by omega
          simp [← hD7, e0, e1, e2, e3, e4, e10, e11, vll, vrl, hside']
          refine CN.use (ih (mid - a1) (by omega) A7 D7 a1 mid _ rfl rp1 (by omega) rp4 s7 z7) ?_
          rintro _ A8 hw8 hn8 ⟨L8, g1, g2, s8⟩
          have hobt := rp6 L8 g1 g2
          obtain ⟨g3, g4⟩ := hobt
          simp [e0, e1, e2, e3, e4, e10, e11, vm1]
          exact NX.of ⟨b1 - m1, by omega, m1, b1, _, _, _, L8, rfl, by omega, by omega, by omega, by rw [g1.1]; exact z7, by rw [hm1]; exact g3, fun R h1 h2 => by rw [hm1] at h1 h2; obtain ⟨h3, h4⟩ := g4 R h1 h2; exact R2 R h3 h4, s8, by simp [e0], by simp, by simp [e2], by simp [e3] <;> rfl, by simp [e4], by simp <;> rfl, by simp <;> rfl⟩
        · have hside' : ¬ (ll : Int) < rl := by omega
          simp [← hD7, e0, e1, e2, e3, e4, e10, e11, vll, vrl, vm1, hside']
          refine CN.use (ih (b1 - m1) (by omega) A7 D7 m1 b1 _ rfl (by omega) (by omega) (by rw [hm1]; exact rp5) s7 z7) ?_
          rintro _ A8 hw8 hn8 ⟨L8, g1, g2, s8⟩
          rw [hm1] at g1 g2
          have hobt := rp7 L8 g1 g2
          obtain ⟨g3, g4⟩ := hobt
          simp [e0, e1, e2, e3, e4, e10, e11]
          exact NX.of ⟨mid - a1, by omega, a1, mid, _, _, _, L8, rfl, by omega, by omega, by omega, by rw [g1.1]; exact z7, g3, fun R h1 h2 => by obtain ⟨h3, h4⟩ := g4 R h1 h2; exact R2 R h3 h4, s8, by simp [e0], by simp [e1], by simp, by simp [e3] <;> rfl, by simp [e4], by simp <;> rfl, by simp <;> rfl⟩
  | true =>
    simp [e0, e1, e2, e3, e4, e10, e11, vL, h12, h12', hl0]
    refine CN.use (pivF_ok s1 z1 hc (a := a1) (b := b1) (by omega) (by omega)) ?_
    rintro _ A3 hw3 hn3 ⟨pv, x, hpv1, hpv2, rfl, s3⟩
    by_cases x2 : x = 2
    · simp [e0, e1, e2, e3, e4, e10, e11, x2]
      refine CN.use (revF_ok s3 z1 (a := a1) (b := b1) (by omega) (by omega) _) ?_
      rintro _ A4 hw4 hn4 ⟨D4, p4, s4⟩
      have z4 : D4.size = n := by rw [p4.1]; exact z1
      have bel4 := Sort.Below.permA Sort.permIn_all (by omega) bel1 p4
      have R4 := fun R h1 h2 => R1 R (Sort.permIn_trans _ _ _ _ _ p4 h1) h2
      have hexq : ∃ x : Nat, x = b1 - 1 := ⟨_, rfl⟩
      obtain ⟨bm, hbm⟩ := hexq
      have hexq : ∃ x : Nat, x = pv - a1 := ⟨_, rfl⟩
      obtain ⟨pa, hpa⟩ := hexq
      have hexq : ∃ x : Nat, x = bm - pa := ⟨_, rfl⟩
      obtain ⟨pr, hpr⟩ := hexq
      have y1 : IntKind.i64.wrap ((b1 : Int) - 1) = (bm : Int) := by rw [i64_in (by omega) (by omega)]; omega
      have y2 : IntKind.i64.wrap ((pv : Int) - a1) = (pa : Int) := by rw [i64_in (by omega) (by omega)]; omega
      have y3 : IntKind.i64.wrap ((bm : Int) - pa) = (pr : Int) := by rw [i64_in (by omega) (by omega)]; omega
      have hpr1 : a1 ≤ pr := by omega
      have hpr2 : pr < b1 := by omega
      cases wp with
      | false =>
        by_cases ha0 : 0 < a1
        · have ha0' : (0 : Int) < a1 := by omega
          have hexq : ∃ x : Nat, x = a1 - 1 := ⟨_, rfl⟩
          obtain ⟨w, hw⟩ := hexq
          have hww : IntKind.i64.wrap ((a1 : Int) - 1) = (w : Int) := by rw [i64_in (by omega) (by omega)]; omega
          have w1 : w < D4.size := by omega
          have w2 : w < n := by omega
          have q1 : pr < D4.size := by omega
          have q2 : pr < n := by omega
          have hobt := s4.at2 w1 q1
          obtain ⟨cs, k1, ⟨k2, k3⟩, ⟨k4, k5⟩, -, -⟩ := hobt
          simp [-getElem!_pos, e0, e1, e2, e3, e4, e10, e11, y1, y2, y3, ha0, ha0', hww, w2, q2, k1, k2, k3, k4, k5]
          refine CN.use (hc _ s4.ko s4.nx _ _ (s4.q _ w1) (s4.q _ q1)) ?_
          rintro _ A6 hw6 hn6 ⟨r, rfl, hr, x6⟩
          have s6 := s4.ext hw4 x6 hn6
          have hbool := Bool.eq_false_or_eq_true (lt D4[w]! D4[pr]!)
          have hr2 : r < 0 ↔ lt D4[w]! D4[pr]! = true := by rw [← hr]; simp
          rcases hbool with hl | hl
          · have hr' : r < 0 := hr2.2 hl
            simp [e0, e1, e2, e3, e4, e10, e11, y1, y2, y3, hr']
            refine CN.use (partF_ok s6 z4 hc (a := a1) (b := b1) (pv := pr) hpr1 hpr2 (by omega)) ?_
            rintro _ A7 hw7 hn7 ⟨rfl, s7⟩
            have hexq : ∃ x, x = Sort.partition lt D4 a1 b1 pr := ⟨_, rfl⟩
            obtain ⟨⟨mid, ap, D7⟩, hD7⟩ := hexq
            rw [← hD7] at s7
            simp only [] at s7
            have hobt := Sort.round_part hO (Sort.partition_holds lt) hpr1 hpr2 (by omega) bel4 hD7.symm
            obtain ⟨rp1, rp2, rp3, rp4, rp5, rp6, rp7⟩ := hobt
            have z7 : D7.size = n := by rw [rp3]; exact z4
            have hexq : ∃ x : Nat, x = mid - a1 := ⟨_, rfl⟩
            obtain ⟨ll, hll⟩ := hexq
            have hexq : ∃ x : Nat, x = b1 - mid := ⟨_, rfl⟩
            obtain ⟨rl, hrl⟩ := hexq
            have hexq : ∃ x : Nat, x = mid + 1 := ⟨_, rfl⟩
            obtain ⟨m1, hm1⟩ := hexq
            have vll : IntKind.i64.wrap ((mid : Int) - a1) = (ll : Int) := by rw [i64_in (by omega) (by omega)]; omega
            have vrl : IntKind.i64.wrap ((b1 : Int) - mid) = (rl : Int) := by rw [i64_in (by omega) (by omega)]; omega
            have vm1 : IntKind.i64.wrap ((mid : Int) + 1) = (m1 : Int) := by rw [i64_in (by omega) (by omega)]; omega
            by_cases hside : ll < rl
            · have hside' : (ll : Int) < rl := by omega
              simp [← hD7, e0, e1, e2, e3, e4, e10, e11, vll, vrl, hside']
              refine CN.use (ih (mid - a1) (by omega) A7 D7 a1 mid _ rfl rp1 (by omega) rp4 s7 z7) ?_
              rintro _ A8 hw8 hn8 ⟨L8, g1, g2, s8⟩
              have hobt := rp6 L8 g1 g2
              obtain ⟨g3, g4⟩ := hobt
              simp [e0, e1, e2, e3, e4, e10, e11, vm1]
              exact NX.of ⟨b1 - m1, by omega, m1, b1, _, _, _, L8, rfl, by omega, by omega, by omega, by rw [g1.1]; exact z7, by rw [hm1]; exact g3, fun R h1 h2 => by rw [hm1] at h1 h2; obtain ⟨h3, h4⟩ := g4 R h1 h2; exact R4 R h3 h4, s8, by simp [e0], by simp, by simp [e2], by simp [e3] <;> rfl, by simp [e4], by simp <;> rfl, by simp <;> rfl⟩
            · have hside' : ¬ (ll : Int) < rl := by omega
              simp [← hD7, e0, e1, e2, e3, e4, e10, e11, vll, vrl, vm1, hside']
              refine CN.use (ih (b1 - m1) (by omega) A7 D7 m1 b1 _ rfl (by omega) (by omega) (by rw [hm1]; exact rp5) s7 z7) ?_
              rintro _ A8 hw8 hn8 ⟨L8, g1, g2, s8⟩
              rw [hm1] at g1 g2
              have hobt := rp7 L8 g1 g2
              obtain ⟨g3, g4⟩ := hobt
              simp [e0, e1, e2, e3, e4, e10, e11]
              exact NX.of ⟨mid - a1, by omega, a1, mid, _, _, _, L8, rfl, by omega, by omega, by omega, by rw [g1.1]; exact z7, g3, fun R h1 h2 => by obtain ⟨h3, h4⟩ := g4 R h1 h2; exact R4 R h3 h4, s8, by simp [e0], by simp [e1], by simp, by simp [e3] <;> rfl, by simp [e4], by simp <;> rfl, by simp <;> rfl⟩
          · have hr' : ¬ r < 0 := fun h => by rw [hr2, hl] at h; cases h
            simp [e0, e1, e2, e3, e4, e10, e11, y1, y2, y3, hr']
            refine CN.use (pareqF_ok s6 z4 hc (a := a1) (b := b1) (pv := pr) hpr1 hpr2 (by omega)) ?_
            rintro _ A7 hw7 hn7 ⟨rfl, s7⟩
            have hexq : ∃ x, x = Sort.partitionEqual lt D4 a1 b1 pr := ⟨_, rfl⟩
            obtain ⟨⟨mid, D7⟩, hD7⟩ := hexq
            rw [← hD7] at s7
            simp only [] at s7
            rw [hw] at hl
            have hobt := Sort.round_eq hO (Sort.partitionEqual_holds lt) ha0 hpr1 hpr2 (by omega) bel4 hl hD7.symm
            obtain ⟨rp1, rp2, rp3, rp4, rp5⟩ := hobt
            simp [← hD7, e0, e1, e2, e3, e4, e10, e11]
            exact NX.of ⟨b1 - mid, by omega, mid, b1, _, _, _, D7, rfl, by omega, by omega, by omega, by rw [rp3]; exact z4, rp4, fun R h1 h2 => by obtain ⟨h3, h4⟩ := rp5 R h1 h2; exact R4 R h3 h4, s7, by simp [e0], by simp, by simp [e2], by simp [e3] <;> rfl, by simp [e4], by simp [e10] <;> rfl, by simp [e11] <;> rfl⟩
        · have ha0' : ¬ (0 : Int) < a1 := by omega
          simp [e0, e1, e2, e3, e4, e10, e11, y1, y2, y3, ha0, ha0']
          refine CN.use (partF_ok s4 z4 hc (a := a1) (b := b1) (pv := pr) hpr1 hpr2 (by omega)) ?_
          rintro _ A7 hw7 hn7 ⟨rfl, s7⟩
          have hexq : ∃ x, x = Sort.partition lt D4 a1 b1 pr := ⟨_, rfl⟩
          obtain ⟨⟨mid, ap, D7⟩, hD7⟩ := hexq
          rw [← hD7] at s7
          simp only [] at s7
          have hobt := Sort.round_part hO (Sort.partition_holds lt) hpr1 hpr2 (by omega) bel4 hD7.symm
          obtain ⟨rp1, rp2, rp3, rp4, rp5, rp6, rp7⟩ := hobt
          have z7 : D7.size = n := by rw [rp3]; exact z4
          have hexq : ∃ x : Nat, x = mid - a1 := ⟨_, rfl⟩
          obtain ⟨ll, hll⟩ := hexq
          have hexq : ∃ x : Nat, x = b1 - mid := ⟨_, rfl⟩
          obtain ⟨rl, hrl⟩ := hexq
          have hexq : ∃ x : Nat, x = mid + 1 := ⟨_, rfl⟩
          obtain ⟨m1, hm1⟩ := hexq
          have vll : IntKind.i64.wrap ((mid : Int) - a1) = (ll : Int) := by rw [i64_in (by omega) (by omega)]; omega
          have vrl : IntKind.i64.wrap ((b1 : Int) - mid) = (rl : Int) := by rw [i64_in (by omega) (by omega)]; omega
          have vm1 : IntKind.i64.wrap ((mid : Int) + 1) = (m1 : Int) := by rw [i64_in (by omega) (by omega)]; omega
          by_cases hside : ll < rl
          · have hside' : (ll : Int) < rl := by omega
            simp [← hD7, e0, e1, e2, e3, e4, e10, e11, vll, vrl, hside']
            refine CN.use (ih (mid - a1) (by omega) A7 D7 a1 mid _ rfl rp1 (by omega) rp4 s7 z7) ?_
            rintro _ A8 hw8 hn8 ⟨L8, g1, g2, s8⟩
            have hobt := rp6 L8 g1 g2
            obtain ⟨g3, g4⟩ := hobt
            simp [e0, e1, e2, e3, e4, e10, e11, vm1]
            exact NX.of ⟨b1 - m1, by omega, m1, b1, _, _, _, L8, rfl, by omega, by omega, by omega, by rw [g1.1]; exact z7, by rw [hm1]; exact g3, fun R h1 h2 => by rw [hm1] at h1 h2; obtain ⟨h3, h4⟩ := g4 R h1 h2; exact R4 R h3 h4, s8, by simp [e0], by simp, by simp [e2], by simp [e3] <;> rfl, by simp [e4], by simp <;> rfl, by simp <;> rfl⟩
          · have hside' : ¬ (ll : Int) < rl := by omega
            simp [← hD7, e0, e1, e2, e3, e4, e10, e11, vll, vrl, vm1, hside']
            refine CN.use (ih (b1 - m1) (by omega) A7 D7 m1 b1 _ rfl (by omega) (by omega) (by rw [hm1]; exact rp5) s7 z7) ?_
            rintro _ A8 hw8 hn8 ⟨L8, g1, g2, s8⟩
            rw [hm1] at g1 g2
            have hobt := rp7 L8 g1 g2
            obtain ⟨g3, g4⟩ := hobt
            simp [e0, e1, e2, e3, e4, e10, e11]
            exact NX.of ⟨mid - a1, by omega, a1, mid, _, _, _, L8, rfl, by omega, by omega, by omega, by rw [g1.1]; exact z7, g3, fun R h1 h2 => by obtain ⟨h3, h4⟩ := g4 R h1 h2; exact R4 R h3 h4, s8, by simp [e0], by simp [e1], by simp, by simp [e3] <;> rfl, by simp [e4], by simp <;> rfl, by simp <;> rfl⟩
      | true =>
        simp [e0, e1, e2, e3, e4, e10, e11, y1, y2, y3]
        refine CN.use (pinsF_ok s4 z4 hc (a := a1) (b := b1) (by omega) (by omega)) ?_
        rintro _ A5 hw5 hn5 ⟨rfl, s5⟩
        have hpi := Sort.partialInsertionSort_holds hO _ a1 b1 (by omega) (by rw [z4]; omega) bel4
        have hexD : ∃ x, x = Sort.partialInsertionSort lt D4 a1 b1 := ⟨_, rfl⟩
        obtain ⟨⟨D5, ok5⟩, hD5⟩ := hexD
        rw [← hD5] at s5 hpi
        simp only [] at s5 hpi
        obtain ⟨p5, p6⟩ := hpi
        have z5 : D5.size = n := by rw [p5.1]; exact z4
        cases ok5 with
        | true =>
          simp [← hD5]
          have hobt := R4 _ p5 (p6 rfl)
          obtain ⟨g1, g2⟩ := hobt
          exact DN.of ⟨_, g1, g2, s5⟩
        | false =>
          have bel5 := Sort.Below.permA Sort.permIn_all (by rw [z4]; omega) bel4 p5
          have R5 := fun R h1 h2 => R4 R (Sort.permIn_trans _ _ _ _ _ p5 h1) h2
          have x9 : True := trivial
          by_cases ha0 : 0 < a1
          · have ha0' : (0 : Int) < a1 := by omega
            have hexq : ∃ x : Nat, x = a1 - 1 := ⟨_, rfl⟩
            obtain ⟨w, hw⟩ := hexq
            have hww : IntKind.i64.wrap ((a1 : Int) - 1) = (w : Int) := by rw [i64_in (by omega) (by omega)]; omega
            have w1 : w < D5.size := by omega
            have w2 : w < n := by omega
            have q1 : pr < D5.size := by omega
            have q2 : pr < n := by omega
            have hobt := s5.at2 w1 q1
            obtain ⟨cs, k1, ⟨k2, k3⟩, ⟨k4, k5⟩, -, -⟩ := hobt
            simp [-getElem!_pos, e0, e1, e2, e3, e4, e10, e11, ← hD5, ha0, ha0', hww, w2, q2, k1, k2, k3, k4, k5]
            refine CN.use (hc _ s5.ko s5.nx _ _ (s5.q _ w1) (s5.q _ q1)) ?_
            rintro _ A6 hw6 hn6 ⟨r, rfl, hr, x6⟩
            have s6 := s5.ext hw5 x6 hn6
            have hbool := Bool.eq_false_or_eq_true (lt D5[w]! D5[pr]!)
            have hr2 : r < 0 ↔ lt D5[w]! D5[pr]! = true := by rw [← hr]; simp
            rcases hbool with hl | hl
            · have hr' : r < 0 := hr2.2 hl
              simp [e0, e1, e2, e3, e4, e10, e11, ← hD5, hr']
              refine CN.use (partF_ok s6 z5 hc (a := a1) (b := b1) (pv := pr) hpr1 hpr2 (by omega)) ?_
              rintro _ A7 hw7 hn7 ⟨rfl, s7⟩
              have hexq : ∃ x, x = Sort.partition lt D5 a1 b1 pr := ⟨_, rfl⟩
              obtain ⟨⟨mid, ap, D7⟩, hD7⟩ := hexq
              rw [← hD7] at s7
              simp only [] at s7
              have hobt := Sort.round_part hO (Sort.partition_holds lt) hpr1 hpr2 (by omega) bel5 hD7.symm
              obtain ⟨rp1, rp2, rp3, rp4, rp5, rp6, rp7⟩ := hobt
              have z7 : D7.size = n := by rw [rp3]; exact z5
              have hexq : ∃ x : Nat, x = mid - a1 := ⟨_, rfl⟩
              obtain ⟨ll, hll⟩ := hexq
              have hexq : ∃ x : Nat, x = b1 - mid := ⟨_, rfl⟩
              obtain ⟨rl, hrl⟩ := hexq
              have hexq : ∃ x : Nat, x = mid + 1 := ⟨_, rfl⟩
              obtain ⟨m1, hm1⟩ := hexq
              have vll : IntKind.i64.wrap ((mid : Int) - a1) = (ll : Int) := by rw [i64_in (by omega) (by omega)]; omega
              have vrl : IntKind.i64.wrap ((b1 : Int) - mid) = (rl : Int) := by rw [i64_in (by omega) (by omega)]; omega
              have vm1 : IntKind.i64.wrap ((mid : Int) + 1) = (m1 : Int) := by rw [i64_in (by omega) (by omega)]; omega
              by_cases hside : ll < rl
              · have hside' : (ll : Int) < rl := by omega
                simp [← hD7, e0, e1, e2, e3, e4, e10, e11, vll, vrl, hside']
                refine CN.use (ih (mid - a1) (by omega) A7 D7 a1 mid _ rfl rp1 (by omega) rp4 s7 z7) ?_
                rintro _ A8 hw8 hn8 ⟨L8, g1, g2, s8⟩
                have hobt := rp6 L8 g1 g2
                obtain ⟨g3, g4⟩ := hobt
                simp [e0, e1, e2, e3, e4, e10, e11, vm1]
                exact NX.of ⟨b1 - m1, by omega, m1, b1, _, _, _, L8, rfl, by omega, by omega, by omega, by rw [g1.1]; exact z7, by rw [hm1]; exact g3, fun R h1 h2 => by rw [hm1] at h1 h2; obtain ⟨h3, h4⟩ := g4 R h1 h2; exact R5 R h3 h4, s8, by simp [e0], by simp, by simp [e2], by simp [e3] <;> rfl, by simp [e4], by simp <;> rfl, by simp <;> rfl⟩
              · have hside' : ¬ (ll : Int) < rl := by omega
                simp [← hD7, e0, e1, e2, e3, e4, e10, e11, vll, vrl, vm1, hside']
                refine CN.use (ih (b1 - m1) (by omega) A7 D7 m1 b1 _ rfl (by omega) (by omega) (by rw [hm1]; exact rp5) s7 z7) ?_
                rintro _ A8 hw8 hn8 ⟨L8, g1, g2, s8⟩
                rw [hm1] at g1 g2
                have hobt := rp7 L8 g1 g2
                obtain ⟨g3, g4⟩ := hobt
                simp [e0, e1, e2, e3, e4, e10, e11]
                exact NX.of ⟨mid - a1, by omega, a1, mid, _, _, _, L8, rfl, by omega, by omega, by omega, by rw [g1.1]; exact z7, g3, fun R h1 h2 => by obtain ⟨h3, h4⟩ := g4 R h1 h2; exact R5 R h3 h4, s8, by simp [e0], by simp [e1], by simp, by simp [e3] <;> rfl, by simp [e4], by simp <;> rfl, by simp <;> rfl⟩
            · have hr' : ¬ r < 0 := fun h => by rw [hr2, hl] at h; cases h
              simp [e0, e1, e2, e3, e4, e10, e11, ← hD5, hr']
              refine CN.use (pareqF_ok s6 z5 hc (a := a1) (b := b1) (pv := pr) hpr1 hpr2 (by omega)) ?_
              rintro _ A7 hw7 hn7 ⟨rfl, s7⟩
              have hexq : ∃ x, x = Sort.partitionEqual lt D5 a1 b1 pr := ⟨_, rfl⟩
              obtain ⟨⟨mid, D7⟩, hD7⟩ := hexq
              rw [← hD7] at s7
              simp only [] at s7
              rw [hw] at hl
              have hobt := Sort.round_eq hO (Sort.partitionEqual_holds lt) ha0 hpr1 hpr2 (by omega) bel5 hl hD7.symm
              obtain ⟨rp1, rp2, rp3, rp4, rp5⟩ := hobt
              simp [← hD7, e0, e1, e2, e3, e4, e10, e11]
              exact NX.of ⟨b1 - mid, by omega, mid, b1, _, _, _, D7, rfl, by omega, by omega, by omega, by rw [rp3]; exact z5, rp4, fun R h1 h2 => by obtain ⟨h3, h4⟩ := rp5 R h1 h2; exact R5 R h3 h4, s7, by simp [e0], by simp, by simp [e2], by simp [e3] <;> rfl, by simp [e4], by simp [e10] <;> rfl, by simp [e11] <;> rfl⟩
          · have ha0' : ¬ (0 : Int) < a1 := by omega
            simp [e0, e1, e2, e3, e4, e10, e11, ← hD5, ha0, ha0']
            refine CN.use (partF_ok s5 z5 hc (a := a1) (b := b1) (pv := pr) hpr1 hpr2 (by omega)) ?_
            rintro _ A7 hw7 hn7 ⟨rfl, s7⟩
            have hexq : ∃ x, x = Sort.partition lt D5 a1 b1 pr := ⟨_, rfl⟩
            obtain ⟨⟨mid, ap, D7⟩, hD7⟩ := hexq
            rw [← hD7] at s7
            simp only [] at s7
            have hobt := Sort.round_part hO (Sort.partition_holds lt) hpr1 hpr2 (by omega) bel5 hD7.symm
            obtain ⟨rp1, rp2, rp3, rp4, rp5, rp6, rp7⟩ := hobt
            have z7 : D7.size = n := by rw [rp3]; exact z5
            have hexq : ∃ x : Nat, x = mid - a1 := ⟨_, rfl⟩
            obtain ⟨ll, hll⟩ := hexq
            have hexq : ∃ x : Nat, x = b1 - mid := ⟨_, rfl⟩
            obtain ⟨rl, hrl⟩ := hexq
            have hexq : ∃ x : Nat, x = mid + 1 := ⟨_, rfl⟩
            obtain ⟨m1, hm1⟩ := hexq
            have vll : IntKind.i64.wrap ((mid : Int) - a1) = (ll : Int) := by rw [i64_in (by omega) (by omega)]; omega
            have vrl : IntKind.i64.wrap ((b1 : Int) - mid) = (rl : Int) := by rw [i64_in (by omega) (by omega)]; omega
            have vm1 : IntKind.i64.wrap ((mid : Int) + 1) = (m1 : Int) := by rw [i64_in (by omega) (by omega)]; omega
            by_cases hside : ll < rl
            · have hside' : (ll : Int) < rl := by omega
              simp [← hD7, e0, e1, e2, e3, e4, e10, e11, vll, vrl, hside']
              refine CN.use (ih (mid - a1) (by omega) A7 D7 a1 mid _ rfl rp1 (by omega) rp4 s7 z7) ?_
              rintro _ A8 hw8 hn8 ⟨L8, g1, g2, s8⟩
              have hobt := rp6 L8 g1 g2
              obtain ⟨g3, g4⟩ := hobt
              simp [e0, e1, e2, e3, e4, e10, e11, vm1]
              exact NX.of ⟨b1 - m1, by omega, m1, b1, _, _, _, L8, rfl, by omega, by omega, by omega, by rw [g1.1]; exact z7, by rw [hm1]; exact g3, fun R h1 h2 => by rw [hm1] at h1 h2; obtain ⟨h3, h4⟩ := g4 R h1 h2; exact R5 R h3 h4, s8, by simp [e0], by simp, by simp [e2], by simp [e3] <;> rfl, by simp [e4], by simp <;> rfl, by simp <;> rfl⟩
            · have hside' : ¬ (ll : Int) < rl := by omega
              simp [← hD7, e0, e1, e2, e3, e4, e10, e11, vll, vrl, vm1, hside']
              refine CN.use (ih (b1 - m1) (by omega) A7 D7 m1 b1 _ rfl (by omega) (by omega) (by rw [hm1]; exact rp5) s7 z7) ?_
              rintro _ A8 hw8 hn8 ⟨L8, g1, g2, s8⟩
              rw [hm1] at g1 g2
              have hobt := rp7 L8 g1 g2
              obtain ⟨g3, g4⟩ := hobt
              simp [e0, e1, e2, e3, e4, e10, e11]
              exact NX.of ⟨mid - a1, by omega, a1, mid, _, _, _, L8, rfl, by omega, by omega, by omega, by rw [g1.1]; exact z7, g3, fun R h1 h2 => by obtain ⟨h3, h4⟩ := g4 R h1 h2; exact R5 R h3 h4, s8, by simp [e0], by simp [e1], by simp, by simp [e3] <;> rfl, by simp [e4], by simp <;> rfl, by simp <;> rfl⟩
    · cases wp with
      | false =>
        by_cases ha0 : 0 < a1
        · have ha0' : (0 : Int) < a1 := by omega
          have hexq : ∃ x : Nat, x = a1 - 1 := ⟨_, rfl⟩
          obtain ⟨w, hw⟩ := hexq
          have hww : IntKind.i64.wrap ((a1 : Int) - 1) = (w : Int) := by rw [i64_in (by omega) (by omega)]; omega
          have w1 : w < d1.size := by omega
          have w2 : w < n := by omega
          have q1 : pv < d1.size := by omega
          have q2 : pv < n := by omega
          have hobt := s3.at2 w1 q1
          obtain ⟨cs, k1, ⟨k2, k3⟩, ⟨k4, k5⟩, -, -⟩ := hobt
          simp [-getElem!_pos, e0, e1, e2, e3, e4, e10, e11, x2, ha0, ha0', hww, w2, q2, k1, k2, k3, k4, k5]
          refine CN.use (hc _ s3.ko s3.nx _ _ (s3.q _ w1) (s3.q _ q1)) ?_
          rintro _ A6 hw6 hn6 ⟨r, rfl, hr, x6⟩
          have s6 := s3.ext hw3 x6 hn6
          have hbool := Bool.eq_false_or_eq_true (lt d1[w]! d1[pv]!)
          have hr2 : r < 0 ↔ lt d1[w]! d1[pv]! = true := by rw [← hr]; simp
          rcases hbool with hl | hl
          · have hr' : r < 0 := hr2.2 hl
            simp [e0, e1, e2, e3, e4, e10, e11, x2, hr']
            refine CN.use (partF_ok s6 z1 hc (a := a1) (b := b1) (pv := pv) hpv1 hpv2 (by omega)) ?_
            rintro _ A7 hw7 hn7 ⟨rfl, s7⟩
            have hexq : ∃ x, x = Sort.partition lt d1 a1 b1 pv := ⟨_, rfl⟩
            obtain ⟨⟨mid, ap, D7⟩, hD7⟩ := hexq
            rw [← hD7] at s7
            simp only [] at s7
            have hobt := Sort.round_part hO (Sort.partition_holds lt) hpv1 hpv2 (by omega) bel1 hD7.symm
            obtain ⟨rp1, rp2, rp3, rp4, rp5, rp6, rp7⟩ := hobt
            have z7 : D7.size = n := by rw [rp3]; exact z1
            have hexq : ∃ x : Nat, x = mid - a1 := ⟨_, rfl⟩
            obtain ⟨ll, hll⟩ := hexq
            have hexq : ∃ x : Nat, x = b1 - mid := ⟨_, rfl⟩
            obtain ⟨rl, hrl⟩ := hexq
            have hexq : ∃ x : Nat, x = mid + 1 := ⟨_, rfl⟩
            obtain ⟨m1, hm1⟩ := hexq
            have vll : IntKind.i64.wrap ((mid : Int) - a1) = (ll : Int) := by rw [i64_in (by omega) (by omega)]; omega
            have vrl : IntKind.i64.wrap ((b1 : Int) - mid) = (rl : Int) := by rw [i64_in (by omega) (by omega)]; omega
            have vm1 : IntKind.i64.wrap ((mid : Int) + 1) = (m1 : Int) := by rw [i64_in (by omega) (by omega)]; omega
            by_cases hside : ll < rl
            · have hside' : (ll : Int) < rl := by omega
              simp [← hD7, e0, e1, e2, e3, e4, e10, e11, vll, vrl, hside']
              refine CN.use (ih (mid - a1) (by omega) A7 D7 a1 mid _ rfl rp1 (by omega) rp4 s7 z7) ?_
              rintro _ A8 hw8 hn8 ⟨L8, g1, g2, s8⟩
              have hobt := rp6 L8 g1 g2
              obtain ⟨g3, g4⟩ := hobt
              simp [e0, e1, e2, e3, e4, e10, e11, vm1]
              exact NX.of ⟨b1 - m1, by omega, m1, b1, _, _, _, L8, rfl, by omega, by omega, by omega, by rw [g1.1]; exact z7, by rw [hm1]; exact g3, fun R h1 h2 => by rw [hm1] at h1 h2; obtain ⟨h3, h4⟩ := g4 R h1 h2; exact R1 R h3 h4, s8, by simp [e0], by simp, by simp [e2], by simp [e3] <;> rfl, by simp [e4], by simp <;> rfl, by simp <;> rfl⟩
            · have hside' : ¬ (ll : Int) < rl := by omega
              simp [← hD7, e0, e1, e2, e3, e4, e10, e11, vll, vrl, vm1, hside']
              refine CN.use (ih (b1 - m1) (by omega) A7 D7 m1 b1 _ rfl (by omega) (by omega) (by rw [hm1]; exact rp5) s7 z7) ?_
              rintro _ A8 hw8 hn8 ⟨L8, g1, g2, s8⟩
              rw [hm1] at g1 g2
              have hobt := rp7 L8 g1 g2
              obtain ⟨g3, g4⟩ := hobt
              simp [e0, e1, e2, e3, e4, e10, e11]
              exact NX.of ⟨mid - a1, by omega, a1, mid, _, _, _, L8, rfl, by omega, by omega, by omega, by rw [g1.1]; exact z7, g3, fun R h1 h2 => by obtain ⟨h3, h4⟩ := g4 R h1 h2; exact R1 R h3 h4, s8, by simp [e0], by simp [e1], by simp, by simp [e3] <;> rfl, by simp [e4], by simp <;> rfl, by simp <;> rfl⟩
          · have hr' : ¬ r < 0 := fun h => by rw [hr2, hl] at h; cases h
            simp [e0, e1, e2, e3, e4, e10, e11, x2, hr']
            refine CN.use (pareqF_ok s6 z1 hc (a := a1) (b := b1) (pv := pv) hpv1 hpv2 (by omega)) ?_
            rintro _ A7 hw7 hn7 ⟨rfl, s7⟩
            have hexq : ∃ x, x = Sort.partitionEqual lt d1 a1 b1 pv := ⟨_, rfl⟩
            obtain ⟨⟨mid, D7⟩, hD7⟩ := hexq
            rw [← hD7] at s7
            simp only [] at s7
            rw [hw] at hl
            have hobt := Sort.round_eq hO (Sort.partitionEqual_holds lt) ha0 hpv1 hpv2 (by omega) bel1 hl hD7.symm
            obtain ⟨rp1, rp2, rp3, rp4, rp5⟩ := hobt
            simp [← hD7, e0, e1, e2, e3, e4, e10, e11]
            exact NX.of ⟨b1 - mid, by omega, mid, b1, _, _, _, D7, rfl, by omega, by omega, by omega, by rw [rp3]; exact z1, rp4, fun R h1 h2 => by obtain ⟨h3, h4⟩ := rp5 R h1 h2; exact R1 R h3 h4, s7, by simp [e0], by simp, by simp [e2], by simp [e3] <;> rfl, by simp [e4], by simp [e10] <;> rfl, by simp [e11] <;> rfl⟩
        · have ha0' : ¬ (0 : Int) < a1 := by omega
          simp [e0, e1, e2, e3, e4, e10, e11, x2, ha0, ha0']
          refine CN.use (partF_ok s3 z1 hc (a := a1) (b := b1) (pv := pv) hpv1 hpv2 (by omega)) ?_
          rintro _ A7 hw7 hn7 ⟨rfl, s7⟩
          have hexq : ∃ x, x = Sort.partition lt d1 a1 b1 pv := ⟨_, rfl⟩
          obtain ⟨⟨mid, ap, D7⟩, hD7⟩ := hexq
          rw [← hD7] at s7
          simp only [] at s7
          have hobt := Sort.round_part hO (Sort.partition_holds lt) hpv1 hpv2 (by omega) bel1 hD7.symm
          obtain ⟨rp1, rp2, rp3, rp4, rp5, rp6, rp7⟩ := hobt
          have z7 : D7.size = n := by rw [rp3]; exact z1
          have hexq : ∃ x : Nat, x = mid - a1 := ⟨_, rfl⟩
          obtain ⟨ll, hll⟩ := hexq
          have hexq : ∃ x : Nat, x = b1 - mid := ⟨_, rfl⟩
          obtain ⟨rl, hrl⟩ := hexq
          have hexq : ∃ x : Nat, x = mid + 1 := ⟨_, rfl⟩
          obtain ⟨m1, hm1⟩ := hexq
          have vll : IntKind.i64.wrap ((mid : Int) - a1) = (ll : Int) := by rw [i64_in (by omega) (by omega)]; omega
          have vrl : IntKind.i64.wrap ((b1 : Int) - mid) = (rl : Int) := by rw [i64_in (by omega) (by omega)]; omega
          have vm1 : IntKind.i64.wrap ((mid : Int) + 1) = (m1 : Int) := by rw [i64_in (by omega) (by omega)]; omega
          by_cases hside : ll < rl
          · have hside' : (ll : Int) < rl := by omega
            simp [← hD7, e0, e1, e2, e3, e4, e10, e11, vll, vrl, hside']
            refine CN.use (ih (mid - a1) (by omega) A7 D7 a1 mid _ rfl rp1 (by omega) rp4 s7 z7) ?_
            rintro _ A8 hw8 hn8 ⟨L8, g1, g2, s8⟩
            have hobt := rp6 L8 g1 g2
            obtain ⟨g3, g4⟩ := hobt
            simp [e0, e1, e2, e3, e4, e10, e11, vm1]
            exact NX.of ⟨b1 - m1, by omega, m1, b1, _, _, _, L8, rfl, by omega, by omega, by omega, by rw [g1.1]; exact z7, by rw [hm1]; exact g3, fun R h1 h2 => by rw [hm1] at h1 h2; obtain ⟨h3, h4⟩ := g4 R h1 h2; exact R1 R h3 h4, s8, by simp [e0], by simp, by simp [e2], by simp [e3] <;> rfl, by simp [e4], by simp <;> rfl, by simp <;> rfl⟩
          · have hside' : ¬ (ll : Int) < rl := by omega
            simp [← hD7, e0, e1, e2, e3, e4, e10, e11, vll, vrl, vm1, hside']
            refine CN.use (ih (b1 - m1) (by omega) A7 D7 m1 b1 _ rfl (by omega) (by omega) (by rw [hm1]; exact rp5) s7 z7) ?_
            rintro _ A8 hw8 hn8 ⟨L8, g1, g2, s8⟩
            rw [hm1] at g1 g2
            have hobt := rp7 L8 g1 g2
            obtain ⟨g3, g4⟩ := hobt
            simp [e0, e1, e2, e3, e4, e10, e11]
            exact NX.of ⟨mid - a1, by omega, a1, mid, _, _, _, L8, rfl, by omega, by omega, by omega, by rw [g1.1]; exact z7, g3, fun R h1 h2 => by obtain ⟨h3, h4⟩ := g4 R h1 h2; exact R1 R h3 h4, s8, by simp [e0], by simp [e1], by simp, by simp [e3] <;> rfl, by simp [e4], by simp <;> rfl, by simp <;> rfl⟩
      | true =>
        by_cases x1 : x = 1
        · simp [e0, e1, e2, e3, e4, e10, e11, x2, x1]
          refine CN.use (pinsF_ok s3 z1 hc (a := a1) (b := b1) (by omega) (by omega)) ?_
          rintro _ A5 hw5 hn5 ⟨rfl, s5⟩
          have hpi := Sort.partialInsertionSort_holds hO _ a1 b1 (by omega) (by rw [z1]; omega) bel1
          have hexD : ∃ x, x = Sort.partialInsertionSort lt d1 a1 b1 := ⟨_, rfl⟩
          obtain ⟨⟨D5, ok5⟩, hD5⟩ := hexD
          rw [← hD5] at s5 hpi
          simp only [] at s5 hpi
          obtain ⟨p5, p6⟩ := hpi
          have z5 : D5.size = n := by rw [p5.1]; exact z1
          cases ok5 with
          | true =>
            simp [← hD5]
            have hobt := R1 _ p5 (p6 rfl)
            obtain ⟨g1, g2⟩ := hobt
            exact DN.of ⟨_, g1, g2, s5⟩
          | false =>
            have bel5 := Sort.Below.permA Sort.permIn_all (by rw [z1]; omega) bel1 p5
            have R5 := fun R h1 h2 => R1 R (Sort.permIn_trans _ _ _ _ _ p5 h1) h2
            have x9 : True := trivial
            by_cases ha0 : 0 < a1
            · have ha0' : (0 : Int) < a1 := by omega
              have hexq : ∃ x : Nat, x = a1 - 1 := ⟨_, rfl⟩
              obtain ⟨w, hw⟩ := hexq
              have hww : IntKind.i64.wrap ((a1 : Int) - 1) = (w : Int) := by rw [i64_in (by omega) (by omega)]; omega
              have w1 : w < D5.size := by omega
              have w2 : w < n := by omega
              have q1 : pv < D5.size := by omega
              have q2 : pv < n := by omega
              have hobt := s5.at2 w1 q1
              obtain ⟨cs, k1, ⟨k2, k3⟩, ⟨k4, k5⟩, -, -⟩ := hobt
              simp [-getElem!_pos, e0, e1, e2, e3, e4, e10, e11, ← hD5, ha0, ha0', hww, w2, q2, k1, k2, k3, k4, k5]
              refine CN.use (hc _ s5.ko s5.nx _ _ (s5.q _ w1) (s5.q _ q1)) ?_
              rintro _ A6 hw6 hn6 ⟨r, rfl, hr, x6⟩
              have s6 := s5.ext hw5 x6 hn6
              have hbool := Bool.eq_false_or_eq_true (lt D5[w]! D5[pv]!)
              have hr2 : r < 0 ↔ lt D5[w]! D5[pv]! = true := by rw [← hr]; simp
              rcases hbool with hl | hl
              · have hr' : r < 0 := hr2.2 hl
                simp [e0, e1, e2, e3, e4, e10, e11, ← hD5, hr']
                refine CN.use (partF_ok s6 z5 hc (a := a1) (b := b1) (pv := pv) hpv1 hpv2 (by omega)) ?_
                rintro _ A7 hw7 hn7 ⟨rfl, s7⟩
                have hexq : ∃ x, x = Sort.partition lt D5 a1 b1 pv := ⟨_, rfl⟩
                obtain ⟨⟨mid, ap, D7⟩, hD7⟩ := hexq
                rw [← hD7] at s7
                simp only [] at s7
                have hobt := Sort.round_part hO (Sort.partition_holds lt) hpv1 hpv2 (by omega) bel5 hD7.symm
                obtain ⟨rp1, rp2, rp3, rp4, rp5, rp6, rp7⟩ := hobt
                have z7 : D7.size = n := by rw [rp3]; exact z5
                have hexq : ∃ x : Nat, x = mid - a1 := ⟨_, rfl⟩
                obtain ⟨ll, hll⟩ := hexq
                have hexq : ∃ x : Nat, x = b1 - mid := ⟨_, rfl⟩
                obtain ⟨rl, hrl⟩ := hexq
                have hexq : ∃ x : Nat, x = mid + 1 := ⟨_, rfl⟩
                obtain ⟨m1, hm1⟩ := hexq
                have vll : IntKind.i64.wrap ((mid : Int) - a1) = (ll : Int) := by rw [i64_in (by omega) (by omega)]; omega
                have vrl : IntKind.i64.wrap ((b1 : Int) - mid) = (rl : Int) := by rw [i64_in (by omega) (by omega)]; omega
                have vm1 : IntKind.i64.wrap ((mid : Int) + 1) = (m1 : Int) := by rw [i64_in (by omega) (by omega)]; omega
                by_cases hside : ll < rl
                · have hside' : (ll : Int) < rl := by omega
                  simp [← hD7, e0, e1, e2, e3, e4, e10, e11, vll, vrl, hside']
                  refine CN.use (ih (mid - a1) (by omega) A7 D7 a1 mid _ rfl rp1 (by omega) rp4 s7 z7) ?_
                  rintro _ A8 hw8 hn8 ⟨L8, g1, g2, s8⟩
                  have hobt := rp6 L8 g1 g2
                  obtain ⟨g3, g4⟩ := hobt
                  simp [e0, e1, e2, e3, e4, e10, e11, vm1]
                  exact NX.of ⟨b1 - m1, by omega, m1, b1, _, _, _, L8, rfl, by omega, by omega, by omega, by rw [g1.1]; exact z7, by rw [hm1]; exact g3, fun R h1 h2 => by rw [hm1] at h1 h2; obtain ⟨h3, h4⟩ := g4 R h1 h2; exact R5 R h3 h4, s8, by simp [e0], by simp, by simp [e2], by simp [e3] <;> rfl, by simp [e4], by simp <;> rfl, by simp <;> rfl⟩
                · have hside' : ¬ (ll : Int) < rl := by omega
                  simp [← hD7, e0, e1, e2, e3, e4, e10, e11, vll, vrl, vm1, hside']
                  refine CN.use (ih (b1 - m1) (by omega) A7 D7 m1 b1 _ rfl (by omega) (by omega) (by rw [hm1]; exact rp5) s7 z7) ?_
                  rintro _ A8 hw8 hn8 ⟨L8, g1, g2, s8⟩
                  rw [hm1] at g1 g2
                  have hobt := rp7 L8 g1 g2
                  obtain ⟨g3, g4⟩ := hobt
                  simp [e0, e1, e2, e3, e4, e10, e11]
                  exact NX.of ⟨mid - a1, by omega, a1, mid, _, _, _, L8, rfl, by omega, by omega, by omega, by rw [g1.1]; exact z7, g3, fun R h1 h2 => by obtain ⟨h3, h4⟩ := g4 R h1 h2; exact R5 R h3 h4, s8, by simp [e0], by simp [e1], by simp, by simp [e3] <;> rfl, by simp [e4], by simp <;> rfl, by simp <;> rfl⟩
              · have hr' : ¬ r < 0 := fun h => by rw [hr2, hl] at h; cases h
                simp [e0, e1, e2, e3, e4, e10, e11, ← hD5, hr']
                refine CN.use (pareqF_ok s6 z5 hc (a := a1) (b := b1) (pv := pv) hpv1 hpv2 (by omega)) ?_
                rintro _ A7 hw7 hn7 ⟨rfl, s7⟩
                have hexq : ∃ x, x = Sort.partitionEqual lt D5 a1 b1 pv := ⟨_, rfl⟩
                obtain ⟨⟨mid, D7⟩, hD7⟩ := hexq
                rw [← hD7] at s7
                simp only [] at s7
                rw [hw] at hl
                have hobt := Sort.round_eq hO (Sort.partitionEqual_holds lt) ha0 hpv1 hpv2 (by omega) bel5 hl hD7.symm
                obtain ⟨rp1, rp2, rp3, rp4, rp5⟩ := hobt
                simp [← hD7, e0, e1, e2, e3, e4, e10, e11]
                exact NX.of ⟨b1 - mid, by omega, mid, b1, _, _, _, D7, rfl, by omega, by omega, by omega, by rw [rp3]; exact z5, rp4, fun R h1 h2 => by obtain ⟨h3, h4⟩ := rp5 R h1 h2; exact R5 R h3 h4, s7, by simp [e0], by simp, by simp [e2], by simp [e3] <;> rfl, by simp [e4], by simp [e10] <;> rfl, by simp [e11] <;> rfl⟩
            · have ha0' : ¬ (0 : Int) < a1 := by omega
              simp [e0, e1, e2, e3, e4, e10, e11, ← hD5, ha0, ha0']
              refine CN.use (partF_ok s5 z5 hc (a := a1) (b := b1) (pv := pv) hpv1 hpv2 (by omega)) ?_
              rintro _ A7 hw7 hn7 ⟨rfl, s7⟩
              have hexq : ∃ x, x = Sort.partition lt D5 a1 b1 pv := ⟨_, rfl⟩
              obtain ⟨⟨mid, ap, D7⟩, hD7⟩ := hexq
              rw [← hD7] at s7
              simp only [] at s7
              have hobt := Sort.round_part hO (Sort.partition_holds lt) hpv1 hpv2 (by omega) bel5 hD7.symm
              obtain ⟨rp1, rp2, rp3, rp4, rp5, rp6, rp7⟩ := hobt
              have z7 : D7.size = n := by rw [rp3]; exact z5
              have hexq : ∃ x : Nat, x = mid - a1 := ⟨_, rfl⟩
              obtain ⟨ll, hll⟩ := hexq
              have hexq : ∃ x : Nat, x = b1 - mid := ⟨_, rfl⟩
              obtain ⟨rl, hrl⟩ := hexq
              have hexq : ∃ x : Nat, x = mid + 1 := ⟨_, rfl⟩
              obtain ⟨m1, hm1⟩ := hexq
              have vll : IntKind.i64.wrap ((mid : Int) - a1) = (ll : Int) := by rw [i64_in (by omega) (by omega)]; omega
              have vrl : IntKind.i64.wrap ((b1 : Int) - mid) = (rl : Int) := by rw [i64_in (by omega) (by omega)]; omega
              have vm1 : IntKind.i64.wrap ((mid : Int) + 1) = (m1 : Int) := by rw [i64_in (by omega) (by omega)]; omega
              by_cases hside : ll < rl
              · have hside' : (ll : Int) < rl := by omega
                simp [← hD7, e0, e1, e2, e3, e4, e10, e11, vll, vrl, hside']
                refine CN.use (ih (mid - a1) (by omega) A7 D7 a1 mid _ rfl rp1 (by omega) rp4 s7 z7) ?_
                rintro _ A8 hw8 hn8 ⟨L8, g1, g2, s8⟩
                have hobt := rp6 L8 g1 g2
                obtain ⟨g3, g4⟩ := hobt
                simp [e0, e1, e2, e3, e4, e10, e11, vm1]
                exact NX.of ⟨b1 - m1, by omega, m1, b1, _, _, _, L8, rfl, by omega, by omega, by omega, by rw [g1.1]; exact z7, by rw [hm1]; exact g3, fun R h1 h2 => by rw [hm1] at h1 h2; obtain ⟨h3, h4⟩ := g4 R h1 h2; exact R5 R h3 h4, s8, by simp [e0], by simp, by simp [e2], by simp [e3] <;> rfl, by simp [e4], by simp <;> rfl, by simp <;> rfl⟩
              · have hside' : ¬ (ll : Int) < rl := by omega
                simp [← hD7, e0, e1, e2, e3, e4, e10, e11, vll, vrl, vm1, hside']
                refine CN.use (ih (b1 - m1) (by omega) A7 D7 m1 b1 _ rfl (by omega) (by omega) (by rw [hm1]; exact rp5) s7 z7) ?_
                rintro _ A8 hw8 hn8 ⟨L8, g1, g2, s8⟩
                rw [hm1] at g1 g2
                have hobt := rp7 L8 g1 g2
                obtain ⟨g3, g4⟩ := hobt
                simp [e0, e1, e2, e3, e4, e10, e11]
                exact NX.of ⟨mid - a1, by omega, a1, mid, _, _, _, L8, rfl, by omega, by omega, by omega, by rw [g1.1]; exact z7, g3, fun R h1 h2 => by obtain ⟨h3, h4⟩ := g4 R h1 h2; exact R5 R h3 h4, s8, by simp [e0], by simp [e1], by simp, by simp [e3] <;> rfl, by simp [e4], by simp <;> rfl, by simp <;> rfl⟩
        · have x3 : x ≠ 1 := x1
          by_cases ha0 : 0 < a1
          · have ha0' : (0 : Int) < a1 := by omega
            have hexq : ∃ x : Nat, x = a1 - 1 := ⟨_, rfl⟩
            obtain ⟨w, hw⟩ := hexq
            have hww : IntKind.i64.wrap ((a1 : Int) - 1) = (w : Int) := by rw [i64_in (by omega) (by omega)]; omega
            have w1 : w < d1.size := by omega
            have w2 : w < n := by omega
            have q1 : pv < d1.size := by omega
            have q2 : pv < n := by omega
            have hobt := s3.at2 w1 q1
            obtain ⟨cs, k1, ⟨k2, k3⟩, ⟨k4, k5⟩, -, -⟩ := hobt
            simp [-getElem!_pos, e0, e1, e2, e3, e4, e10, e11, x2, x1, ha0, ha0', hww, w2, q2, k1, k2, k3, k4, k5]
            refine CN.use (hc _ s3.ko s3.nx _ _ (s3.q _ w1) (s3.q _ q1)) ?_
            rintro _ A6 hw6 hn6 ⟨r, rfl, hr, x6⟩
            have s6 := s3.ext hw3 x6 hn6
            have hbool := Bool.eq_false_or_eq_true (lt d1[w]! d1[pv]!)
            have hr2 : r < 0 ↔ lt d1[w]! d1[pv]! = true := by rw [← hr]; simp
            rcases hbool with hl | hl
            · have hr' : r < 0 := hr2.2 hl
              simp [e0, e1, e2, e3, e4, e10, e11, x2, x1, hr']
              refine CN.use (partF_ok s6 z1 hc (a := a1) (b := b1) (pv := pv) hpv1 hpv2 (by omega)) ?_
              rintro _ A7 hw7 hn7 ⟨rfl, s7⟩
              have hexq : ∃ x, x = Sort.partition lt d1 a1 b1 pv := ⟨_, rfl⟩
              obtain ⟨⟨mid, ap, D7⟩, hD7⟩ := hexq
              rw [← hD7] at s7
              simp only [] at s7
              have hobt := Sort.round_part hO (Sort.partition_holds lt) hpv1 hpv2 (by omega) bel1 hD7.symm
              obtain ⟨rp1, rp2, rp3, rp4, rp5, rp6, rp7⟩ := hobt
              have z7 : D7.size = n := by rw [rp3]; exact z1
              have hexq : ∃ x : Nat, x = mid - a1 := ⟨_, rfl⟩
              obtain ⟨ll, hll⟩ := hexq
              have hexq : ∃ x : Nat, x = b1 - mid := ⟨_, rfl⟩
              obtain ⟨rl, hrl⟩ := hexq
              have hexq : ∃ x : Nat, x = mid + 1 := ⟨_, rfl⟩
              obtain ⟨m1, hm1⟩ := hexq
              have vll : IntKind.i64.wrap ((mid : Int) - a1) = (ll : Int) := by rw [i64_in (by omega) (by omega)]; omega
              have vrl : IntKind.i64.wrap ((b1 : Int) - mid) = (rl : Int) := by rw [i64_in (by omega) (by omega)]; omega
              have vm1 : IntKind.i64.wrap ((mid : Int) + 1) = (m1 : Int) := by rw [i64_in (by omega) (by omega)]; omega
              by_cases hside : ll < rl
              · have hside' : (ll : Int) < rl := by omega
                simp [← hD7, e0, e1, e2, e3, e4, e10, e11, vll, vrl, hside']
                refine CN.use (ih (mid - a1) (by omega) A7 D7 a1 mid _ rfl rp1 (by omega) rp4 s7 z7) ?_
                rintro _ A8 hw8 hn8 ⟨L8, g1, g2, s8⟩
                have hobt := rp6 L8 g1 g2
                obtain ⟨g3, g4⟩ := hobt
                simp [e0, e1, e2, e3, e4, e10, e11, vm1]
                exact NX.of ⟨b1 - m1, by omega, m1, b1, _, _, _, L8, rfl, by omega, by omega, by omega, by rw [g1.1]; exact z7, by rw [hm1]; exact g3, fun R h1 h2 => by rw [hm1] at h1 h2; obtain ⟨h3, h4⟩ := g4 R h1 h2; exact R1 R h3 h4, s8, by simp [e0], by simp, by simp [e2], by simp [e3] <;> rfl, by simp [e4], by simp <;> rfl, by simp <;> rfl⟩
              · have hside' : ¬ (ll : Int) < rl := by omega
                simp [← hD7, e0, e1, e2, e3, e4, e10, e11, vll, vrl, vm1, hside']
                refine CN.use (ih (b1 - m1) (by omega) A7 D7 m1 b1 _ rfl (by omega) (by omega) (by rw [hm1]; exact rp5) s7 z7) ?_
                rintro _ A8 hw8 hn8 ⟨L8, g1, g2, s8⟩
                rw [hm1] at g1 g2
                have hobt := rp7 L8 g1 g2
                obtain ⟨g3, g4⟩ := hobt
                simp [e0, e1, e2, e3, e4, e10, e11]
                exact NX.of ⟨mid - a1, by omega, a1, mid, _, _, _, L8, rfl, by omega, by omega, by omega, by rw [g1.1]; exact z7, g3, fun R h1 h2 => by obtain ⟨h3, h4⟩ := g4 R h1 h2; exact R1 R h3 h4, s8, by simp [e0], by simp [e1], by simp, by simp [e3] <;> rfl, by simp [e4], by simp <;> rfl, by simp <;> rfl⟩
            · have hr' : ¬ r < 0 := fun h => by rw [hr2, hl] at h; cases h
              simp [e0, e1, e2, e3, e4, e10, e11, x2, x1, hr']
              refine CN.use (pareqF_ok s6 z1 hc (a := a1) (b := b1) (pv := pv) hpv1 hpv2 (by omega)) ?_
              rintro _ A7 hw7 hn7 ⟨rfl, s7⟩
              have hexq : ∃ x, x = Sort.partitionEqual lt d1 a1 b1 pv := ⟨_, rfl⟩
              obtain ⟨⟨mid, D7⟩, hD7⟩ := hexq
              rw [← hD7] at s7
              simp only [] at s7
              rw [hw] at hl
              have hobt := Sort.round_eq hO (Sort.partitionEqual_holds lt) ha0 hpv1 hpv2 (by omega) bel1 hl hD7.symm
              obtain ⟨rp1, rp2, rp3, rp4, rp5⟩ := hobt
              simp [← hD7, e0, e1, e2, e3, e4, e10, e11]
              exact NX.of ⟨b1 - mid, by omega, mid, b1, _, _, _, D7, rfl, by omega, by omega, by omega, by rw [rp3]; exact z1, rp4, fun R h1 h2 => by obtain ⟨h3, h4⟩ := rp5 R h1 h2; exact R1 R h3 h4, s7, by simp [e0], by simp, by simp [e2], by simp [e3] <;> rfl, by simp [e4], by simp [e10] <;> rfl, by simp [e11] <;> rfl⟩
          · have ha0' : ¬ (0 : Int) < a1 := by omega
            simp [e0, e1, e2, e3, e4, e10, e11, x2, x1, ha0, ha0']
            refine CN.use (partF_ok s3 z1 hc (a := a1) (b := b1) (pv := pv) hpv1 hpv2 (by omega)) ?_
            rintro _ A7 hw7 hn7 ⟨rfl, s7⟩
            have hexq : ∃ x, x = Sort.partition lt d1 a1 b1 pv := ⟨_, rfl⟩
            obtain ⟨⟨mid, ap, D7⟩, hD7⟩ := hexq
            rw [← hD7] at s7
            simp only [] at s7
            have hobt := Sort.round_part hO (Sort.partition_holds lt) hpv1 hpv2 (by omega) bel1 hD7.symm
            obtain ⟨rp1, rp2, rp3, rp4, rp5, rp6, rp7⟩ := hobt
            have z7 : D7.size = n := by rw [rp3]; exact z1
            have hexq : ∃ x : Nat, x = mid - a1 := ⟨_, rfl⟩
            obtain ⟨ll, hll⟩ := hexq
            have hexq : ∃ x : Nat, x = b1 - mid := ⟨_, rfl⟩
            obtain ⟨rl, hrl⟩ := hexq
            have hexq : ∃ x : Nat, x = mid + 1 := ⟨_, rfl⟩
            obtain ⟨m1, hm1⟩ := hexq
            have vll : IntKind.i64.wrap ((mid : Int) - a1) = (ll : Int) := by rw [i64_in (by omega) (by omega)]; omega
            have vrl : IntKind.i64.wrap ((b1 : Int) - mid) = (rl : Int) := by rw [i64_in (by omega) (by omega)]; omega
            have vm1 : IntKind.i64.wrap ((mid : Int) + 1) = (m1 : Int) := by rw [i64_in (by omega) (by omega)]; omega
            by_cases hside : ll < rl
            · have hside' : (ll : Int) < rl := by omega
              simp [← hD7, e0, e1, e2, e3, e4, e10, e11, vll, vrl, hside']
              refine CN.use (ih (mid - a1) (by omega) A7 D7 a1 mid _ rfl rp1 (by omega) rp4 s7 z7) ?_
              rintro _ A8 hw8 hn8 ⟨L8, g1, g2, s8⟩
              have hobt := rp6 L8 g1 g2
              obtain ⟨g3, g4⟩ := hobt
              simp [e0, e1, e2, e3, e4, e10, e11, vm1]
              exact NX.of ⟨b1 - m1, by omega, m1, b1, _, _, _, L8, rfl, by omega, by omega, by omega, by rw [g1.1]; exact z7, by rw [hm1]; exact g3, fun R h1 h2 => by rw [hm1] at h1 h2; obtain ⟨h3, h4⟩ := g4 R h1 h2; exact R1 R h3 h4, s8, by simp [e0], by simp, by simp [e2], by simp [e3] <;> rfl, by simp [e4], by simp <;> rfl, by simp <;> rfl⟩
            · have hside' : ¬ (ll : Int) < rl := by omega
              simp [← hD7, e0, e1, e2, e3, e4, e10, e11, vll, vrl, vm1, hside']
              refine CN.use (ih (b1 - m1) (by omega) A7 D7 m1 b1 _ rfl (by omega) (by omega) (by rw [hm1]; exact rp5) s7 z7) ?_
              rintro _ A8 hw8 hn8 ⟨L8, g1, g2, s8⟩
              rw [hm1] at g1 g2
              have hobt := rp7 L8 g1 g2
              obtain ⟨g3, g4⟩ := hobt
              simp [e0, e1, e2, e3, e4, e10, e11]
              exact NX.of ⟨mid - a1, by omega, a1, mid, _, _, _, L8, rfl, by omega, by omega, by omega, by rw [g1.1]; exact z7, g3, fun R h1 h2 => by obtain ⟨h3, h4⟩ := g4 R h1 h2; exact R1 R h3 h4, s8, by simp [e0], by simp [e1], by simp, by simp [e3] <;> rfl, by simp [e4], by simp <;> rfl, by simp <;> rfl⟩
end
end Go.Proofs.Ytieehccjajhpfaa.AC
/- Sorting pointers: slices.SortFunc. -/
namespace Go.Proofs.Ytieehccjajhpfaa.AC
open Go Go.AI Go.Proofs Go.Proofs.Ytieehccjajhpfaa.AQ
set_option linter.unusedVariables false
section
variable {Q : Nat → Prop} {A0 A A' : AH} {ob : Option Nat} {v : Value} {d : Array Nat} {lt : Nat → Nat → Bool} {f : FuncId}
theorem pdqzF_ok (hc : CmpF A0 ob Q lt f) (h : SSF Q A0 A ob v d) (hz : d.size = 0) (lim : Int) :
    ACall Try.prog 62 [v, .int .i64 0, .int .i64 0, .int .i64 lim, .func (.func f) #[] #[]] A fun _ A' => SSF Q A0 A' ob v (Sort.insertionSort lt d 0 0) := by
  have hw : IntKind.i64.wrap 0 = 0 := by decide
  have hins := inssF_ok h hc (a := 0) (b := 0) (by omega) (by omega)
  refine code62.call (by simp) fun hwf => ?_
  unfold c62
  simp
  refine LN.use (fun m E A' => A' = A ∧ E.get 0 = v ∧ E.get 1 = .int .i64 0 ∧ E.get 2 = .int .i64 0 ∧ E.get 4 = .func (.func f) #[] #[]) 0
    ⟨rfl, by simp, by simp, by simp, by simp⟩ ?_
  rintro m E A1 hw1 hn1 ⟨rfl, e0, e1, e2, e4⟩
  simp [e0, e1, e2, e4, hw]
  refine CN.use hins ?_
  rintro _ A2 hw2 hn2 s2
  simp
  exact DN.of s2
theorem sortF_ok (hO : Sort.SWO lt) (hc : CmpF A0 ob Q lt f) (h : SSF Q A0 A ob v d) (hn : d.size < 256) :
    ACall Try.prog 43 [v, .func (.func f) #[] #[]] A fun _ A' => ∃ d', Sort.PermIn 0 d.size d d' ∧ Sort.SortedIn lt 0 d.size d' ∧ SSF Q A0 A' ob v d' := by
  have hobt := h.lq.sl
  obtain ⟨a, c, hv, -⟩ := hobt
  rw [List.length_map, Array.length_toList] at hv
  have hwn : IntKind.u64.wrap ((d.size : Nat) : Int) = ((d.size : Nat) : Int) := by rw [wrap64]; omega
  by_cases h0 : d.size = 0
  · have hpz := fun lim => pdqzF_ok hc h h0 lim
    have hobt := Sort.insertionSort_holds hO d 0 0 (Nat.le_refl _) (by omega)
    obtain ⟨p1, p2⟩ := hobt
    subst hv
    refine code43.call (by simp) fun hwf => ?_
    unfold c43
    simp [hwn]
    refine CN.use (len_ok d.size hn A) ?_
    rintro _ A2 - - ⟨⟨l, rfl, -⟩, rfl⟩
    simp
    rw [h0] at hpz ⊢
    refine CN.use (hpz l) ?_
    rintro _ A3 hw3 hn3 s3
    simp
    exact DN.of ⟨_, p1, p2, s3⟩
  · obtain ⟨bb, c', rfl, hv'⟩ := h.form (by omega)
    subst hv'
    have hb0 : Sort.Below lt 0 d.size d := Or.inl rfl
    refine code43.call (by simp) fun hwf => ?_
    unfold c43
    simp [hwn]
    refine CN.use (len_ok d.size hn A) ?_
    rintro _ A2 - - ⟨⟨l, rfl, -⟩, rfl⟩
    simp
    refine CN.use (pdqF_ok hO hn hc d.size _ d 0 d.size l (by omega) (by omega) (Nat.le_refl _) hb0 h rfl) ?_
    rintro _ A3 hw3 hn3 ⟨d', p1, p2, s3⟩
    simp
    exact DN.of ⟨d', p1, p2, s3⟩
end
end Go.Proofs.Ytieehccjajhpfaa.AC
/- Entries: keys and wants. -/
namespace Go.Proofs.Ytieehccjajhpfaa.AC
open Go Go.AI Go.Proofs Go.Proofs.Ytieehccjajhpfaa.AQ
set_option linter.unusedVariables false
structure Wt where
  bw : Nat
  setup : Int
  hold : Int
  any : Nat
  all : Nat
  no : Nat
  deriving DecidableEq
def Wt.enc (w : Wt) : List Value := [.int .u64 w.bw, .int .i64 w.setup, .int .i64 w.hold, .int .u32 w.any, .int .u32 w.all, .int .u32 w.no]
theorem Wt.cells (w : Wt) : w.enc[0]? = some (.int .u64 w.bw) ∧ w.enc[1]? = some (.int .i64 w.setup) ∧ w.enc[2]? = some (.int .i64 w.hold) ∧ w.enc[3]? = some (.int .u32 w.any) ∧ w.enc[4]? = some (.int .u32 w.all) ∧ w.enc[5]? = some (.int .u32 w.no) := ⟨rfl, rfl, rfl, rfl, rfl, rfl⟩
def rightB (w : Wt) : Bool := decide (0 ≤ w.hold ∧ w.hold ≤ w.setup ∧ w.setup ≤ 7)
structure En where
  k : Key
  w : Wt
  deriving DecidableEq
def En.enc (x : En) : List Value := x.k.enc ++ x.w.enc
def Key.kin (a b : Key) : Bool := decide (a.head = b.head ∧ a.tunnel = b.tunnel ∧ a.tail = b.tail)
theorem kin_ok (x y : Key) (A : AH) : ACall Try.prog 14 [keyV x, keyV y] A fun v A' => v = .bool (x.kin y) ∧ Ext A A' := by
  refine code14.call (by simp) fun hwf => ?_
  unfold c14
  simp [keyV, Key.enc]
  refine DN.of ⟨?_, (((Ext.alloc A _).app (by simp) _).setnew (by omega) _).setnew (by omega) _⟩
  congr 1
  unfold Key.kin
  rw [Bool.eq_iff_iff]
  simp
  constructor
  · rintro ⟨a, b, c⟩; exact ⟨c, b, a⟩
  · rintro ⟨a, b, c⟩; exact ⟨c, b, a⟩
theorem rkin_ok (x y : Key) (A : AH) : ACall Try.prog 15 [keyV x, keyV y] A fun v A' => v = .bool (x.kin y) ∧ Ext A A' := by
  have x2 : Ext A ((A.alloc (.row x.enc 23 false)).alloc (.row y.enc 23 false)) := (Ext.alloc A _).app (by simp) _
  by_cases h1 : x.head = y.head
  · by_cases h2 : x.tunnel = y.tunnel
    · refine code15.call (by simp) fun hwf => ?_
      unfold c15
      simp [keyV, h1, h2]
      exact DN.of ⟨by simp [Key.kin, h1, h2], (Ext.alloc A _).app (by simp) _⟩
    · refine code15.call (by simp) fun hwf => ?_
      unfold c15
      simp [keyV, h1, h2]
      exact DN.of ⟨by simp [Key.kin, h1, h2], (Ext.alloc A _).app (by simp) _⟩
  · refine code15.call (by simp) fun hwf => ?_
    unfold c15
    simp [keyV, h1]
    exact DN.of ⟨by simp [Key.kin, h1], (Ext.alloc A _).app (by simp) _⟩
theorem rbefore_ok (x y : Key) (A : AH) : ACall Try.prog 13 [keyV x, keyV y] A fun v A' => v = .bool (x.bef y) ∧ Ext A A' := by
  by_cases h1 : x.head = y.head
  rotate_left
  · refine code13.call (by simp) fun hwf => ?_
    unfold c13
    simp [keyV, h1]
    exact DN.of ⟨by simp [Key.bef, h1], (Ext.alloc A _).app (by simp) _⟩
  by_cases h2 : x.tunnel = y.tunnel
  rotate_left
  · refine code13.call (by simp) fun hwf => ?_
    unfold c13
    simp [keyV, h1, h2]
    exact DN.of ⟨by simp [Key.bef, h1, h2], (Ext.alloc A _).app (by simp) _⟩
  by_cases h3 : x.tail = y.tail
  rotate_left
  · refine code13.call (by simp) fun hwf => ?_
    unfold c13
    simp [keyV, h1, h2, h3]
    exact DN.of ⟨by simp [Key.bef, h1, h2, h3], (Ext.alloc A _).app (by simp) _⟩
  · refine code13.call (by simp) fun hwf => ?_
    unfold c13
    simp [keyV, h1, h2, h3]
    exact DN.of ⟨by simp [Key.bef, h1, h2, h3], (Ext.alloc A _).app (by simp) _⟩
theorem right_ok (w : Wt) (A : AH) : ACall Try.prog 39 [.agg w.enc.toArray] A fun v A' => v = .bool (rightB w) ∧ Ext A A' := by
  refine code39.call (by simp) fun hwf => ?_
  unfold c39
  have x1 := Ext.alloc A (.row w.enc 33 false)
  simp [Wt.enc, AH.get_alloc]
  by_cases h1 : w.setup ≤ 7
  · by_cases h2 : w.hold ≤ w.setup
    · simp [Wt.enc, h1, h2, AH.get_alloc]
      exact DN.of ⟨by simp [rightB, h1, h2], x1⟩
    · simp [Wt.enc, h1, h2, AH.get_alloc]
      exact DN.of ⟨by simp [rightB, h1, h2], x1⟩
  · simp [Wt.enc, h1, AH.get_alloc]
    exact DN.of ⟨by simp [rightB, h1], x1⟩
theorem rright_ok (w : Wt) (A : AH) : ACall Try.prog 31 [.agg w.enc.toArray] A fun v A' => v = .bool (rightB w) ∧ Ext A A' := by
  refine code31.call (by simp) fun hwf => ?_
  unfold c31
  have x1 := Ext.alloc A (.row w.enc 33 false)
  simp [Wt.enc, AH.get_alloc]
  by_cases h0 : 0 ≤ w.setup
  rotate_left
  · simp [Wt.enc, h0, AH.get_alloc]
    exact DN.of ⟨by simp [rightB]; omega, x1⟩
  by_cases h1 : w.setup ≤ 7
  rotate_left
  · simp [Wt.enc, h0, h1, AH.get_alloc]
    exact DN.of ⟨by simp [rightB, h1], x1⟩
  by_cases h2 : 0 ≤ w.hold
  · simp [Wt.enc, h0, h1, h2, AH.get_alloc]
    exact DN.of ⟨by simp [rightB, h1, h2], x1⟩
  · simp [Wt.enc, h0, h1, h2, AH.get_alloc]
    exact DN.of ⟨by simp [rightB, h1, h2], x1⟩
end Go.Proofs.Ytieehccjajhpfaa.AC
/- Keys, in order. -/
namespace Go.Proofs.Ytieehccjajhpfaa.AC
open Go Go.AI Go.Proofs Go.Proofs.Ytieehccjajhpfaa.AQ
set_option linter.unusedVariables false
theorem ord_lt (x y : Key) : decide (orI [cmpI x.head y.head, cmpI x.tunnel y.tunnel, cmpI x.tail y.tail, cmpI x.lsp y.lsp] < 0) = x.bef y := by
  simp only [orI_cons, Key.bef, cmpI, show orI [] = 0 from rfl]
  grind
theorem bef_iff (a b : Key) : a.bef b = true ↔ (a.head < b.head ∨ a.head = b.head ∧ (a.tunnel < b.tunnel ∨ a.tunnel = b.tunnel ∧ (a.tail < b.tail ∨ a.tail = b.tail ∧ a.lsp < b.lsp))) := by
  unfold Key.bef; simp
theorem bef_trans {a b c : Key} (h1 : a.bef b = true) (h2 : b.bef c = true) : a.bef c = true := by rw [bef_iff] at *; omega
theorem bef_irr (a : Key) : a.bef a = false := by rw [← Bool.not_eq_true, bef_iff]; omega
theorem bef_total {a b : Key} (h : a ≠ b) : a.bef b = true ∨ b.bef a = true := by
  rw [bef_iff, bef_iff]
  by_cases h1 : a.head = b.head ∧ a.tunnel = b.tunnel ∧ a.tail = b.tail ∧ a.lsp = b.lsp
  · exact absurd (by cases a; cases b; simp_all) h
  · omega
theorem bef_swo : Sort.SWO Key.bef := ⟨bef_irr, fun x y z => bef_trans, fun x y z h1 h2 => by rw [← Bool.not_eq_true, bef_iff] at *; omega⟩
theorem order_cmp (A0 : AH) (ob : Option Nat) : CmpK A0 ob (fun _ => True) Key.bef 34 := fun A1 _ _ x y _ _ => by
  refine (order_ok x y A1).mono fun v A' _ _ h => ?_
  obtain ⟨hx, rfl⟩ := h
  exact ⟨_, rfl, ord_lt x y, hx⟩
end Go.Proofs.Ytieehccjajhpfaa.AC
/- Ledgers. -/
namespace Go.Proofs.Ytieehccjajhpfaa.AC
open Go Go.AI Go.Proofs Go.Proofs.Ytieehccjajhpfaa.AQ
set_option linter.unusedVariables false
def addP (x y : Nat) : Nat × Bool := if x + y < 18446744073709551616 then (x + y, true) else (0, false)
theorem add64_ok (x y : Nat) (hx : x < 18446744073709551616) (hy : y < 18446744073709551616) (A : AH) : ACall Try.prog 100 [.int .u64 x, .int .u64 y, .int .u64 0] A fun v A' => v = .tuple #[.int .u64 ((x + y) % 18446744073709551616 : Nat), .int .u64 ((x + y) / 18446744073709551616 : Nat)] ∧ A' = A := by
  intro m w args' hR hl
  obtain ⟨a0, a1, a2, rfl⟩ : ∃ a0 a1 a2, args' = #[a0, a1, a2] := by
    have := hl.1
    simp at this
    obtain ⟨l, hl'⟩ : ∃ l, args' = ⟨l⟩ := ⟨args'.toList, rfl⟩
    subst hl'
    match l, this with
    | [a0, a1, a2], _ => exact ⟨a0, a1, a2, rfl⟩
  have h0 : VRel m _ a0 := hl.2 0 _ _ rfl rfl
  have h1 : VRel m _ a1 := hl.2 1 _ _ rfl rfl
  have h2 : VRel m _ a2 := hl.2 2 _ _ rfl rfl
  cases h0
  cases h1
  cases h2
  have hrun : (callFunc 100 #[.int .u64 (x : Int), .int .u64 (y : Int), .int .u64 0]).run Try.prog w = .ok (.value (.tuple #[.int .u64 ((x + y) % 18446744073709551616 : Nat), .int .u64 ((x + y) / 18446744073709551616 : Nat)])) w := by
    rw [run_callFunc_extern Try.func100 (by kernel_rfl) (by kernel_rfl) (by kernel_rfl) (e := add64Entry) (by kernel_rfl), run_add64 x y 0 (by omega) (by omega) (by omega) (by omega)]
    simp only [Result.andThen]
    congr 5 <;> omega
  refine Or.inr ⟨_, _, hrun, _, A, m, ⟨rfl, rfl⟩, hR, ?_, Step.refl _ _ _⟩
  exact VRel.tuple_iff.2 (LRel.cons (.int _ _) (LRel.cons (.int _ _) (LRel.nil m)))
theorem ladd_ok (x y : Nat) (hx : x < 18446744073709551616) (hy : y < 18446744073709551616) (A : AH) : ACall Try.prog 84 [.int .u64 x, .int .u64 y] A fun v A' => v = .tuple #[.int .u64 (addP x y).1, .bool (addP x y).2] ∧ A' = A := by
  refine code84.call (by simp) fun hwf => ?_
  unfold c84
  simp
  refine CN.use (add64_ok x y hx hy A) ?_
  rintro _ _ - - ⟨rfl, rfl⟩
  by_cases h : x + y < 18446744073709551616
  · have h1 : (x + y) / 18446744073709551616 = 0 := by omega
    have h2 : (x + y) % 18446744073709551616 = x + y := by omega
    rw [h1, h2]
    simp
    exact DN.of ⟨by simp [addP, h], rfl⟩
  · have h1 : (x + y) / 18446744073709551616 = 1 := by omega
    rw [h1]
    simp
    exact DN.of ⟨by simp [addP, h], rfl⟩
theorem wrap_u64 (n : Int) : IntKind.u64.wrap n = n % 18446744073709551616 := by simp [IntKind.wrap, IntKind.bits, IntKind.signed]
theorem radd_ok (x y : Nat) (hx : x < 18446744073709551616) (hy : y < 18446744073709551616) (A : AH) : ACall Try.prog 53 [.int .u64 x, .int .u64 y] A fun v A' => v = .tuple #[.int .u64 (addP x y).1, .bool (addP x y).2] ∧ A' = A := by
  have h1 : IntKind.u64.wrap (18446744073709551615 - (y : Int)) = ((18446744073709551615 - y : Nat) : Int) := by rw [wrap_u64]; omega
  by_cases h : x + y < 18446744073709551616
  · have h2 : IntKind.u64.wrap ((x : Int) + y) = ((x + y : Nat) : Int) := by rw [wrap_u64]; omega
    have h3 : ¬ ((18446744073709551615 - y : Nat) : Int) < x := by omega
    refine code53.call (by simp) fun hwf => ?_
    unfold c53
    generalize ((18446744073709551615 - y : Nat) : Int) = z at h1 h3
    simp [h1, h2, h3]
    exact DN.of ⟨by simp [addP, h], rfl⟩
  · have h3 : ((18446744073709551615 - y : Nat) : Int) < x := by omega
    refine code53.call (by simp) fun hwf => ?_
    unfold c53
    generalize ((18446744073709551615 - y : Nat) : Int) = z at h1 h3
    simp [h1, h3]
    exact DN.of ⟨by simp [addP, h], rfl⟩
end Go.Proofs.Ytieehccjajhpfaa.AC
/- Ledgers: what is held. -/
namespace Go.Proofs.Ytieehccjajhpfaa.AC
open Go Go.AI Go.Proofs Go.Proofs.Ytieehccjajhpfaa.AQ
set_option linter.unusedVariables false
theorem aIndex_arr {P : Program} {T e : TypeId} {n i : Nat} {cs : List Value} {k : IntKind} {v : Value} (h1 : arrElem P T = some (n, e)) (h2 : szOf P e = some 1) (h3 : aggOf P e = some false) (hi : i < n) (hv : cs[i]? = some v) : aIndex P T (.agg cs.toArray) (.int k (i : Int)) = some v := by
  unfold aIndex
  simp only [h1, h2]
  rw [if_pos ⟨by omega, by omega⟩, Int.toNat_natCast, Nat.mul_one]
  unfold aPart
  simp [h3, hv]
structure Ld where
  cap : Nat
  held : List Nat
def Ld.enc (x : Ld) : List Value := .int .u64 x.cap :: x.held.map fun n : Nat => .int .u64 n
def Ld.wf (x : Ld) : Prop := x.held.length = 8 ∧ x.cap < 18446744073709551616 ∧ ∀ n ∈ x.held, n < 18446744073709551616
def sumB (l : List Nat) : Nat × Bool := if l.sum < 18446744073709551616 then (l.sum, true) else (0, false)
theorem lsum_ok (x : Ld) (hx : x.wf) (A : AH) : ACall Try.prog 101 [.agg x.enc.toArray] A fun v A' => v = .tuple #[.int .u64 (sumB x.held).1, .bool (sumB x.held).2] ∧ Ext A A' := by
  obtain ⟨h8, hc, hh⟩ := hx
  have hl : x.enc.length = 9 := by simp [Ld.enc, h8]
  have ho : ∀ v ∈ x.enc, oneB v = true := List.all_eq_true.1 (by simp [Ld.enc])
  have h9 : x.enc.tail.take 8 = x.held.map fun n : Nat => .int .u64 n := by simp [Ld.enc, List.take_of_length_le, h8]
  refine code101.call (by simp) fun hwf => ?_
  unfold c101
  simp [hl, h9]
  refine LN.use (fun m E A' => ∃ k : Nat, m + k = 8 ∧ A' = A.alloc (.row x.enc 48 false) ∧ (x.held.take k).sum < 18446744073709551616 ∧ E.get 4 = .int .u64 ((x.held.take k).sum : Nat) ∧ E.get 9 = .agg (x.held.map fun n : Nat => Value.int .u64 n).toArray ∧ E.get 10 = .int .i64 k) 8
    ⟨0, by omega, rfl, by simp, by simp, by simp, by simp⟩ ?_
  rintro m E _ hw1 hn1 ⟨k, hk, rfl, hs, E4, E9, E10⟩
  by_cases hlt : k < 8
  · have hlt' : (k : Int) < 8 := by omega
    have hkl : k < x.held.length := by omega
    have hI := aIndex_arr (P := Try.prog) (T := 46) (k := .i64) (cs := x.held.map fun n : Nat => Value.int .u64 n) (i := k) (by kernel_rfl) sz26 ag26 hlt (by rw [List.getElem?_map, List.getElem?_eq_getElem hkl]; rfl)
    simp [E4, E9, E10, hlt, hlt', hI]
    have hst : (x.held.take (k + 1)).sum = (x.held.take k).sum + x.held[k] := by
      rw [List.take_succ_eq_append_getElem hkl, List.sum_append]; simp
    have hle : (x.held.take (k + 1)).sum ≤ x.held.sum := by
      have := congrArg List.sum (List.take_append_drop (k + 1) x.held)
      rw [List.sum_append] at this
      omega
    have hgi : IntKind.i64.wrap ((k : Int) + 1) = ((k + 1 : Nat) : Int) := by rw [i64_in (by omega) (by omega)]; simp
    refine CN.use (ladd_ok _ _ hs (hh _ (List.getElem_mem hkl)) _) ?_
    rintro _ A2 - - ⟨rfl, rfl⟩
    by_cases ho : (x.held.take k).sum + x.held[k] < 18446744073709551616
    · have ha : addP (x.held.take k).sum x.held[k] = ((x.held.take (k + 1)).sum, true) := by unfold addP; rw [if_pos ho, hst]
      simp [E9, E10, ha, hgi]
      exact NX.of ⟨m - 1, by omega, k + 1, by omega, rfl, by omega, by simp, by simp [E9], by simp⟩
    · have ha : addP (x.held.take k).sum x.held[k] = (0, false) := by unfold addP; rw [if_neg ho]
      simp [E9, E10, ha]
      refine DN.of ⟨?_, Ext.alloc A _⟩
      unfold sumB
      rw [if_neg (by omega)]; rfl
  · have hlt' : ¬ (k : Int) < 8 := by omega
    rw [List.take_of_length_le (by omega)] at hs E4
    simp [E4, E10, hlt']
    refine DN.of ⟨?_, Ext.alloc A _⟩
    unfold sumB
    rw [if_pos hs]
end Go.Proofs.Ytieehccjajhpfaa.AC
/- Ledgers: right, moved. -/
namespace Go.Proofs.Ytieehccjajhpfaa.AC
open Go Go.AI Go.Proofs Go.Proofs.Ytieehccjajhpfaa.AQ
set_option linter.unusedVariables false
def rightL (x : Ld) : Bool := decide (x.held.sum ≤ x.cap)
theorem lright_ok (x : Ld) (hx : x.wf) (A : AH) : ACall Try.prog 85 [.agg x.enc.toArray] A fun v A' => v = .bool (rightL x) ∧ Ext A A' := by
  have hl : x.enc.length = 9 := by simp [Ld.enc, hx.1]
  have ho : ∀ v ∈ x.enc, oneB v = true := List.all_eq_true.1 (by simp [Ld.enc])
  have ht : x.enc.take 9 = x.enc := List.take_of_length_le (by omega)
  have h0 : x.enc[0]? = some (.int .u64 x.cap) := rfl
  have x0 := Ext.alloc A (.row x.enc 48 false)
  have r0 := AH.get_new A (.row x.enc 48 false)
  have hcap := hx.2.1
  refine ACall.wf fun hwf => ?_
  have hw0 := AH.wf_alloc hwf (.row x.enc 48 false)
  refine code85.call (by simp) fun hwf => ?_
  unfold c85
  simp [hl, ht]
  refine CN.use (lsum_ok x hx _) ?_
  rintro _ A2 hw2 hn2 ⟨rfl, x2⟩
  have r2 := x2.get hw0 r0
  by_cases hs : x.held.sum < 18446744073709551616
  · have hb : sumB x.held = (x.held.sum, true) := by unfold sumB; rw [if_pos hs]
    simp [hb, r2, h0]
    exact DN.of ⟨by simp [rightL], x0.trans (by simp) x2⟩
  · have hb : sumB x.held = (0, false) := by unfold sumB; rw [if_neg hs]
    simp [hb]
    exact DN.of ⟨by simp [rightL]; omega, x0.trans (by simp) x2⟩
def mayL (x : Ld) (p : Int) : Bool := decide (0 ≤ p ∧ p < 8) && rightL x
theorem lmay_ok (x : Ld) (hx : x.wf) (p : Int) (A : AH) : ACall Try.prog 83 [.agg x.enc.toArray, .int .i64 p] A fun v A' => v = .bool (mayL x p) ∧ Ext A A' := by
  have hl : x.enc.length = 9 := by simp [Ld.enc, hx.1]
  have ho : ∀ v ∈ x.enc, oneB v = true := List.all_eq_true.1 (by simp [Ld.enc])
  have ht : x.enc.take 9 = x.enc := List.take_of_length_le (by omega)
  have x0 := Ext.alloc A (.row x.enc 48 false)
  by_cases h1 : 0 ≤ p
  rotate_left
  · refine code83.call (by simp) fun hwf => ?_
    unfold c83
    simp [hl, ht, h1]
    exact DN.of ⟨by simp [mayL, h1], x0⟩
  by_cases h2 : p < 8
  rotate_left
  · refine code83.call (by simp) fun hwf => ?_
    unfold c83
    simp [hl, ht, h1, h2]
    exact DN.of ⟨by simp [mayL, h2], x0⟩
  refine code83.call (by simp) fun hwf => ?_
  unfold c83
  simp [hl, ht, h1, h2]
  refine CN.use (lright_ok x hx _) ?_
  rintro _ A2 hw2 hn2 ⟨rfl, x2⟩
  simp
  exact DN.of ⟨by simp [mayL, h1, h2], x0.trans (by simp) x2⟩
end Go.Proofs.Ytieehccjajhpfaa.AC
/- Ledgers: put. -/
namespace Go.Proofs.Ytieehccjajhpfaa.AC
open Go Go.AI Go.Proofs Go.Proofs.Ytieehccjajhpfaa.AQ
set_option linter.unusedVariables false
def zL : Ld := ⟨0, List.replicate 8 0⟩
def Ld.put (x : Ld) (p bw : Nat) : Ld := ⟨x.cap, x.held.set p (x.held.getD p 0 + bw)⟩
def putL (x : Ld) (p : Int) (bw : Nat) : Ld × Int :=
  if mayL x p = true then (if x.held.getD p.toNat 0 + bw < 18446744073709551616 ∧ rightL (x.put p.toNat bw) = true then (x.put p.toNat bw, 0) else (zL, 14)) else (zL, 2)
theorem Ld.put_wf {x : Ld} (hx : x.wf) {p bw : Nat} (h : x.held.getD p 0 + bw < 18446744073709551616) : (x.put p bw).wf := by
  refine ⟨by simp [Ld.put, hx.1], hx.2.1, fun n hn => ?_⟩
  rcases List.mem_or_eq_of_mem_set hn with h1 | h1
  · exact hx.2.2 n h1
  · omega
theorem lput_ok (x : Ld) (hx : x.wf) (p : Int) (bw : Nat) (hb : bw < 18446744073709551616) (A : AH) : ACall Try.prog 65 [.agg x.enc.toArray, .int .i64 p, .int .u64 bw] A fun v A' => v = .tuple #[.agg (putL x p bw).1.enc.toArray, .int .i64 (putL x p bw).2] ∧ Ext A A' := by
  have hl : x.enc.length = 9 := by simp [Ld.enc, hx.1]
  have ho : ∀ v ∈ x.enc, oneB v = true := List.all_eq_true.1 (by simp [Ld.enc])
  have ht : x.enc.take 9 = x.enc := List.take_of_length_le (by omega)
  have x0 : Ext A ((A.alloc (.row x.enc 48 false)).alloc (.row [.int .u64 0, .int .u64 0, .int .u64 0, .int .u64 0, .int .u64 0, .int .u64 0, .int .u64 0, .int .u64 0, .int .u64 0] 48 false)) := (Ext.alloc A _).app (by simp) _
  have r0 : ((A.alloc (.row x.enc 48 false)).alloc (.row [.int .u64 0, .int .u64 0, .int .u64 0, .int .u64 0, .int .u64 0, .int .u64 0, .int .u64 0, .int .u64 0, .int .u64 0] 48 false)).get A.next = some (.row x.enc 48 false) := by rw [AH.get_alloc, if_neg (by simp), AH.get_new]
  have r1 : ((A.alloc (.row x.enc 48 false)).alloc (.row [.int .u64 0, .int .u64 0, .int .u64 0, .int .u64 0, .int .u64 0, .int .u64 0, .int .u64 0, .int .u64 0, .int .u64 0] 48 false)).get (A.next + 1) = some (.row [.int .u64 0, .int .u64 0, .int .u64 0, .int .u64 0, .int .u64 0, .int .u64 0, .int .u64 0, .int .u64 0, .int .u64 0] 48 false) := by rw [AH.get_alloc, if_pos (by simp)]
  refine ACall.wf fun hwf => ?_
  have hw0 := AH.wf_alloc (AH.wf_alloc hwf (.row x.enc 48 false)) (.row [.int .u64 0, .int .u64 0, .int .u64 0, .int .u64 0, .int .u64 0, .int .u64 0, .int .u64 0, .int .u64 0, .int .u64 0] 48 false)
  refine code65.call (by simp) fun hwf => ?_
  unfold c65
  simp [hl, ht]
  refine CN.use (lmay_ok x hx p _) ?_
  rintro _ A2 hw2 hn2 ⟨rfl, x2⟩
  simp only [AH.next_alloc] at hn2
  have r02 := x2.get hw0 r0
  have r12 := x2.get hw0 r1
  have x02 := x0.trans (by simp; omega) x2
  have hbool := Bool.eq_false_or_eq_true (mayL x p)
  rcases hbool with hm | hm
  rotate_left
  · simp [hm, r12]
    exact DN.of ⟨by simp [putL, hm, zL, Ld.enc, List.replicate], x02.setnew (by omega) _⟩
  have hp : 0 ≤ p ∧ p < 8 := by
    simp [mayL] at hm; exact hm.1
  have hexq : ∃ q : Nat, p = q := ⟨p.toNat, by omega⟩
  obtain ⟨q, rfl⟩ := hexq
  have hq : q < 8 := by omega
  have hq' : (q : Int) < 8 := by omega
  have hh8 := hx.1
  have hg : x.enc[1 + q]? = some (.int .u64 (x.held.getD q 0 : Nat)) := by
    rw [Nat.add_comm]
    simp [Ld.enc, List.getD, show q < x.held.length by omega]
  have hlt := hx.2.2 (x.held.getD q 0) (by simp [List.getD, show q < x.held.length by omega])
  have hexh : ∃ h0 : Nat, h0 = x.held.getD q 0 := ⟨_, rfl⟩
  obtain ⟨h0, hh0⟩ := hexh
  rw [← hh0] at hg hlt
  have hq8 : 1 + q ≤ 8 := by omega
  simp [hm, r02, hq, hq', hg]
  refine CN.use (ladd_ok _ _ hlt hb _) ?_
  rintro _ A3 - - ⟨rfl, rfl⟩
  have hlen : 1 + q + 1 ≤ x.enc.length := by omega
  by_cases hs : h0 + bw < 18446744073709551616
  · obtain ⟨h1, hh1⟩ : ∃ h1 : Nat, h1 = h0 + bw := ⟨_, rfl⟩
    have ha : addP h0 bw = (h1, true) := by unfold addP; rw [if_pos hs, hh1]
    have hsp : spl x.enc (1 + q) [.int .u64 (h1 : Int)] = (x.put q bw).enc := by
      unfold Ld.put
      rw [← hh0, ← hh1]
      simp only [Ld.enc]
      rw [Nat.add_comm, spl_cons_succ, List.map_set]
      congr 1
      have := spl_cons (x.held.map fun n : Nat => Value.int .u64 n) q (.int .u64 (h1 : Int)) [] (by simp; omega)
      rw [← this]; simp [spl]
    have hpw := Ld.put_wf hx (p := q) (bw := bw) (by omega)
    have hpl : (x.put q bw).enc.length = 9 := by simp [Ld.enc, hpw.1]
    have hpt : (x.put q bw).enc.take 9 = (x.put q bw).enc := List.take_of_length_le (by omega)
    have hput : putL x q bw = if rightL (x.put q bw) = true then (x.put q bw, 0) else (zL, 14) := by
      unfold putL
      rw [if_pos hm, Int.toNat_natCast, ← hh0]
      by_cases hr : rightL (x.put q bw) = true
      · rw [if_pos ⟨hs, hr⟩, if_pos hr]
      · rw [if_neg (fun h => hr h.2), if_neg hr]
    have x03 := x02.setnew (c := A.next) (Nat.le_refl _) (.row (x.put q bw).enc 48 false)
    have hw3 := AH.wf_set hw2 (c := A.next) (by have := hw2 _ _ r02; omega) (.row (x.put q bw).enc 48 false)
    have r03 : (A3.set A.next (.row (x.put q bw).enc 48 false)).get A.next = some (.row (x.put q bw).enc 48 false) := by rw [AH.get_set, if_pos rfl]
    have r13 : (A3.set A.next (.row (x.put q bw).enc 48 false)).get (A.next + 1) = some (.row [.int .u64 0, .int .u64 0, .int .u64 0, .int .u64 0, .int .u64 0, .int .u64 0, .int .u64 0, .int .u64 0, .int .u64 0] 48 false) := by rw [AH.get_set, if_neg (by omega)]; exact r12
    simp [ha, hq, hq', r02, hl, hlen, hq8, hsp, hpl, hpt]
    refine CN.use (lright_ok (x.put q bw) hpw _) ?_
    rintro _ A4 hw4 hn4 ⟨rfl, x4⟩
    have r04 := x4.get hw3 r03
    have r14 := x4.get hw3 r13
    simp only [AH.next_set] at hn4
    have hbool := Bool.eq_false_or_eq_true (rightL (x.put q bw))
    rcases hbool with hr | hr
    · simp [hr, r04, r14, hpl, hpt]
      refine ⟨List.all_eq_true.1 (by simp [Ld.enc]), ?_⟩
      exact DN.of ⟨by rw [hput, if_pos hr], (x03.trans (by simp; omega) x4).setnew (c := A.next + 1) (by omega) _⟩
    · simp [hr, r04, r14]
      exact DN.of ⟨by rw [hput, if_neg (by simp [hr])]; rfl, (x03.trans (by simp; omega) x4).setnew (c := A.next + 1) (by omega) _⟩
  · have ha : addP h0 bw = (0, false) := by unfold addP; rw [if_neg hs]
    have hsl : (spl x.enc (1 + q) [.int .u64 0]).length = 9 := by rw [spl_length _ _ _ (by simp; omega)]; exact hl
    simp [ha, hq, hq', r02, hl, hlen, hq8, r12, hsl]
    refine DN.of ⟨?_, (x02.setnew (by omega) _).setnew (by omega) _⟩
    have hput : putL x q bw = (zL, 14) := by
      unfold putL
      rw [if_pos hm, Int.toNat_natCast, ← hh0, if_neg (fun h => hs h.1)]
    rw [hput]; rfl
end Go.Proofs.Ytieehccjajhpfaa.AC
/- Ledgers, in the reference. -/
namespace Go.Proofs.Ytieehccjajhpfaa.AC
open Go Go.AI Go.Proofs Go.Proofs.Ytieehccjajhpfaa.AQ
set_option linter.unusedVariables false
theorem upto_ok (x : Ld) (hx : x.wf) (A : AH) : ACall Try.prog 54 [.agg x.enc.toArray, .int .i64 7] A fun v A' => v = .tuple #[.int .u64 (sumB x.held).1, .bool (sumB x.held).2] ∧ Ext A A' := by
  obtain ⟨h8, hc, hh⟩ := hx
  have hl : x.enc.length = 9 := by simp [Ld.enc, h8]
  have ho : ∀ v ∈ x.enc, oneB v = true := List.all_eq_true.1 (by simp [Ld.enc])
  refine code54.call (by simp) fun hwf => ?_
  unfold c54
  simp
  refine LN.use (fun m E A' => ∃ k : Nat, m + k = 8 ∧ A' = A.alloc (.row x.enc 50 false) ∧ (x.held.take k).sum < 18446744073709551616 ∧ E.get 1 = .int .i64 7 ∧ E.get 2 = .pointer (some ⟨A.next, 0, none⟩) ∧ E.get 6 = .int .u64 ((x.held.take k).sum : Nat) ∧ E.get 7 = .int .i64 k) 8
    ⟨0, by omega, rfl, by simp, by simp, by simp, by simp, by simp⟩ ?_
  rintro m E _ hw1 hn1 ⟨k, hk, rfl, hs, E1, E2, E6, E7⟩
  have r0 := AH.get_new A (.row x.enc 50 false)
  by_cases hlt : k < 8
  · have hlt' : (k : Int) ≤ 7 := by omega
    have hlt2 : (k : Int) < 8 := by omega
    have hkl : k < x.held.length := by omega
    have hst : (x.held.take (k + 1)).sum = (x.held.take k).sum + x.held[k] := by
      rw [List.take_succ_eq_append_getElem hkl, List.sum_append]; simp
    have hle : (x.held.take (k + 1)).sum ≤ x.held.sum := by
      have := congrArg List.sum (List.take_append_drop (k + 1) x.held)
      rw [List.sum_append] at this
      omega
    have hgi : IntKind.i64.wrap ((k : Int) + 1) = ((k + 1 : Nat) : Int) := by rw [i64_in (by omega) (by omega)]; simp
    have hg : x.enc[1 + k]? = some (.int .u64 (x.held[k] : Nat)) := by
      rw [Nat.add_comm]
      simp [Ld.enc, hkl]
    simp [E1, E2, E6, E7, hlt, hlt', hlt2, hg]
    refine CN.use (radd_ok _ _ hs (hh _ (List.getElem_mem hkl)) _) ?_
    rintro _ A2 - - ⟨rfl, rfl⟩
    by_cases ho : (x.held.take k).sum + x.held[k] < 18446744073709551616
    · have ha : addP (x.held.take k).sum x.held[k] = ((x.held.take (k + 1)).sum, true) := by unfold addP; rw [if_pos ho, hst]
      simp [E7, ha, hgi]
      exact NX.of ⟨m - 1, by omega, k + 1, by omega, rfl, by omega, by simp [E1], by simp [E2], by simp, by simp⟩
    · have ha : addP (x.held.take k).sum x.held[k] = (0, false) := by unfold addP; rw [if_neg ho]
      simp [ha]
      refine DN.of ⟨?_, Ext.alloc A _⟩
      unfold sumB
      rw [if_neg (by omega)]; rfl
  · have hlt' : ¬ (k : Int) ≤ 7 := by omega
    rw [List.take_of_length_le (by omega)] at hs E6
    simp [E1, E6, E7, hlt']
    refine DN.of ⟨?_, Ext.alloc A _⟩
    unfold sumB
    rw [if_pos hs]
end Go.Proofs.Ytieehccjajhpfaa.AC
/- Ledgers, in the reference: right. -/
namespace Go.Proofs.Ytieehccjajhpfaa.AC
open Go Go.AI Go.Proofs Go.Proofs.Ytieehccjajhpfaa.AQ
set_option linter.unusedVariables false
theorem rsum_ok (x : Ld) (hx : x.wf) (A : AH) : ACall Try.prog 29 [.agg x.enc.toArray] A fun v A' => v = .tuple #[.int .u64 (sumB x.held).1, .bool (sumB x.held).2] ∧ Ext A A' := by
  have hl : x.enc.length = 9 := by simp [Ld.enc, hx.1]
  have ht : x.enc.take 9 = x.enc := List.take_of_length_le (by omega)
  have x0 := Ext.alloc A (.row x.enc 50 false)
  refine code29.call (by simp) fun hwf => ?_
  unfold c29
  simp [hl, ht]
  refine CN.use (upto_ok x hx _) ?_
  rintro _ A2 hw2 hn2 ⟨rfl, x2⟩
  simp
  exact DN.of ⟨rfl, x0.trans (by simp) x2⟩
theorem rright13_ok (x : Ld) (hx : x.wf) (A : AH) : ACall Try.prog 68 [.agg x.enc.toArray] A fun v A' => v = .bool (rightL x) ∧ Ext A A' := by
  have hl : x.enc.length = 9 := by simp [Ld.enc, hx.1]
  have ht : x.enc.take 9 = x.enc := List.take_of_length_le (by omega)
  have h0 : x.enc[0]? = some (.int .u64 x.cap) := rfl
  have x0 := Ext.alloc A (.row x.enc 50 false)
  have r0 := AH.get_new A (.row x.enc 50 false)
  have hcap := hx.2.1
  refine ACall.wf fun hwf => ?_
  have hw0 := AH.wf_alloc hwf (.row x.enc 50 false)
  refine code68.call (by simp) fun hwf => ?_
  unfold c68
  simp [hl, ht]
  refine CN.use (rsum_ok x hx _) ?_
  rintro _ A2 hw2 hn2 ⟨rfl, x2⟩
  have r2 := x2.get hw0 r0
  by_cases hs : x.held.sum < 18446744073709551616
  · have hb : sumB x.held = (x.held.sum, true) := by unfold sumB; rw [if_pos hs]
    simp [hb, r2, h0]
    exact DN.of ⟨by simp [rightL], x0.trans (by simp) x2⟩
  · have hb : sumB x.held = (0, false) := by unfold sumB; rw [if_neg hs]
    simp [hb]
    exact DN.of ⟨by simp [rightL]; omega, x0.trans (by simp) x2⟩
end Go.Proofs.Ytieehccjajhpfaa.AC
/- Contracts of slices.Insert and slices.Delete, of states. -/
namespace Go.Proofs.Ytieehccjajhpfaa.AC
open Go Go.AI Go.Proofs Go.Proofs.Ytieehccjajhpfaa.AQ
set_option linter.unusedVariables false
theorem overlaps_ok {A : AH} {b1 o1 n1 c1 b2 o2 n2 c2 : Nat} {cs1 cs2 : List Value} {e1 e2 : TypeId} (h1 : A.get b1 = some (.row cs1 e1 false)) (h2 : A.get b2 = some (.row cs2 e2 false)) (hne : b1 ≠ b2) (hc : cs2 ≠ []) (hn1 : n1 ≠ 0) (hn2 : n2 ≠ 0) :
    ACall Try.prog 60 [.slice (some ⟨b1, o1, none⟩) n1 c1, .slice (some ⟨b2, o2, none⟩) n2 c2] A fun v A' => v = .bool false ∧ A' = A :=
  overlaps_apart (T := 55) (R' := 4) (e := 63) (size := 10) Try.underlying55 (by intro w; kernel_rfl)
    (fun args w v h => by rw [run_callFunc_extern Try.func60 (by kernel_rfl) (by kernel_rfl) (by kernel_rfl) (e := Extern.SlicesOverlaps.overlaps #[55, 55] #[4]) (by kernel_rfl), h]; rfl) h1 h2 hne hc hn1 hn2
theorem insert_exact {A : AH} {b vb c i : Nat} {L : List (List Value)} {r rest : List Value} (hb : A.get b = some (.row (L.flatten ++ rest) 63 false)) (hv : A.get vb = some (.row r 63 false)) (hne : vb ≠ b) (hR : Rw 10 L) (hr : r.length = 10 ∧ r.all oneB = true)
    (hc : c < UNK) (hn : L.length ≤ c) (hcz : c * 10 = L.flatten.length + rest.length) (hi : i ≤ L.length) (hL : L.length ≤ 1000000) :
    ACall Try.prog 41 [.slice (some ⟨b, 0, none⟩) L.length c, .int .i64 i, .slice (some ⟨vb, 0, none⟩) 1 1] A fun v A' => InsP 63 10 b (L.take i ++ r :: L.drop i) A v A' := by
  refine code41.call (by simp) fun hwf => ?_
  unfold c41
  have hfl := flat_len hR.len
  have hfv : ∀ A' : AH, A'.get vb = some (.row r 63 false) → firstOf A' 10 1 (.slice (some ⟨vb, 0, none⟩) 1 1) = some r := fun A' h => by
    rw [firstOf_row h (by omega)]; simp [List.take_of_length_le, hr.1]
  have hRi : Rw 10 (L.take i ++ r :: L.drop i) := (hR.sub fun r hr => List.mem_of_mem_take hr).app (Rw.cons hr (hR.sub fun r hr => List.mem_of_mem_drop hr))
  have hlen : (L.take i ++ r :: L.drop i).length = L.length + 1 := by simp <;> omega
  simp [slW_lo (P := Try.prog) (z := 10) (a := some ⟨b, 0, none⟩) (k := .i64) (A := A) hi hn hc]
  have hcap := aCap_exact (P := Try.prog) sl55 (some ⟨b, 0, none⟩) L.length c (by omega)
  have hRd : Rw 10 (L.drop i) := hR.sub fun r hr => List.mem_of_mem_drop hr
  by_cases hin : i = L.length
  · subst hin
    by_cases hroom : L.length + 1 ≤ c
    · have hap := appW_in (e := 63) (z := 10) (y := 72) (o := 0) (hfv A hv) (by omega) (l := L.length) (by omega) (by omega) (by omega) hc hroom hb (by simp [hfl] at hcz ⊢; omega) hr.2
      rw [Nat.zero_add, spl_at' _ _ _ hfl.symm] at hap
      simp [hap]
      refine DN.of ⟨b, ⟨hRi, Or.inr ⟨b, c, rest.drop 10, rfl, by simp, by rw [AH.get_set, if_pos rfl]; simp [hr.1], Or.inr ⟨hc, by rw [hlen]; exact hroom, ?_⟩⟩⟩, fun k hk hkb => by rw [AH.get_set, if_neg hkb], Or.inl rfl⟩
      rw [flat_len hRi.len, hlen, List.length_drop]; omega
    · have hap := appW_out (e := 63) (z := 10) (y := 72) (o := 0) (hfv A hv) (by omega) (l := L.length) (by omega) (by omega) (by omega) hc (by omega) (firstOf_row hb (by simp [hfl]))
      rw [List.drop_zero, take_flat hR _ _ (Nat.le_refl _)] at hap
      simp [hap]
      refine DN.of ⟨A.next, ⟨hRi, Or.inr ⟨A.next, UNK, [], rfl, by simp, by rw [AH.get_new]; simp, Or.inl ⟨rfl, rfl⟩⟩⟩, fun k hk hkb => by rw [AH.get_alloc, if_neg (by omega)], Or.inr (Nat.le_refl _)⟩
  · have hinI : ¬ (i : Int) = L.length := by omega
    have hti : (L.take i).flatten.length = i * 10 := by rw [flat_len (fun r hr => hR.len r (List.mem_of_mem_take hr)), List.length_take, Nat.min_eq_left hi]
    have hdi : (L.drop i).flatten.length = (L.length - i) * 10 := by rw [flat_len hRd.len, List.length_drop]
    have e1 : ((L.length + 1 - i : Nat) : Int) = (L.length : Int) + 1 - i := by omega
    have e2 : i + (L.length + 1 - i) = L.length + 1 := by omega
    have w1 := i64_in (x := (L.length : Int) + 1) (by omega) (by omega)
    have w2 := i64_in (x := (L.length : Int) + 1 - i) (by omega) (by omega)
    have w3 := i64_in (x := (i : Int) + 1) (by omega) (by omega)
    simp [hcap, hinI, w1]
    split
    · rename_i hroom
      have g1 := slW_hi (P := Try.prog) (z := 10) (a := some ⟨b, 0, none⟩) (k := .i64) (A := A) (h := i) (n := L.length) (c := c) (by omega) hn hc
      rw [cutA_zero] at g1
      have g2 : ∃ Z, Z.length = (L.length + 1 - i) * 10 ∧ appZ 63 10 72 (Value.agg #[.int .i64 0, .int .i64 0, .int .i64 0, .int .i64 0, .int .u64 0, .int .i64 0, .int .i64 0, .int .u32 0, .int .u32 0, .int .u32 0]).cells.toList (.slice (some ⟨b, 0, none⟩) i c) (.int .i64 ((L.length : Int) + 1 - i)) A = some (.slice (some ⟨A.next, 0, none⟩) (L.length + 1) UNK, A.alloc (.row ((L.take i).flatten ++ Z) 63 false)) := by
        refine ⟨zrep (L.length + 1 - i) (Value.agg #[.int .i64 0, .int .i64 0, .int .i64 0, .int .i64 0, .int .u64 0, .int .i64 0, .int .i64 0, .int .u32 0, .int .u32 0, .int .u32 0]).cells.toList, zrep_len _ rfl _, ?_⟩
        have := appZ_out (e := 63) (z := 10) (y := 72) (l := i) (n := L.length + 1 - i) (k := .i64) (zc := (Value.agg #[.int .i64 0, .int .i64 0, .int .i64 0, .int .i64 0, .int .u64 0, .int .i64 0, .int .i64 0, .int .u32 0, .int .u32 0, .int .u32 0]).cells.toList) (by omega) (by omega) (by omega) hc (by omega) (firstOf_row (n' := i) (c := c) (o := 0) (n := i) hb (by rw [List.length_append]; omega))
        rw [e1, e2, List.drop_zero, take_flat hR _ _ hi] at this
        exact this
      obtain ⟨Z, hZ, g2⟩ := g2
      simp at g2
      have hbn : A.next ≠ b := fun e => by have := hwf _ _ hb; omega
      have hvn : vb ≠ A.next := fun e => by have := hwf _ _ hv; omega
      have g3 := slU_lo (P := Try.prog) (A := A.alloc (.row ((L.take i).flatten ++ Z) 63 false)) (z := 10) (n := L.length + 1) (o := 0) (i := i) (k := .i64) (AH.get_new _ _) sz63 (by omega)
      rw [Nat.zero_add] at g3
      have g4 := cpW_row (z := 10) (d := A.next) (o := i * 10) (dn := L.length + 1 - i) (dc := UNK) (sn := 1) (sc := 1) (b := some ⟨vb, 0, none⟩) (A := A.alloc (.row ((L.take i).flatten ++ Z) 63 false)) (vs := r) (by rw [Nat.min_eq_left (by omega)]; exact hfv _ (by rw [AH.get_alloc, if_neg hvn]; exact hv)) (by omega) (AH.get_new _ _) (by rw [List.length_append, hti, hr.1, hZ]; omega) hr.2
      rw [spl_at' _ _ _ hti.symm] at g4
      have ei : ((i + 1 : Nat) : Int) = (i : Int) + 1 := by omega
      obtain ⟨A2, hA2⟩ : ∃ A2, A2 = (A.alloc (.row ((L.take i).flatten ++ Z) 63 false)).set A.next (.row ((L.take i).flatten ++ (r ++ Z.drop r.length)) 63 false) := ⟨_, rfl⟩
      have a1 : A2.get A.next = some (.row ((L.take i).flatten ++ (r ++ Z.drop r.length)) 63 false) := by rw [hA2, AH.get_set, if_pos rfl]
      have a2 : ∀ k, k ≠ A.next → A2.get k = A.get k := fun k hk => by rw [hA2, AH.get_set, if_neg hk, AH.get_alloc, if_neg hk]
      have g5 := slU_lo (P := Try.prog) (z := 10) (n := L.length + 1) (o := 0) (i := i + 1) (k := .i64) a1 sz63 (by omega)
      rw [ei, Nat.zero_add] at g5
      have g6 := slW_lo (P := Try.prog) (z := 10) (a := some ⟨b, 0, none⟩) (k := .i64) (A := A2) hi hn hc
      rw [cutA_ne (by omega), Nat.zero_add] at g6
      have hz0 : (Z.drop r.length).drop (L.drop i).flatten.length = [] := List.drop_eq_nil_of_le (by rw [List.length_drop, hZ, hdi, hr.1]; omega)
      have g7 := cpW_row (z := 10) (d := A.next) (o := (i + 1) * 10) (dn := L.length + 1 - (i + 1)) (dc := UNK) (sn := L.length - i) (sc := c - i) (b := some ⟨b, i * 10, none⟩) (A := A2) (vs := (L.drop i).flatten) (by rw [Nat.min_eq_left (by omega), firstOf_row ((a2 b hbn.symm).trans hb) (by rw [List.length_append, hfl]; omega), part_flat hR _ _ hi]) (by omega) a1 (by rw [List.length_append, List.length_append, List.length_drop, hti, hr.1, hZ, hdi]; omega) hRd.flat
      rw [← List.append_assoc, spl_at' _ _ _ (by rw [List.length_append, hti, hr.1]; omega), hz0, List.append_nil] at g7
      rw [show L.length + 1 - (i + 1) = L.length - i by omega] at g5 g7
      simp [-AH.alloc_set, -AH.set_set, w1, g1, w2, g2, g3, g4, w3, ← hA2, g5, g6, g7]
      refine DN.of ⟨A.next, ⟨hRi, Or.inr ⟨A.next, UNK, [], rfl, by rw [hlen], by rw [AH.get_set, if_pos rfl]; simp, Or.inl ⟨rfl, rfl⟩⟩⟩, fun k hk hkb => by rw [AH.get_set, if_neg (by omega)]; exact a2 k (by omega), Or.inr (Nat.le_refl _)⟩
    · rename_i hroom
      have ei : ((i + 1 : Nat) : Int) = (i : Int) + 1 := by omega
      have en : ((L.length + 1 : Nat) : Int) = (L.length : Int) + 1 := by omega
      have g1 := slW_hi (P := Try.prog) (z := 10) (a := some ⟨b, 0, none⟩) (k := .i64) (A := A) (h := L.length + 1) (n := L.length) (c := c) (by omega) hn hc
      rw [cutA_zero, en] at g1
      have g2 := fun A => slW_lo (P := Try.prog) (z := 10) (a := some ⟨b, 0, none⟩) (k := .i64) (A := A) (n := L.length + 1) (i := i + 1) (c := c) (by omega) (by omega) hc
      have g3 := fun A => slW_lo (P := Try.prog) (z := 10) (a := some ⟨b, 0, none⟩) (k := .i64) (A := A) (n := L.length + 1) (i := i) (c := c) (by omega) (by omega) hc
      simp only [cutA_ne (show c ≠ i + 1 by omega), cutA_ne (show c ≠ i by omega), Nat.zero_add, ei, show L.length + 1 - (i + 1) = L.length - i by omega] at g2 g3
      simp [w1, g1, w3, g2]
      refine CN.use (overlaps_ok hv hb hne (by intro e; have := congrArg List.length e; simp at this; simp [this.2] at hcz; have := this.1; omega) (by omega) (by omega)) ?_
      rintro _ A - - ⟨rfl, rfl⟩
      have g4 := cpW_row (z := 10) (d := b) (o := (i + 1) * 10) (dn := L.length - i) (dc := c - (i + 1)) (sn := L.length + 1 - i) (sc := c - i) (b := some ⟨b, i * 10, none⟩) (A := A) (vs := (L.drop i).flatten) (by rw [Nat.min_eq_right (by omega), firstOf_row hb (by rw [List.length_append, hfl]; omega), part_flat hR _ _ hi]) (by omega) hb (by rw [List.length_append, hfl, hdi]; omega) hRd.flat
      have g5 := fun (cs : List Value) (hcs : 10 ≤ cs.length - i * 10) => cpW_row (z := 10) (d := b) (o := i * 10) (dn := L.length + 1 - i) (dc := c - i) (sn := 1) (sc := 1) (b := some ⟨vb, 0, none⟩) (A := A.set b (.row cs 63 false)) (vs := r) (by rw [Nat.min_eq_left (by omega)]; exact hfv _ (by rw [AH.get_set, if_neg hne]; exact hv)) (by omega) (by rw [AH.get_set, if_pos rfl]) (by rw [hr.1]; omega) hr.2
      have hsp := spl_length (L.flatten ++ rest) ((i + 1) * 10) (L.drop i).flatten (by rw [List.length_append, hfl, hdi]; omega)
      have g6 := g5 (spl (L.flatten ++ rest) ((i + 1) * 10) (L.drop i).flatten) (by rw [hsp, List.length_append, hfl]; omega)
      rw [shift_rows hR hi hr.1 (by omega)] at g6
      simp [-AH.alloc_set, -AH.set_set, w1, w3, g2, g3, g4, g6]
      refine DN.of ⟨b, ⟨hRi, Or.inr ⟨b, c, rest.drop 10, rfl, by rw [hlen], by rw [AH.get_set, if_pos rfl]; simp, Or.inr ⟨hc, by rw [hlen]; omega, ?_⟩⟩⟩, fun k hk hkb => by rw [AH.get_set, if_neg hkb, AH.get_set, if_neg hkb], Or.inl rfl⟩
      rw [flat_len hRi.len, hlen, List.length_drop]; omega
theorem delete_exact {A : AH} {b c i : Nat} {L : List (List Value)} {rest : List Value} (hb : A.get b = some (.row (L.flatten ++ rest) 63 false)) (hR : Rw 10 L)
    (hc : c < UNK) (hn : L.length ≤ c) (hcz : c * 10 = L.flatten.length + rest.length) (hi : i < L.length) (hL : L.length ≤ 1000000) :
    ACall Try.prog 38 [.slice (some ⟨b, 0, none⟩) L.length c, .int .i64 i, .int .i64 ((i : Int) + 1)] A fun v A' => Lst A' 63 10 (some b) v (L.take i ++ L.drop (i + 1)) ∧ (∀ k, k < A.next → k ≠ b → A'.get k = A.get k) := by
  refine ACall.wf fun hwf => ?_
  have hfl := flat_len hR.len
  have hRi : Rw 10 (L.take i ++ L.drop (i + 1)) := (hR.sub fun r hr => List.mem_of_mem_take hr).app (hR.sub fun r hr => List.mem_of_mem_drop hr)
  have hlen : (L.take i ++ L.drop (i + 1)).length = L.length - 1 := by simp <;> omega
  have hRd : Rw 10 (L.drop (i + 1)) := hR.sub fun r hr => List.mem_of_mem_drop hr
  have hdi : (L.drop (i + 1)).flatten.length = (L.length - (i + 1)) * 10 := by rw [flat_len hRd.len, List.length_drop]
  have ei : ((i + 1 : Nat) : Int) = (i : Int) + 1 := by omega
  have en : ((L.length - 1 : Nat) : Int) = (L.length : Int) - 1 := by omega
  have g1 := slW_3 (P := Try.prog) (z := 10) (a := some ⟨b, 0, none⟩) (k1 := .i64) (k2 := .i64) (k3 := .i64) (A := A) (l := i) (h := i + 1) (k := L.length) (n := L.length) (c := c) (by omega) (by omega) hn hn hc
  have g2 := slW_hi (P := Try.prog) (z := 10) (a := some ⟨b, 0, none⟩) (k := .i64) (A := A) (h := i) (n := L.length) (c := c) (by omega) hn hc
  have g3 := slW_lo (P := Try.prog) (z := 10) (a := some ⟨b, 0, none⟩) (k := .i64) (A := A) (n := L.length) (i := i + 1) (c := c) (by omega) hn hc
  rw [ei] at g1 g3
  rw [cutA_zero] at g2
  have g4 : ∀ A, slW Try.prog 10 (some ⟨b, 0, none⟩) (L.length - 1) c (some (.int .i64 ((L.length - 1 : Nat) : Int))) (some (.int .i64 (L.length : Int))) none A = some (.slice (some ⟨b, (L.length - 1) * 10, none⟩) 1 (c - (L.length - 1))) := fun A => by
    have := slW_lohi (P := Try.prog) (z := 10) (a := some ⟨b, 0, none⟩) (k := .i64) (k' := .i64) (A := A) (l := L.length - 1) (h := L.length) (n := L.length - 1) (c := c) (by omega) (by omega) (by omega) hc
    rw [cutA_ne (by omega), Nat.zero_add, show L.length - (L.length - 1) = 1 by omega] at this
    exact this
  have hz1 : (zrep 1 (Value.agg #[.int .i64 0, .int .i64 0, .int .i64 0, .int .i64 0, .int .u64 0, .int .i64 0, .int .i64 0, .int .u32 0, .int .u32 0, .int .u32 0]).cells.toList) = (Value.agg #[.int .i64 0, .int .i64 0, .int .i64 0, .int .i64 0, .int .u64 0, .int .i64 0, .int .i64 0, .int .u32 0, .int .u32 0, .int .u32 0]).cells.toList := by simp
  have g5 : ∀ (A : AH) (cs : List Value), A.get b = some (.row cs 63 false) → cs.length = (L.flatten ++ rest).length → clW (Value.agg #[.int .i64 0, .int .i64 0, .int .i64 0, .int .i64 0, .int .u64 0, .int .i64 0, .int .i64 0, .int .u32 0, .int .u32 0, .int .u32 0]).cells.toList (.slice (some ⟨b, (L.length - 1) * 10, none⟩) 1 (c - (L.length - 1))) A = some (A.set b (.row (spl cs ((L.length - 1) * 10) (Value.agg #[.int .i64 0, .int .i64 0, .int .i64 0, .int .i64 0, .int .u64 0, .int .i64 0, .int .i64 0, .int .u32 0, .int .u32 0, .int .u32 0]).cells.toList) 63 false)) := fun A cs hA hcs => by
    have := clW_row (zc := (Value.agg #[.int .i64 0, .int .i64 0, .int .i64 0, .int .i64 0, .int .u64 0, .int .i64 0, .int .i64 0, .int .u32 0, .int .u32 0, .int .u32 0]).cells.toList) (d := b) (o := (L.length - 1) * 10) (n := 1) (c := c - (L.length - 1)) (A := A) (by omega) hA (by rw [hcs, List.length_append, hfl]; simp; omega) (by rw [hz1]; rfl)
    rwa [hz1] at this
  have hdel := del_rows (z := 10) (i := i) (L := L) (rest := rest) (zc := (Value.agg #[.int .i64 0, .int .i64 0, .int .i64 0, .int .i64 0, .int .u64 0, .int .i64 0, .int .i64 0, .int .u32 0, .int .u32 0, .int .u32 0]).cells.toList) hR hi rfl
  have done : ∀ cs, cs = (L.take i ++ L.drop (i + 1)).flatten ++ ((Value.agg #[.int .i64 0, .int .i64 0, .int .i64 0, .int .i64 0, .int .u64 0, .int .i64 0, .int .i64 0, .int .u32 0, .int .u32 0, .int .u32 0]).cells.toList ++ rest) → ∀ A', A'.get b = some (.row cs 63 false) → Lst A' 63 10 (some b) (.slice (some ⟨b, 0, none⟩) (L.length - 1) c) (L.take i ++ L.drop (i + 1)) := fun cs hcs A' hA' => by
    subst hcs
    refine ⟨hRi, Or.inr ⟨b, c, _, rfl, by rw [hlen], hA', Or.inr ⟨hc, by rw [hlen]; omega, ?_⟩⟩⟩
    rw [flat_len hRi.len, hlen, List.length_append]; simp; omega
  by_cases hlast : i + 1 = L.length
  · have g6 := appW_zero (e := 63) (z := 10) (y := 72) (a := some ⟨b, 0, none⟩) (l := i) (c := c) (c2 := c - (i + 1)) (A := A) (Pla.cut (Pla.yes b 0) c (i + 1) 10) (Or.inr (by omega))
    rw [show L.length - (i + 1) = 0 by omega] at g3
    have el : L.length - 1 = i := by omega
    rw [el] at g4 done
    have g7 := g5 A _ hb rfl
    rw [el] at g7
    rw [show L.drop (i + 1) = [] from List.drop_eq_nil_of_le (by omega), List.flatten_nil, spl_nil, el] at hdel
    refine code38.call (by simp) fun hwf => ?_
    unfold c38
    simp at g4 g7 g1 g2 g3
    simp [-AH.set_set, g1, g2, g3, g6, g4, g7]
    rw [if_neg (by omega)]
    refine DN.of ⟨?_, fun k hk hkb => by rw [AH.get_set, if_neg hkb]⟩
    rw [show L.drop (i + 1) = [] from List.drop_eq_nil_of_le (by omega)] at done ⊢
    exact done _ hdel _ (by rw [AH.get_set, if_pos rfl]; simp)
  · have g6 := appW_in (e := 63) (z := 10) (y := 72) (b := b) (o := 0) (l := i) (c := c) (A := A) (n := L.length - (i + 1)) (c2 := c - (i + 1)) (a2 := some ⟨b, (i + 1) * 10, none⟩) (new := (L.drop (i + 1)).flatten) (by rw [firstOf_row hb (by rw [List.length_append, hfl]; omega), part_flat hR _ _ (by omega)]) (by omega) (by omega) (by omega) (by omega) hc (by omega) hb (by rw [List.length_append, hfl]; omega) hRd.flat
    rw [show i + (L.length - (i + 1)) = L.length - 1 by omega, Nat.zero_add] at g6
    rw [cutA_ne (by omega), Nat.zero_add] at g3
    have g7 := g5 (A.set b (.row (spl (L.flatten ++ rest) (i * 10) (L.drop (i + 1)).flatten) 63 false)) _ (by rw [AH.get_set, if_pos rfl]) (spl_length _ _ _ (by rw [List.length_append, hfl, hdi]; omega))
    rw [hdel] at g7
    refine code38.call (by simp) fun hwf => ?_
    unfold c38
    simp at g7 g1 g2 g3 g6
    simp [-AH.set_set, g1, g2, g3, g6, g4, g7]
    rw [if_neg (by omega)]
    refine DN.of ⟨done _ rfl _ (by simp), fun k hk hkb => by simp [hkb]⟩
theorem insert_nil {A : AH} {vb : Nat} {r : List Value} (hv : A.get vb = some (.row r 63 false)) (hr : r.length = 10 ∧ r.all oneB = true) :
    ACall Try.prog 41 [.slice none 0 0, .int .i64 0, .slice (some ⟨vb, 0, none⟩) 1 1] A fun v A' => ∃ b', Lst A' 63 10 (some b') v [r] ∧ (∀ k, k < A.next → A'.get k = A.get k) ∧ A.next ≤ b' := by
  refine code41.call (by simp) fun hwf => ?_
  unfold c41
  have g1 := slW_lo (P := Try.prog) (z := 10) (a := none) (k := .i64) (A := A) (n := 0) (i := 0) (c := 0) (Nat.le_refl _) (Nat.le_refl _) (by simp [UNK])
  simp at g1
  have hfv : firstOf A 10 1 (.slice (some ⟨vb, 0, none⟩) 1 1) = some r := by rw [firstOf_row hv (by omega)]; simp [List.take_of_length_le, hr.1]
  have g2 : appW 63 10 72 (.slice none 0 0) (.slice (some ⟨vb, 0, none⟩) 1 1) A = some (.slice (some ⟨A.next, 0, none⟩) 1 UNK, A.alloc (.row r 63 false)) := by
    unfold appW
    simp [hfv]
  simp [g1, g2]
  exact DN.of ⟨A.next, ⟨Rw.one hr, Or.inr ⟨A.next, UNK, [], rfl, rfl, by rw [AH.get_new]; simp, Or.inl ⟨rfl, rfl⟩⟩⟩, fun k hk => by rw [AH.get_alloc, if_neg (by omega)], Nat.le_refl _⟩
theorem insert_ok {A : AH} {ob : Option Nat} {v : Value} {vb i : Nat} {L : List (List Value)} {r : List Value} (h : Lst A 63 10 ob v L) (hv : A.get vb = some (.row r 63 false)) (hne : ob ≠ some vb) (hr : r.length = 10 ∧ r.all oneB = true) (hi : i ≤ L.length) (hL : L.length ≤ 1000000) :
    ACall Try.prog 41 [v, .int .i64 i, .slice (some ⟨vb, 0, none⟩) 1 1] A fun v' A' => ∃ b', Lst A' 63 10 (some b') v' (L.take i ++ r :: L.drop i) ∧ (∀ k, k < A.next → ob ≠ some k → A'.get k = A.get k) ∧ (ob = some b' ∨ A.next ≤ b') := by
  rcases h.2 with ⟨rfl, rfl, rfl⟩ | ⟨b, c, rest, rfl, rfl, hb, hc⟩
  · obtain rfl : i = 0 := by simpa using hi
    exact (insert_nil hv hr).mono fun v' A' _ _ ⟨b', h1, h2, h3⟩ => ⟨b', by simpa using h1, fun k hk _ => h2 k hk, Or.inr h3⟩
  · have hvb : vb ≠ b := fun e => hne (by rw [e])
    rcases hc with ⟨rfl, rfl⟩ | ⟨h1, h2, h3⟩
    · rw [List.append_nil] at hb
      refine ACall.reveal code41.enters sz63 hb fun c ex hn hcU hcz => ?_
      refine (insert_exact (A := A.set b (.row (L.flatten ++ ex) 63 false)) (by rw [AH.get_set, if_pos rfl]) (by rw [AH.get_set, if_neg hvb]; exact hv) hvb h.1 hr hcU hn hcz hi hL).mono fun v' A' _ _ ⟨b', q1, q2, q3⟩ => ⟨b', q1, fun k hk hkb => ?_, q3.imp (fun e => by rw [e]) id⟩
      have hkb' : k ≠ b := fun e => hkb (by rw [e])
      rw [q2 k hk hkb', AH.get_set, if_neg hkb']
    · exact (insert_exact hb hv hvb h.1 hr h1 h2 h3 hi hL).mono fun v' A' _ _ ⟨b', q1, q2, q3⟩ => ⟨b', q1, fun k hk hkb => q2 k hk (fun e => hkb (by rw [e])), q3.imp (fun e => by rw [e]) id⟩
theorem delete_ok {A : AH} {ob : Option Nat} {v : Value} {i : Nat} {L : List (List Value)} (h : Lst A 63 10 ob v L) (hi : i < L.length) (hL : L.length ≤ 1000000) :
    ACall Try.prog 38 [v, .int .i64 i, .int .i64 ((i : Int) + 1)] A fun v' A' => Lst A' 63 10 ob v' (L.take i ++ L.drop (i + 1)) ∧ (∀ k, k < A.next → ob ≠ some k → A'.get k = A.get k) := by
  rcases h.2 with ⟨rfl, rfl, rfl⟩ | ⟨b, c, rest, rfl, rfl, hb, hc⟩
  · simp at hi
  · rcases hc with ⟨rfl, rfl⟩ | ⟨h1, h2, h3⟩
    · rw [List.append_nil] at hb
      refine ACall.reveal code38.enters sz63 hb fun c ex hn hcU hcz => ?_
      refine (delete_exact (A := A.set b (.row (L.flatten ++ ex) 63 false)) (by rw [AH.get_set, if_pos rfl]) h.1 hcU hn hcz hi hL).mono fun v' A' _ _ ⟨q1, q2⟩ => ⟨q1, fun k hk hkb => ?_⟩
      have hkb' : k ≠ b := fun e => hkb (by rw [e])
      rw [q2 k hk hkb', AH.get_set, if_neg hkb']
    · exact (delete_exact hb h.1 h1 h2 h3 hi hL).mono fun v' A' _ _ ⟨q1, q2⟩ => ⟨q1, fun k hk hkb => q2 k hk (fun e => hkb (by rw [e]))⟩
end Go.Proofs.Ytieehccjajhpfaa.AC
/- Where an entry stands. -/
namespace Go.Proofs.Ytieehccjajhpfaa.AC
open Go Go.AI Go.Proofs Go.Proofs.Ytieehccjajhpfaa.AQ
set_option linter.unusedVariables false
theorem En.cells (x : En) : x.enc.length = 10 ∧ (∀ v ∈ x.enc, oneB v = true) ∧ x.enc.take 4 = x.k.enc ∧ (x.enc.drop 4).take 6 = x.w.enc ∧ x.enc.take 10 = x.enc := ⟨rfl, List.all_eq_true.1 (rfl : x.enc.all oneB = true), rfl, rfl, rfl⟩
def ordI (x y : Key) : Int := orI [cmpI x.head y.head, cmpI x.tunnel y.tunnel, cmpI x.tail y.tail, cmpI x.lsp y.lsp]
theorem ordI_lt (x y : Key) : ordI x y < 0 ↔ x.bef y = true := by rw [← ord_lt]; simp [ordI]
theorem ordI_eq (x y : Key) : ordI x y = 0 ↔ x = y := by
  unfold ordI
  cases x; cases y
  simp only [orI_cons, cmpI, show orI [] = 0 from rfl, Key.mk.injEq]
  grind
theorem find1_ok (x : En) (k : Key) (A : AH) : ACall Try.prog 58 [.agg x.enc.toArray, keyV k] A fun v A' => v = .int .i64 (ordI x.k k) ∧ Ext A A' := by
  have hobt := x.cells
  obtain ⟨hl, ho, h4, -, -⟩ := hobt
  refine code58.call (by simp) fun hwf => ?_
  unfold c58
  simp [hl, h4, keyV]
  refine CN.use (order_ok x.k k _) ?_
  rintro _ A2 hw2 hn2 ⟨x2, rfl⟩
  simp
  exact DN.of ⟨rfl, ((Ext.alloc A _).app (by simp) _).trans (by simp; omega) x2⟩
/-- Where a key stands, or would stand. -/
def PosP (L : List En) (k : Key) (p : Nat) : Prop := p ≤ L.length ∧ (∀ t (h : t < L.length), t < p → (L[t]).k.bef k = true) ∧ ∀ t (h : t < L.length), p ≤ t → (L[t]).k.bef k = false
def SrtE (L : List En) : Prop := L.Pairwise fun x y => x.k.bef y.k = true
theorem half64 (x : Nat) (hx : x < 1000000) : shrI .u64 (x : Int) 1 = ((x / 2 : Nat) : Int) := by
  unfold shrI
  rw [show min ((1 : Int).toNat) IntKind.u64.bits = 1 from rfl, Int.fdiv_eq_ediv_of_nonneg _ (by omega)]
  omega
end Go.Proofs.Ytieehccjajhpfaa.AC
