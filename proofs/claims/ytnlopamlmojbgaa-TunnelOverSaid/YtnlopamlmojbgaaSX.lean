/-
  What the law does.
-/
import Derived.Test.YtnlopamlmojbgaaCAL
import Derived.Test.YtnlopamlmojbgaaS3
set_option linter.unusedSimpArgs false
set_option linter.unusedVariables false
/- Tunnels: no path is another one; what is stopped. -/
namespace Go.Proofs.Ytnlopamlmojbgaa.AC
open Go Go.AI Go.Proofs Go.Proofs.Ytnlopamlmojbgaa.AQ
set_option linter.unusedVariables false
set_option linter.unusedSimpArgs false
def Ap (u v : Vw) : Prop := (u.now.k.lsp ≠ 0 → u.now.k.lsp ≠ v.now.k.lsp ∧ u.now.k.lsp ≠ v.new.k.lsp) ∧ (u.new.k.lsp ≠ 0 → u.new.k.lsp ≠ v.now.k.lsp ∧ u.new.k.lsp ≠ v.new.k.lsp)
theorem Ap.symm {u v : Vw} (h : Ap u v) : Ap v u := by unfold Ap at *; omega
structure KI (m : Mg) : Prop where
  pw : m.l.Pairwise Ap
  own : ∀ v ∈ m.l, v.new.k.lsp ≠ 0 → v.new.k.lsp ≠ v.now.k.lsp
  le : ∀ v ∈ m.l, v.now.k.lsp ≤ m.count ∧ v.new.k.lsp ≤ m.count
  pos : 0 ≤ m.count
theorem KI.ap {m : Mg} (h : KI m) {i j : Nat} {u v : Vw} (hu : m.l[i]? = some u) (hv : m.l[j]? = some v) (hij : i ≠ j) : Ap u v := by
  have hobt := List.getElem?_eq_some_iff.1 hu
  obtain ⟨hi, rfl⟩ := hobt
  have hobt := List.getElem?_eq_some_iff.1 hv
  obtain ⟨hj, rfl⟩ := hobt
  have hp := List.pairwise_iff_getElem.1 h.pw
  rcases Nat.lt_or_gt_of_ne hij with e | e
  · exact hp i j hi hj e
  · exact (hp j i hj hi e).symm
theorem KI.put {m : Mg} (h : KI m) {i : Nat} {v w : Vw} (hv : m.l[i]? = some v) (c : Int) (hc : m.count ≤ c)
    (h1 : w.now.k.lsp = 0 ∨ w.now.k.lsp = v.now.k.lsp ∨ w.now.k.lsp = v.new.k.lsp) (h2 : w.new.k.lsp = 0 ∨ w.new.k.lsp = v.new.k.lsp ∨ (m.count < w.new.k.lsp ∧ w.new.k.lsp ≤ c)) (h3 : w.new.k.lsp ≠ 0 → w.new.k.lsp ≠ w.now.k.lsp) : KI { m with l := m.l.set i w, count := c } := by
  have hvm := List.mem_of_getElem? hv
  have hpos := h.pos
  refine ⟨?_, fun u hu => ?_, fun u hu => ?_, by show 0 ≤ c; omega⟩
  · refine List.pairwise_iff_getElem.2 fun a b ha hb hab => ?_
    have key : ∀ (j : Nat) (u : Vw), m.l[j]? = some u → i ≠ j → Ap w u := fun j u hu hj => by
      have ha := h.ap hv hu hj
      have hb := h.le u (List.mem_of_getElem? hu)
      unfold Ap at ha ⊢
      omega
    simp only [List.length_set] at ha hb
    simp only [List.getElem_set]
    by_cases ea : i = a
    · have eb : i ≠ b := by omega
      rw [if_pos ea, if_neg eb]
      exact key b _ (List.getElem?_eq_getElem hb) eb
    · rw [if_neg ea]
      by_cases eb : i = b
      · rw [if_pos eb]; exact (key a _ (List.getElem?_eq_getElem ha) ea).symm
      · rw [if_neg eb]; exact List.pairwise_iff_getElem.1 h.pw a b ha hb hab
  · rcases List.mem_or_eq_of_mem_set hu with hu | hu
    · exact h.own u hu
    · rw [hu]; exact h3
  · have hl := h.le v hvm
    show u.now.k.lsp ≤ c ∧ u.new.k.lsp ≤ c
    rcases List.mem_or_eq_of_mem_set hu with hu | hu
    · have := h.le u hu; omega
    · rw [hu]; omega
theorem KI.same {m m' : Mg} (h : KI m) (hl : m'.l = m.l) (hc : m'.count = m.count) : KI m' := ⟨by rw [hl]; exact h.pw, by rw [hl]; exact h.own, by rw [hl, hc]; exact h.le, by rw [hc]; exact h.pos⟩
theorem Mg.stop_count (m : Mg) (tn : Int) (x : Ls) : (m.stop tn x).count = m.count := by unfold Mg.stop; split <;> rfl
theorem KI.put0 {m : Mg} (h : KI m) {i : Nat} {v w : Vw} (hv : m.l[i]? = some v) (h1 : w.now.k.lsp = 0 ∨ w.now.k.lsp = v.now.k.lsp ∨ w.now.k.lsp = v.new.k.lsp) (h2 : w.new.k.lsp = 0 ∨ w.new.k.lsp = v.new.k.lsp) (h3 : w.new.k.lsp ≠ 0 → w.new.k.lsp ≠ w.now.k.lsp) : KI (m.put i w) := h.put hv m.count (Int.le_refl _) h1 (by omega) h3
theorem KI.fails {m : Mg} (h : KI m) {i : Nat} {v w : Vw} (hv : m.l[i]? = some v) (h1 : w.now = v.now) (h2 : w.new = v.new ∨ w.new = lsZ) (now code : Int) : KI (m.fails i w now code) := by
  have ho := h.own v (List.mem_of_getElem? hv)
  unfold Mg.fails
  refine KI.same (m := m.put i { w with wait := now + w.back + m.head, back := min (2 * w.back) 8 }) (h.put0 hv (by rw [show ({ w with wait := now + w.back + m.head, back := min (2 * w.back) 8 } : Vw).now = v.now from h1]; omega) ?_ ?_) rfl rfl
  · rcases h2 with e | e
    · exact Or.inr (by rw [← e])
    · exact Or.inl (by show w.new.k.lsp = 0; rw [e]; rfl)
  · show w.new.k.lsp ≠ 0 → w.new.k.lsp ≠ w.now.k.lsp
    rcases h2 with e | e
    · rw [e, h1]; exact ho
    · rw [e]; intro hn; exact absurd rfl hn
theorem KI.tries {m : Mg} (h : KI m) {i : Nat} {v : Vw} (hv : m.l[i]? = some v) (hz : v.new.k.lsp = 0 ∨ True) (now : Int) (l : List Adv) : KI (m.tries i v now l) := by
  rcases m.tries_is i v now l with ⟨e, -, h2⟩ | ⟨r, -, -, h2⟩
  · rw [h2]; exact h.fails hv rfl (Or.inl rfl) _ _
  · rw [h2]
    have hle := h.le v (List.mem_of_getElem? hv)
    have hpos := h.pos
    refine KI.same (h.put hv (m.count + 1) (by omega) (w := { v with new := ⟨⟨v.tl, v.tn, m.head, m.count + 1⟩, v.w, r⟩, wait := now + 10 }) (Or.inr (Or.inl rfl)) (Or.inr (Or.inr ⟨by show m.count < m.count + 1; omega, by show m.count + 1 ≤ m.count + 1; omega⟩)) (by show m.count + 1 ≠ 0 → m.count + 1 ≠ v.now.k.lsp; omega)) rfl rfl
theorem Ap.bare {u v : Vw} (h1 : v.now.k.lsp = 0) (h2 : v.new.k.lsp = 0) : Ap u v := by unfold Ap; omega
theorem KI.insV {m : Mg} (h : KI m) (i : Nat) {v : Vw} (h1 : v.now.k.lsp = 0) (h2 : v.new.k.lsp = 0) : KI (m.insV i v) := by
  refine ⟨?_, fun u hu => ?_, fun u hu => ?_, h.pos⟩
  · show (m.l.take i ++ v :: m.l.drop i).Pairwise Ap
    have hp := h.pw
    rw [← List.take_append_drop i m.l] at hp
    have hobt := List.pairwise_append.1 hp
    obtain ⟨p1, p2, p3⟩ := hobt
    refine List.pairwise_append.2 ⟨p1, List.pairwise_cons.2 ⟨fun u _ => (Ap.bare h1 h2).symm, p2⟩, fun a ha b hb => ?_⟩
    rcases List.mem_cons.1 hb with e | e
    · rw [e]; exact Ap.bare h1 h2
    · exact p3 a ha b e
  · rcases List.mem_append.1 hu with e | e
    · exact h.own u (List.mem_of_mem_take e)
    · rcases List.mem_cons.1 e with e | e
      · rw [e, h2]; intro hn; exact absurd rfl hn
      · exact h.own u (List.mem_of_mem_drop e)
  · have hpos := h.pos
    show u.now.k.lsp ≤ m.count ∧ u.new.k.lsp ≤ m.count
    rcases List.mem_append.1 hu with e | e
    · exact h.le u (List.mem_of_mem_take e)
    · rcases List.mem_cons.1 e with e | e
      · rw [e]; omega
      · exact h.le u (List.mem_of_mem_drop e)
theorem KI.delV {m : Mg} (h : KI m) (i : Nat) : KI (m.delV i) := by
  have hs : (m.l.take i ++ m.l.drop (i + 1)).Sublist m.l := by
    have : (m.l.take i ++ m.l.drop (i + 1)).Sublist (m.l.take i ++ m.l.drop i) := List.Sublist.append (List.Sublist.refl _) (List.drop_sublist_drop_left _ (by omega))
    rwa [List.take_append_drop] at this
  exact ⟨h.pw.sublist hs, fun u hu => h.own u (hs.subset hu), fun u hu => h.le u (hs.subset hu), h.pos⟩
def Harm (N : List Ls) (acts : List Ac) : Prop := ∀ a ∈ acts, a.kind = 2 → ∀ s ∈ N, s.k.lsp ≠ 0 → s.k ≠ a.k
theorem Harm.nil (N : List Ls) : Harm N [] := fun a h => (List.not_mem_nil h).elim
theorem Harm.does {N : List Ls} {m : Mg} (h : Harm N m.acts) {a : Ac} (ha : a.kind = 2 → ∀ s ∈ N, s.k.lsp ≠ 0 → s.k ≠ a.k) : Harm N (m.does a).acts := fun b hb => by
  rcases List.mem_append.1 hb with hb | hb
  · exact h b hb
  · rw [List.mem_singleton.1 hb]; exact ha
theorem Harm.stop {N : List Ls} {m : Mg} (h : Harm N m.acts) {x : Ls} (hx : x.k.lsp ≠ 0 → ∀ s ∈ N, s.k.lsp ≠ 0 → s.k ≠ x.k) (tn : Int) : Harm N (m.stop tn x).acts := by
  unfold Mg.stop
  split
  · exact h
  · rename_i hz; exact h.does fun _ => hx hz
theorem Harm.fails {N : List Ls} {m : Mg} (h : Harm N m.acts) (i : Nat) (v : Vw) (now code : Int) : Harm N (m.fails i v now code).acts := h
theorem Harm.tries {N : List Ls} {m : Mg} (h : Harm N m.acts) (i : Nat) (v : Vw) (now : Int) (l : List Adv) : Harm N (m.tries i v now l).acts := by
  rcases m.tries_is i v now l with ⟨e, -, h2⟩ | ⟨r, -, -, h2⟩
  · rw [h2]; exact h
  · rw [h2]; exact Harm.does (m := Mg.put { m with count := m.count + 1 } i _) h fun hk => absurd hk (by simp)
def nows (m : Mg) : List Ls := m.l.map Vw.now
theorem KI.free {m : Mg} (h : KI m) {i : Nat} {v : Vw} (hv : m.l[i]? = some v) : v.new.k.lsp ≠ 0 → ∀ s ∈ nows m, s.k.lsp ≠ 0 → s.k ≠ v.new.k := fun hz s hs h0 e => by
  have hobt := List.mem_map.1 hs
  obtain ⟨u, hu, rfl⟩ := hobt
  have hobt := List.getElem?_of_mem hu
  obtain ⟨j, hj⟩ := hobt
  have e' : u.now.k.lsp = v.new.k.lsp := by rw [e]
  by_cases hij : i = j
  · subst hij; rw [hv] at hj; injection hj with hj; subst hj
    exact h.own v (List.mem_of_getElem? hv) hz e'.symm
  · have := h.ap hv hj hij
    unfold Ap at this; omega
theorem nows_put {m : Mg} {i : Nat} {v w : Vw} (hv : m.l[i]? = some v) (hw : w.now = v.now) : nows (m.put i w) = nows m := by
  show (m.l.set i w).map Vw.now = _
  rw [List.map_set]
  unfold nows
  apply List.ext_getElem?
  intro k
  rw [List.getElem?_set]
  split
  · rename_i e; subst e
    have hobt := List.getElem?_eq_some_iff.1 hv
    obtain ⟨hi, he⟩ := hobt
    rw [if_pos (by rw [List.length_map]; exact hi), List.getElem?_map, hv, hw]; rfl
  · rfl
theorem nows_fails {m : Mg} {i : Nat} {v w : Vw} (hv : m.l[i]? = some v) (hw : w.now = v.now) (now code : Int) : nows (m.fails i w now code) = nows m := nows_put hv hw
theorem nows_tries {m : Mg} {i : Nat} {v : Vw} (hv : m.l[i]? = some v) (now : Int) (l : List Adv) : nows (m.tries i v now l) = nows m := by
  rcases m.tries_is i v now l with ⟨e, -, h2⟩ | ⟨r, -, -, h2⟩
  · rw [h2]; exact nows_fails hv rfl _ _
  · rw [h2]; exact nows_put (m := { m with count := m.count + 1 }) hv rfl
theorem nows_stop (m : Mg) (tn : Int) (x : Ls) : nows (m.stop tn x) = nows m := by unfold nows; rw [Mg.stop_l]
structure TI (N : List Ls) (m : Mg) : Prop where
  ki : KI m
  harm : Harm N m.acts
  nows : nows m = N
theorem TI.lapse {N : List Ls} {m : Mg} (h : TI N m) (now : Int) {i : Nat} (hi : i < m.l.length) : TI N (m.lapse now i) := by
  have hv : m.l[i]? = some (m.l.getD i vwZ) := by rw [List.getD_eq_getElem?_getD, List.getElem?_eq_getElem hi]; rfl
  unfold Mg.lapse
  simp only
  split
  · obtain ⟨v, hvd⟩ : ∃ v, v = m.l.getD i vwZ := ⟨_, rfl⟩
    rw [← hvd] at hv ⊢
    have hv1 : (m.stop v.tn v.new).l[i]? = some v := by rw [Mg.stop_l]; exact hv
    have hv2 : ((m.stop v.tn v.new).put i { v with new := lsZ }).l[i]? = some { v with new := lsZ } := Mg.put_at hv1
    have k1 : KI (m.stop v.tn v.new) := h.ki.same (Mg.stop_l _ _ _) (Mg.stop_count _ _ _)
    have k2 := k1.put0 hv1 (w := { v with new := lsZ }) (Or.inr (Or.inl rfl)) (Or.inl rfl) (fun hn => absurd rfl hn)
    refine ⟨k2.fails hv2 rfl (Or.inl rfl) _ _, ?_, ?_⟩
    · refine Harm.stop h.harm ?_ _
      rw [← h.nows]; exact h.ki.free hv
    · rw [nows_fails hv2 (w := { v with new := lsZ }) rfl, nows_put hv1 (w := { v with new := lsZ }) rfl, nows_stop, h.nows]
  · exact h
theorem TI.retry {N : List Ls} {m : Mg} (h : TI N m) (now : Int) (l : List Adv) {i : Nat} (hi : i < m.l.length) : TI N (m.retry now l i) := by
  have hv : m.l[i]? = some (m.l.getD i vwZ) := by rw [List.getD_eq_getElem?_getD, List.getElem?_eq_getElem hi]; rfl
  unfold Mg.retry
  simp only
  split
  · exact ⟨h.ki.tries hv (Or.inr trivial) _ _, Harm.tries h.harm _ _ _ _, by rw [nows_tries hv, h.nows]⟩
  · exact h
theorem upto_len {f : Mg → Nat → Mg} (hf : ∀ (m : Mg) (i : Nat), i < m.l.length → (f m i).l.length = m.l.length) {Q : Mg → Prop} (hq : ∀ (m : Mg) (i : Nat), Q m → i < m.l.length → Q (f m i)) {m : Mg} (h : Q m) : ∀ i, i ≤ m.l.length → (upto f m i).l.length = m.l.length ∧ Q (upto f m i)
  | 0, _ => ⟨rfl, h⟩
  | i + 1, hi => by
    have hobt := upto_len hf hq h i (by omega)
    obtain ⟨h1, h2⟩ := hobt
    exact ⟨by show (f (upto f m i) i).l.length = _; rw [hf _ _ (by omega), h1], hq _ _ h2 (by omega)⟩
theorem Mg.lapse_len (now : Int) (m : Mg) (i : Nat) : (m.lapse now i).l.length = m.l.length := by
  unfold Mg.lapse
  simp only
  split
  · rw [Mg.fails_len]
    show ((m.stop _ _).l.set i _).length = _
    rw [List.length_set, Mg.stop_l]
  · rfl
theorem Mg.retry_len (now : Int) (l : List Adv) (m : Mg) (i : Nat) : (m.retry now l i).l.length = m.l.length := by
  unfold Mg.retry
  simp only
  split
  · rw [Mg.tries_len]
  · rfl
theorem KI.uniq {m : Mg} (h : KI m) {i : Nat} {u v : Vw} (hv : m.l[i]? = some v) (hu : u ∈ m.l) (h0 : u.now.k.lsp ≠ 0) (e : u.now.k = v.now.k) : u = v := by
  have hobt := List.getElem?_of_mem hu
  obtain ⟨j, hj⟩ := hobt
  have e' : u.now.k.lsp = v.now.k.lsp := by rw [e]
  by_cases hij : j = i
  · subst hij; rw [hv] at hj; injection hj with hj; exact hj.symm
  · have := h.ap hj hv hij
    unfold Ap at this; omega
def Over (m : Mg) (x : At) (acts : List Ac) : Prop := ∀ (k : Nat) (a : Ac) (v : Vw), acts[k]? = some a → a.kind = 2 → v ∈ m.l → v.now.k = a.k → v.now.k.lsp ≠ 0 → ∃ (j : Nat) (b : Ac), k = j + 1 ∧ acts[j]? = some b ∧ b.tn = v.tn ∧ ((b.kind = 3 ∧ b.k ≠ a.k) ∨ (b.kind = 4 ∧ ((x.kind % 6 = 0 ∧ x.e.k = a.k ∧ x.e.what = 2) ∨ (x.kind % 6 = 3 ∧ x.tn = v.tn))))
theorem Harm.over {m : Mg} {x : At} {acts : List Ac} (h : Harm (nows m) acts) : Over m x acts := fun k a v hk h2 hv he h0 => absurd he (h a (List.mem_of_getElem? hk) h2 v.now (List.mem_map_of_mem hv) h0)
theorem KI.bare {m : Mg} (h : KI m) {i : Nat} {v w : Vw} (hv : m.l[i]? = some v) (h1 : w.now.k.lsp = 0 ∨ w.now.k.lsp = v.now.k.lsp) (h2 : w.new.k.lsp = 0) : KI (m.put i w) := h.put0 hv (by omega) (Or.inl h2) (fun hn => absurd h2 hn)
theorem leave_acts {m : Mg} (i : Nat) (v : Vw) : (m.leave i v).acts = m.acts ++ (if v.now.k.lsp = 0 then [] else [⟨4, v.tn, kyZ, wtZ, []⟩, ⟨2, v.tn, v.now.k, wtZ, []⟩]) := by
  unfold Mg.leave Mg.stop
  split
  · simp [Mg.put]
  · simp [Mg.put, Mg.does]
theorem leave_count {m : Mg} (i : Nat) (v : Vw) : (m.leave i v).count = m.count := by
  unfold Mg.leave
  show ((if v.now.k.lsp = 0 then m else m.does ⟨4, v.tn, kyZ, wtZ, []⟩).stop v.tn v.now).count = _
  rw [Mg.stop_count]; split <;> rfl
theorem leave_l {m : Mg} (i : Nat) (v : Vw) : (m.leave i v).l = m.l.set i { v with now := lsZ } := by
  unfold Mg.leave
  show ((if v.now.k.lsp = 0 then m else m.does ⟨4, v.tn, kyZ, wtZ, []⟩).stop v.tn v.now).l.set i _ = _
  rw [Mg.stop_l]; split <;> rfl
theorem KI.leave {m : Mg} (h : KI m) {i : Nat} {v : Vw} (hv : m.l[i]? = some v) : KI (m.leave i v) := by
  have ho := h.own v (List.mem_of_getElem? hv)
  exact KI.same (h.put0 hv (w := { v with now := lsZ }) (Or.inl rfl) (Or.inr rfl) (fun hn => hn)) (leave_l i v) (leave_count i v)
theorem over_event {m : Mg} (h : KI m) (ha : m.acts = []) (now : Int) (e : Ev) (x : At) (hx : x.kind % 6 = 0) (hxe : x.e = e) : KI (m.event now e).1 ∧ Over m x (m.event now e).1.acts := by
  have stay : KI m ∧ Over m x m.acts := ⟨h, by rw [ha]; exact (Harm.nil _).over⟩
  unfold Mg.event
  split
  · exact stay
  split
  · exact stay
  rename_i i hi
  have hobt := ownI_at hi
  obtain ⟨v, hv, hh⟩ := hobt
  have hvm := List.mem_of_getElem? hv
  have hz : e.k.lsp ≠ 0 := by simp [hitB] at hh; exact hh.1
  simp only [at_getD hv]
  split
  · rename_i hc
    have hnz : v.new.k.lsp ≠ 0 := by rw [hc.2]; exact hz
    have ho := h.own v hvm hnz
    constructor
    · refine KI.same (h.put0 hv (w := { v with now := v.new, new := lsZ, back := 1 }) (Or.inr (Or.inr rfl)) (Or.inl rfl) (fun hn => absurd rfl hn)) ?_ ?_
      · unfold Mg.ups; rw [Mg.stop_l]; rfl
      · unfold Mg.ups; rw [Mg.stop_count]; rfl
    · have hacts : (m.ups i v now).acts = ⟨3, v.tn, v.new.k, wtZ, []⟩ :: (if v.now.k.lsp = 0 then [] else [⟨2, v.tn, v.now.k, wtZ, []⟩]) := by
        unfold Mg.ups Mg.stop
        split <;> simp [Mg.does, Mg.says, Mg.put, ha]
      rw [hacts]
      intro k a u hk h2 hu he h0
      match k, hk with
      | 0, hk => injection hk with hk; rw [← hk] at h2; exact absurd h2 (by simp)
      | 1, hk =>
        split at hk
        · cases hk
        · injection hk with hk
          rw [← hk] at he ⊢
          have huv := h.uniq hv hu h0 he
          exact ⟨0, _, rfl, rfl, by rw [huv], Or.inl ⟨rfl, fun e => ho (congrArg Ky.lsp e)⟩⟩
      | k + 2, hk =>
        split at hk
        · cases hk
        · cases hk
  split
  · have hv1 : (m.stop v.tn v.new).l[i]? = some v := by rw [Mg.stop_l]; exact hv
    have hv2 : ((m.stop v.tn v.new).put i { v with new := lsZ }).l[i]? = some { v with new := lsZ } := Mg.put_at hv1
    have k1 : KI (m.stop v.tn v.new) := h.same (Mg.stop_l _ _ _) (Mg.stop_count _ _ _)
    exact ⟨(k1.bare hv1 (w := { v with new := lsZ }) (Or.inr rfl) rfl).fails hv2 rfl (Or.inl rfl) _ _, Harm.over (Harm.stop (by rw [ha]; exact Harm.nil _) (h.free hv) _)⟩
  split
  · rename_i hc1 hc2 hc3
    have hnk : v.now.k = e.k := by
      simp [hitB] at hh
      rcases hh.2 with e1 | e1
      · exact e1
      · exact absurd ⟨hc3, e1⟩ hc2
    have hnz : v.now.k.lsp ≠ 0 := by rw [hnk]; exact hz
    have ho := h.own v hvm
    constructor
    · refine KI.same (h.put0 hv (w := { v with now := lsZ, wait := now + 1, back := 1 }) (Or.inl rfl) (Or.inr rfl) (fun hn => hn)) ?_ ?_
      · show (m.leave i v).l.set i _ = m.l.set i _
        rw [leave_l, List.set_set]
      · show (m.leave i v).count = _
        rw [leave_count]; rfl
    · show Over m x (m.leave i v).acts
      rw [leave_acts, ha, if_neg hnz]
      intro k a u hk h2 hu he h0
      match k, hk with
      | 0, hk => injection hk with hk; rw [← hk] at h2; exact absurd h2 (by simp)
      | 1, hk =>
        injection hk with hk
        rw [← hk] at he ⊢
        have huv := h.uniq hv hu h0 he
        exact ⟨0, _, rfl, rfl, by rw [huv], Or.inr ⟨rfl, Or.inl ⟨hx, by rw [hxe, hnk], by rw [hxe]; exact hc3⟩⟩⟩
      | k + 2, hk => cases hk
  · exact stay
theorem over_create {m : Mg} (h : KI m) (ha : m.acts = []) (now n tail : Int) (w : Wt) (l : List Adv) (x : At) : KI (m.create now n tail w l).1 ∧ Over m x (m.create now n tail w l).1.acts := by
  have stay : KI m ∧ Over m x m.acts := ⟨h, by rw [ha]; exact (Harm.nil _).over⟩
  unfold Mg.create
  split
  · exact stay
  split
  · exact stay
  split
  · exact stay
  have hi : KI (m.insV (posL m.l n) ⟨n, tail, w, lsZ, lsZ, now, 1⟩) := h.insV _ rfl rfl
  have hv : (m.insV (posL m.l n) ⟨n, tail, w, lsZ, lsZ, now, 1⟩).l[posL m.l n]? = some ⟨n, tail, w, lsZ, lsZ, now, 1⟩ := insV_at (posL_le _ _) _
  have ha2 : Harm (nows m) (m.insV (posL m.l n) ⟨n, tail, w, lsZ, lsZ, now, 1⟩).acts := by show Harm _ m.acts; rw [ha]; exact Harm.nil _
  simp only
  split
  · exact ⟨hi, ha2.over⟩
  · exact ⟨hi.tries hv (Or.inr trivial) _ _, (Harm.tries ha2 _ _ _ _).over⟩
theorem over_modify {m : Mg} (h : KI m) (ha : m.acts = []) (now n : Int) (w : Wt) (l : List Adv) (x : At) : KI (m.modify now n w l).1 ∧ Over m x (m.modify now n w l).1.acts := by
  have stay : KI m ∧ Over m x m.acts := ⟨h, by rw [ha]; exact (Harm.nil _).over⟩
  unfold Mg.modify
  split
  · exact stay
  split
  · exact stay
  rename_i hi
  have hobt := isL_at (by simpa using hi)
  obtain ⟨v, hv, -⟩ := hobt
  have hv1 : (m.stop v.tn v.new).l[posL m.l n]? = some v := by rw [Mg.stop_l]; exact hv
  have k1 : KI (m.stop v.tn v.new) := h.same (Mg.stop_l _ _ _) (Mg.stop_count _ _ _)
  have k2 := k1.bare hv1 (w := { v with w := w, new := lsZ, wait := now, back := 1 }) (Or.inr rfl) rfl
  have hm : Harm (nows m) ((m.stop v.tn v.new).put (posL m.l n) { v with w := w, new := lsZ, wait := now, back := 1 }).acts := Harm.stop (by rw [ha]; exact Harm.nil _) (h.free hv) _
  simp only [at_getD hv]
  split
  · exact ⟨k2.tries (Mg.put_at hv1) (Or.inr trivial) _ _, (Harm.tries hm _ _ _ _).over⟩
  · exact ⟨k2, hm.over⟩
theorem over_delete {m : Mg} (h : KI m) (ha : m.acts = []) (n : Int) (x : At) (hx : x.kind % 6 = 3) (hxn : x.tn = n) : KI (m.delete n).1 ∧ Over m x (m.delete n).1.acts := by
  unfold Mg.delete
  split
  · exact ⟨h, by rw [ha]; exact (Harm.nil _).over⟩
  rename_i hi
  have hobt := isL_at (by simpa using hi)
  obtain ⟨v, hv, htn⟩ := hobt
  simp only [at_getD hv]
  have hl := h.leave hv
  have hv1 : ((m.leave (posL m.l n) v).stop v.tn v.new).l[posL m.l n]? = some { v with now := lsZ } := by rw [Mg.stop_l]; exact Mg.leave_at hv
  have k1 : KI ((m.leave (posL m.l n) v).stop v.tn v.new) := hl.same (Mg.stop_l _ _ _) (Mg.stop_count _ _ _)
  refine ⟨(k1.bare hv1 (w := { v with now := lsZ, new := lsZ }) (Or.inl rfl) rfl).delV _, ?_⟩
  have hacts : ((((m.leave (posL m.l n) v).stop v.tn v.new).put (posL m.l n) { v with now := lsZ, new := lsZ }).delV (posL m.l n)).acts = (if v.now.k.lsp = 0 then [] else [⟨4, v.tn, kyZ, wtZ, []⟩, ⟨2, v.tn, v.now.k, wtZ, []⟩]) ++ (if v.new.k.lsp = 0 then [] else [⟨2, v.tn, v.new.k, wtZ, []⟩]) := by
    show ((m.leave (posL m.l n) v).stop v.tn v.new).acts = _
    unfold Mg.stop
    split
    · rename_i hz; rw [leave_acts, ha]; simp
    · rename_i hz; simp only [Mg.does]; rw [leave_acts, ha]; simp
  rw [hacts]
  have hfree := h.free hv
  intro k a u hk h2 hu he h0
  have hnew : ∀ a : Ac, a = ⟨2, v.tn, v.new.k, wtZ, []⟩ → v.new.k.lsp ≠ 0 → u.now.k = a.k → False := fun a e hz he => hfree hz u.now (List.mem_map_of_mem hu) h0 (by rw [he, e])
  by_cases hz : v.now.k.lsp = 0
  · rw [if_pos hz, List.nil_append] at hk
    split at hk
    · cases hk
    · rename_i hz2
      match k, hk with
      | 0, hk => injection hk with hk; exact (hnew a hk.symm hz2 he).elim
      | k + 1, hk => cases hk
  · rw [if_neg hz] at hk ⊢
    match k, hk with
    | 0, hk => injection hk with hk; rw [← hk] at h2; exact absurd h2 (by simp)
    | 1, hk =>
      injection hk with hk
      rw [← hk] at he ⊢
      have huv := h.uniq hv hu h0 he
      exact ⟨0, _, rfl, rfl, by rw [huv], Or.inr ⟨rfl, Or.inr ⟨hx, by rw [hxn, huv, htn]⟩⟩⟩
    | k + 2, hk =>
      split at hk
      · cases hk
      · rename_i hz2
        match k, hk with
        | 0, hk => injection hk with hk; exact (hnew a hk.symm hz2 he).elim
        | k + 1, hk => cases hk
theorem over_tick {m : Mg} (h : KI m) (ha : m.acts = []) (now : Int) (l : List Adv) (x : At) : KI (m.tick now l).1 ∧ Over m x (m.tick now l).1.acts := by
  unfold Mg.tick
  split
  · exact ⟨h, by rw [ha]; exact (Harm.nil _).over⟩
  · have t0 : TI (nows m) m := ⟨h, by rw [ha]; exact Harm.nil _, rfl⟩
    have hobt := upto_len (f := Mg.lapse now) (fun m i _ => Mg.lapse_len now m i) (Q := TI (nows m)) (fun m i hq hi => hq.lapse now hi) t0 m.l.length (Nat.le_refl _)
    obtain ⟨l1, t1⟩ := hobt
    have hobt := upto_len (f := Mg.retry now l) (fun m i _ => Mg.retry_len now l m i) (Q := TI (nows m)) (fun m i hq hi => hq.retry now l hi) t1 m.l.length (by omega)
    obtain ⟨l2, t2⟩ := hobt
    exact ⟨t2.ki, t2.harm.over⟩
theorem over_restart {m : Mg} (h : KI m) (ha : m.acts = []) (now : Int) (x : At) : KI (m.restart now).1 ∧ Over m x (m.restart now).1.acts := by
  unfold Mg.restart
  split
  · exact ⟨h, by rw [ha]; exact (Harm.nil _).over⟩
  · have t0 : KI { m with acts := [] } ∧ ({ m with acts := [] } : Mg).acts = [] := ⟨h.same rfl rfl, rfl⟩
    obtain ⟨-, t1, t2⟩ := upto_len (f := Mg.forget now) (fun m i _ => by
      unfold Mg.forget
      simp only
      show ((if _ then m else m.says _).l.set i _).length = _
      rw [List.length_set]; split <;> rfl) (Q := fun m => KI m ∧ m.acts = []) (fun m i hq hi => by
      have hv : m.l[i]? = some (m.l.getD i vwZ) := by rw [List.getD_eq_getElem?_getD, List.getElem?_eq_getElem hi]; rfl
      unfold Mg.forget
      simp only
      split
      · exact ⟨hq.1.bare hv (Or.inl rfl) rfl, hq.2⟩
      · exact ⟨KI.bare (m := m.says _) (hq.1.same rfl rfl) hv (Or.inl rfl) rfl, hq.2⟩) t0 m.l.length (Nat.le_refl _)
    exact ⟨t1, by
      show Over m x (upto (Mg.forget now) { m with acts := [] } m.l.length).acts
      rw [t2]; exact (Harm.nil _).over⟩
theorem over_act {m : Mg} (h : KI m) (ha : m.acts = []) (x : At) : KI (m.act x).1 ∧ Over m x (m.act x).1.acts := by
  have hmod : x.kind % 6 < 6 := Nat.mod_lt _ (by omega)
  have hobx : ∃ k, x.kind % 6 = k := ⟨_, rfl⟩
  obtain ⟨k, hk⟩ := hobx
  unfold Mg.act
  rw [hk]
  rw [hk] at hmod
  match k, hmod with
  | 0, _ => exact over_event h ha _ _ x hk rfl
  | 1, _ => exact over_create h ha _ _ _ _ _ x
  | 2, _ => exact over_modify h ha _ _ _ _ x
  | 3, _ => exact over_delete h ha _ x hk rfl
  | 4, _ => exact over_tick h ha _ _ x
  | 5, _ => exact over_restart h ha _ x
theorem Mg.act_room {m : Mg} (hm : m.wf) (x : At) {k : Nat} (h : m.room (k + 100)) : (m.act x).1.room k := by
  unfold Mg.act Mg.actK
  split
  · unfold Mg.event
    split
    · exact h.le (by omega)
    split
    · exact h.le (by omega)
    · simp only
      split
      · unfold Mg.ups
        exact (((((h.le (j := k + 3) (by omega)).put _ _).says (k := k + 2) _).does (k := k + 1) _).stop _ _)
      split
      · exact Mg.fails_room (((h.le (j := k + 2) (by omega)).stop (k := k + 1) _ _).put _ _) _ _ _ _
      split
      · exact (((h.le (j := k + 3) (by omega)).leave (k := k + 1) _ _).says _).put _ _
      · exact h.le (by omega)
  · unfold Mg.create
    split
    · exact h.le (by omega)
    split
    · exact h.le (by omega)
    split
    · exact h.le (by omega)
    · simp only
      split
      · exact Mg.room.le (k := k + 100) (m := m.insV _ _) h (by omega)
      · exact Mg.tries_room (Mg.room.le (k := k + 100) (m := m.insV _ _) h (by omega)) _ _ _ _
  · unfold Mg.modify
    split
    · exact h.le (by omega)
    split
    · exact h.le (by omega)
    · simp only
      split
      · exact Mg.tries_room (((h.le (j := k + 2) (by omega)).stop (k := k + 1) _ _).put _ _) _ _ _ _
      · exact ((h.le (j := k + 1) (by omega)).stop _ _).put _ _
  · unfold Mg.delete
    split
    · exact h.le (by omega)
    · simp only
      exact ((h.le (j := k + 3) (by omega)).leave (k := k + 1) (posL m.l x.tn) (m.l.getD (posL m.l x.tn) vwZ)).stop _ _
  · unfold Mg.tick
    split
    · exact h.le (by omega)
    · exact (Mg.in.tick hm _ _ (k := k) (h.le (by omega))).2.2
  · unfold Mg.restart
    split
    · exact h.le (by omega)
    · exact (Mg.in.restart hm _ (k := k) (h.le (by omega))).2.2
section
variable (z : AcM) (x : VwM) (y : AtM)
theorem ac_0 : z.enc[0]? = some (.int .i64 z.x.kind) := rfl
theorem ac_1 : z.enc[1]? = some (.int .i64 z.x.tn) := rfl
theorem ac_k : (z.enc.drop 2).take 4 = z.x.k.enc := rfl
theorem vw_nowk : (x.enc.drop 8).take 4 = x.now.s.k.enc := rfl
theorem vw_newk : (x.enc.drop 19).take 4 = x.new.s.k.enc := rfl
theorem vw_11 : x.enc[11]? = some (.int .i64 x.now.s.k.lsp) := rfl
theorem at_0 : y.enc[0]? = some (.int .u8 y.x.kind) := rfl
theorem at_2 : y.enc[2]? = some (.int .i64 y.x.tn) := rfl
theorem at_10 : y.enc[10]? = some (.int .i64 y.x.e.what) := rfl
theorem at_16 : y.enc[16]? = some (.slice y.a y.x.l.length y.c) := rfl
theorem at_k : (y.enc.drop 11).take 4 = y.x.e.k.enc := rfl
end
set_option maxRecDepth 20000 in
set_option maxHeartbeats 16000000 in
theorem over_walk {A : AH} (hd n : Int) {a : Option Addr} {c : Nat} {xs : List AtM} (hs : Sl A 54 17 a (xs.map AtM.enc)) (hy : ∀ y ∈ xs, y.ok A) :
    ACall Try.prog 4 [.agg (PlR hd n a xs.length c).toArray] A fun v A' => v = .bool true := by
  refine ACall.wf fun hwf => ?_
  have hobx : ∃ A1, A1 = A.alloc (.row [.int .i64 hd, .int .i64 n, .slice a xs.length c] 47 false) := ⟨_, rfl⟩
  obtain ⟨A1, hA1⟩ := hobx
  have w1 : A1.wf := by rw [hA1]; exact AH.wf_alloc hwf _
  have n1 : A1.next = A.next + 1 := by rw [hA1]; rfl
  have x1 : Ext A A1 := by rw [hA1]; exact Ext.alloc A _
  have g1 : A1.get A.next = some (.row [.int .i64 hd, .int .i64 n, .slice a xs.length c] 47 false) := by rw [hA1, AH.get_new]
  refine code4.call (by simp) fun hwf => ?_
  unfold c4
  simp [PlR, ← hA1]
  refine CN.use (alive_ok A1) ?_
  rintro _ A2 hw2 hn2 ⟨rfl, x2⟩
  have g2 := x2.get w1 g1
  have x02 := x1.trans (by omega) x2
  simp [g2]
  refine CN.use (new_ok hd n A2) ?_
  rintro _ A3 hw3 hn3 ⟨x3, ⟨e, rfl⟩ | ⟨hnb, mb, hmb, rfl, h3⟩⟩
  · have g3 := x3.get hw2 g2
    have hne := newB_false e
    by_cases k1 : n < 1
    · simp [g3, k1]
      exact DN.of rfl
    by_cases k2 : 16 < n
    · simp [g3, k1, k2]
      exact DN.of rfl
    by_cases k3 : hd < 0
    · simp [g3, k1, k2, k3]
      exact DN.of rfl
    have k4 : n ≤ hd := by omega
    simp [g3, k1, k2, k3, k4]
    exact DN.of rfl
  simp
  refine LN.use (fun k E A' => ∃ (i : Nat) (ps : List Nat) (m : Mg), k + i = xs.length + 1 ∧ i ≤ xs.length ∧ i ≤ 60 ∧ (∀ b, b < A2.next → A'.get b = A2.get b) ∧ A2.next ≤ A'.next ∧ MP A2.next A' mb ps m ∧ m.wf ∧ m.acts = [] ∧ KI m ∧ m.room (100 * (61 - i)) ∧ E.get 1 = .pointer (some ⟨A.next, 0, none⟩) ∧ E.get 3 = .pointer (some ⟨mb, 0, none⟩) ∧ E.get 4 = .int .i64 i) (xs.length + 1)
    ⟨0, [], mgN hd n, by omega, by omega, by omega, x3, by omega, h3, mgN_wf hnb, rfl, ⟨List.Pairwise.nil, by simp [mgN], by simp [mgN], by simp [mgN]⟩, by exact ⟨by show 0 + _ ≤ 100000; omega, by show 0 + _ ≤ 100000; omega⟩, by simp, by simp, by simp⟩ ?_
  rintro k E A4 hw4 hn4 ⟨i, ps, m, hk, hile, hi60, lo4, n4, h4, hm, ha, hki, hroom, E1, E3, E4⟩
  have g4 : A4.get A.next = some (.row [.int .i64 hd, .int .i64 n, .slice a xs.length c] 47 false) := by rw [lo4 _ (by omega)]; exact g2
  by_cases hlt : i < xs.length
  rotate_left
  · have hlt' : ¬ (i : Int) < xs.length := by omega
    simp [E1, E3, E4, g4, hlt']
    exact DN.of rfl
  have hlt' : (i : Int) < xs.length := by omega
  by_cases h60 : i < 60
  rotate_left
  · have h60' : ¬ (i : Int) < 60 := by omega
    simp [E1, E3, E4, g4, hlt, hlt', h60']
    exact DN.of rfl
  have h60' : (i : Int) < 60 := by omega
  have hgi : IntKind.i64.wrap ((i : Int) + 1) = ((i + 1 : Nat) : Int) := by rw [i64_in (by omega) (by omega)]; simp
  have hobx : ∃ y, y = xs[i] := ⟨_, rfl⟩
  obtain ⟨y, hyd⟩ := hobx
  have hyo := hy y (by rw [hyd]; exact List.getElem_mem hlt)
  have hobt := (hs.ext hwf x02).at (i := i) (by simpa using hlt)
  obtain ⟨b, o, cs, q, hab, u1, u2, u3⟩ := hobt
  rw [List.getElem_map, ← hyd] at u3
  have hb2 : b < A2.next := hw2 _ _ u1
  have u14 : A4.get b = some (.row cs q.1 q.2) := by rw [lo4 b hb2]; exact u1
  have yl : y.enc.length = 17 := rfl
  have yt : y.enc.take 17 = y.enc := rfl
  have yo : ∀ v ∈ y.enc, oneB v = true := List.all_eq_true.1 (rfl : y.enc.all oneB = true)
  have hobx : ∃ A5, A5 = A4.alloc (.row y.enc 54 false) := ⟨_, rfl⟩
  obtain ⟨A5, hA5⟩ := hobx
  have w5 : A5.wf := by rw [hA5]; exact AH.wf_alloc hw4 _
  have n5 : A5.next = A4.next + 1 := by rw [hA5]; rfl
  have x5 : Ext A4 A5 := by rw [hA5]; exact Ext.alloc A4 _
  have gy5 : A5.get A4.next = some (.row y.enc 54 false) := by rw [hA5, AH.get_new]
  have e16 : y.enc[16]'(by omega) = .slice y.a y.x.l.length y.c := rfl
  have lo5 : ∀ b, b < A2.next → A5.get b = A2.get b := fun b hb => by rw [x5 b (by omega), lo4 b hb]
  have h5 := h4.ext hw4 x5
  by_cases h100 : 100 < y.x.l.length
  · have h100' : (100 : Int) < y.x.l.length := by omega
    simp [E1, E3, E4, g4, hlt, hlt', h60', hab, u14, u2, u3, yl, yt, ← hA5, gy5, e16, h100', hgi]
    refine ⟨yo, ?_⟩
    exact NX.of ⟨k - 1, by omega, i + 1, ps, m, by omega, by omega, by omega, lo5, by omega, h5, hm, ha, hki, hroom.le (by omega), by simp [E1], by simp [E3], by simp⟩
  have h100' : ¬ (100 : Int) < y.x.l.length := by omega
  simp [E1, E3, E4, g4, hlt, hlt', h60', hab, u14, u2, u3, yl, yt, ← hA5, gy5, e16, h100']
  refine ⟨yo, ?_⟩
  refine CN.use (tunnels_ok h5 hm) ?_
  rintro _ A6 hw6 hn6 ⟨x6, vs, a6, c6, rfl, hvs, s6⟩
  have h6 := h5.ext w5 x6
  have lo6 : ∀ b, b < A2.next → A6.get b = A2.get b := fun b hb => by rw [x6 b (by omega), lo5 b hb]
  have gy6 := x6.get w5 gy5
  have yo6 : y.ok A6 := hyo.low (fun b hb => by rw [lo6 b (by omega), x02 b hb]) hwf
  have hr100 : m.room 100 := hroom.le (by omega)
  simp [E3, gy6, yl, yt]
  refine CN.use (act_ok h6 hm y yo6 (by omega) hr100 (by omega)) ?_
  rintro _ A7 hw7 hn7 ⟨⟨ps7, h7⟩, rfl, f7⟩
  have wf7 := Mg.act_wf hm y.x hyo.2.2.1 hr100
  have r7 : (m.act y.x).1.room (100 * (61 - (i + 1))) := Mg.act_room hm y.x (hroom.le (by omega))
  have hobt := over_act hki ha y.x
  obtain ⟨k7, ov7⟩ := hobt
  have hobx : ∃ M, M = (m.act y.x).1 := ⟨_, rfl⟩
  obtain ⟨M, hM⟩ := hobx
  rw [← hM] at h7 wf7 r7 k7 ov7
  have lo7 := f7.low lo6
  have gy7 : A7.get A4.next = some (.row y.enc 54 false) := by rw [f7.2 _ _ _ _ gy6 (by unfold OwnT; decide) (by decide), gy6]
  have s7 : VwsM A7 a6 vs := by
    have hi : ∀ b cs ro, A6.get b = some (.row cs 3 ro) → A7.get b = A6.get b := fun b cs ro g => f7.2 b cs _ ro g (by unfold OwnT; decide) (by decide)
    exact ⟨s6.1.kept fun b o y e _ => by obtain ⟨cs, ro, g⟩ := s6.2.2 b o e; exact f7.2 b cs _ ro g (by unfold OwnT; decide) (by decide), fun x hx => ⟨(s6.2.1 x hx).1.int hi, (s6.2.1 x hx).2.int hi⟩, fun b o e => by obtain ⟨cs, ro, g⟩ := s6.2.2 b o e; exact ⟨cs, ro, (f7.2 b cs _ ro g (by unfold OwnT; decide) (by decide)).trans g⟩⟩
  simp [E3]
  refine CN.use (tunnels_ok h7 wf7) ?_
  rintro _ A8 hw8 hn8 ⟨x8, ws, a8, c8, rfl, hws, s8⟩
  have h8 := h7.ext hw7 x8
  have gy8 := x8.get hw7 gy7
  have lo8 : ∀ b, b < A2.next → A8.get b = A2.get b := fun b hb => by rw [x8 b (by omega), lo7 b hb]
  simp [E3]
  refine CN.use (actions_ok h8 wf7) ?_
  rintro _ A9 hw9 hn9 ⟨o9, h9, acs, a9, c9, rfl, hacs, s9, -⟩
  have wf9 : Mg.wf { M with acts := [] } := ⟨wf7.hd, wf7.n, wf7.cnt, wf7.vs, wf7.len⟩
  have k9 : KI { M with acts := [] } := k7.same rfl rfl
  have r9 : Mg.room { M with acts := [] } (100 * (61 - (i + 1))) := ⟨by show 0 + _ ≤ 100000; omega, r7.2⟩
  have f9 := o9.frL h8
  have lo9 := f9.low lo8
  have n9 : A2.next ≤ A9.next := by omega
  have gy9 : A9.get A4.next = some (.row y.enc 54 false) := by rw [f9.2 _ _ _ _ gy8 (by unfold OwnT; decide) (by decide), gy8]
  have sv9 : Sl A9 64 32 a6 (vs.map VwM.enc) := (s7.1.ext hw7 x8).kept fun b o y e _ => by obtain ⟨cs, ro, g⟩ := s7.2.2 b o e; exact f9.2 b cs _ ro (x8.get hw7 g) (by unfold OwnT; decide) (by decide)
  have sw9 : Sl A9 64 32 a8 (ws.map VwM.enc) := s8.1.kept fun b o y e _ => by obtain ⟨cs, ro, g⟩ := s8.2.2 b o e; exact f9.2 b cs _ ro g (by unfold OwnT; decide) (by decide)
  have hvl : vs.length ≤ 16 := by have := congrArg List.length hvs; have := hm.len; simp at *; omega
  have hwl : ws.length ≤ 16 := by have := congrArg List.length hws; have := wf7.len; simp at *; omega
  have hal : acs.length ≤ 100000 := by have := congrArg List.length hacs; have := r7.1; simp at *; omega
  simp
  refine LN.use (fun k E A' => ∃ (j : Nat) (e9 e10 : Value), k + j = acs.length ∧ Ext A9 A' ∧ A9.next ≤ A'.next ∧ E.get 1 = .pointer (some ⟨A.next, 0, none⟩) ∧ E.get 3 = .pointer (some ⟨mb, 0, none⟩) ∧ E.get 4 = .int .i64 i ∧ E.get 5 = .pointer (some ⟨A4.next, 0, none⟩) ∧ E.get 6 = .slice a6 vs.length c6 ∧ E.get 7 = .slice a8 ws.length c8 ∧ E.get 8 = .slice a9 acs.length c9 ∧ E.get 77 = .slice a9 acs.length c9 ∧ E.get 78 = .int .i64 acs.length ∧ E.get 79 = .int .i64 j) acs.length
    ⟨0, undef, undef, by omega, Ext.refl _, Nat.le_refl _, by simp [E1], by simp [E3], by simp [E4], by simp, by simp, by simp, by simp, by simp, by simp, by simp⟩ ?_
  clear E1 E3 E4 E
  rintro k2 E A10 hw10 hn10 ⟨j, -, -, hj, x10, n10, E1, E3, E4, E5, E6, E7, E8, E77, E78, E79⟩
  by_cases hja : j < acs.length
  rotate_left
  · have hja' : ¬ (j : Int) < acs.length := by omega
    simp [E7, E78, E79, hja']
    refine LN.use (fun k E A' => ∃ (t : Nat), k + t = ws.length ∧ Ext A9 A' ∧ A9.next ≤ A'.next ∧ E.get 1 = .pointer (some ⟨A.next, 0, none⟩) ∧ E.get 3 = .pointer (some ⟨mb, 0, none⟩) ∧ E.get 4 = .int .i64 i ∧ E.get 204 = .slice a8 ws.length c8 ∧ E.get 205 = .int .i64 ws.length ∧ E.get 206 = .int .i64 t) ws.length
      ⟨0, by omega, x10, n10, by simp [E1], by simp [E3], by simp [E4], by simp [E7], by simp, by simp⟩ ?_
    clear E1 E3 E4 E5 E6 E7 E8 E77 E78 E79 E
    rintro k3 E A11 hw11 hn11 ⟨t, ht, x11, n11, E1, E3, E4, E204, E205, E206⟩
    by_cases hlt3 : t < ws.length
    rotate_left
    · have hlt3' : ¬ (t : Int) < ws.length := by omega
      simp [E4, E205, E206, hlt3', hgi]
      exact NX.of ⟨k - 1, by omega, i + 1, ps7, _, by omega, by omega, by omega, fun b hb => by rw [x11 b (by omega), lo9 b hb], by omega, h9.ext hw9 x11, wf9, rfl, k9, r9, by simp [E1], by simp [E3], by simp⟩
    have hlt3' : (t : Int) < ws.length := by omega
    have hgt : IntKind.i64.wrap ((t : Int) + 1) = ((t + 1 : Nat) : Int) := by rw [i64_in (by omega) (by omega)]; simp
    have hobx : ∃ x, x = ws[t] := ⟨_, rfl⟩
    obtain ⟨x, hxd⟩ := hobx
    have hxm : x.v ∈ M.l := by rw [← hws, hxd]; exact List.mem_map_of_mem (List.getElem_mem hlt3)
    have hown := k7.own _ hxm
    have hobt := (sw9.ext hw9 x11).at (i := t) (by simpa using hlt3)
    obtain ⟨bx, ox, csx, qx, rfl, gx1, gx2, gx3⟩ := hobt
    rw [List.getElem_map, ← hxd] at gx3
    have xl := vw_len x
    have xo := vw_one x
    have xt := vw_take x
    have hobx : ∃ A12, A12 = A11.alloc (.row x.enc 64 false) := ⟨_, rfl⟩
    obtain ⟨A12, hA12⟩ := hobx
    have n12 : A12.next = A11.next + 1 := by rw [hA12]; rfl
    have x12 : Ext A11 A12 := by rw [hA12]; exact Ext.alloc A11 _
    have gx12 : A12.get A11.next = some (.row x.enc 64 false) := by rw [hA12, AH.get_new]
    have e11 : x.enc[11]'(by rw [vw_len]; omega) = .int .i64 x.now.s.k.lsp := rfl
    have en : (x.enc.drop 8).take 4 = x.now.s.k.enc := rfl
    have ew : (x.enc.drop 19).take 4 = x.new.s.k.enc := rfl
    have x912 := x11.trans (by omega) x12
    by_cases q0 : x.now.s.k.lsp = 0
    · simp [E204, E205, E206, hlt3, hlt3', gx1, gx2, gx3, xl, xt, ← hA12, gx12, e11, q0, hgt]
      refine ⟨xo, ?_⟩
      exact NX.of ⟨k3 - 1, by omega, t + 1, by omega, x912, by omega, by simp [E1], by simp [E3], by simp [E4], by simp [E204], by simp [E205], by simp⟩
    have hne : ¬ x.now.s.k = x.new.s.k := fun e => by
      have e' : x.new.s.k.lsp = x.now.s.k.lsp := by rw [e]
      exact hown (by show x.new.s.k.lsp ≠ 0; omega) e'
    simp [E204, E205, E206, hlt3, hlt3', gx1, gx2, gx3, xl, xt, ← hA12, gx12, e11, q0, en, ew, hne, hgt]
    refine ⟨xo, ?_⟩
    exact NX.of ⟨k3 - 1, by omega, t + 1, by omega, x912, by omega, by simp [E1], by simp [E3], by simp [E4], by simp [E204], by simp [E205], by simp⟩
  have hja' : (j : Int) < acs.length := by omega
  have hgj : IntKind.i64.wrap ((j : Int) + 1) = ((j + 1 : Nat) : Int) := by rw [i64_in (by omega) (by omega)]; simp
  have hobx : ∃ z, z = acs[j] := ⟨_, rfl⟩
  obtain ⟨z, hzd⟩ := hobx
  have hza : M.acts[j]? = some z.x := by rw [← hacs, List.getElem?_map, List.getElem?_eq_getElem hja, ← hzd]; rfl
  have s10 := s9.ext hw9 x10
  have hobt := s10.at (i := j) (by simpa using hja)
  obtain ⟨bz, oz, csz, qz, hbz, gz1, gz2, gz3⟩ := hobt
  rw [List.getElem_map, ← hzd] at gz3
  have hobt := z.cells
  obtain ⟨zl, zo, zt⟩ := hobt
  have z0 : z.enc[0]'(by omega) = .int .i64 z.x.kind := rfl
  have zk : (z.enc.drop 2).take 4 = z.x.k.enc := rfl
  have hobx : ∃ A11, A11 = A10.alloc (.row z.enc 60 false) := ⟨_, rfl⟩
  obtain ⟨A11, hA11⟩ := hobx
  have w11 : A11.wf := by rw [hA11]; exact AH.wf_alloc hw10 _
  have n11 : A11.next = A10.next + 1 := by rw [hA11]; rfl
  have x11 : Ext A10 A11 := by rw [hA11]; exact Ext.alloc A10 _
  have gz11 : A11.get A10.next = some (.row z.enc 60 false) := by rw [hA11, AH.get_new]
  have x911 := x10.trans (by omega) x11
  by_cases hk2 : z.x.kind = 2
  rotate_left
  · simp [E8, E77, E78, E79, hja, hja', hbz, gz1, gz2, gz3, zl, zt, ← hA11, gz11, z0, hk2, hgj]
    refine ⟨zo, ?_⟩
    exact NX.of ⟨k2 - 1, by omega, j + 1, undef, undef, by omega, x911, by omega, by simp [E1], by simp [E3], by simp [E4], by simp [E5], by simp [E6], by simp [E7], by simp [E8, hbz], by simp [E77, hbz], by simp [E78], by simp⟩
  simp [E6, E8, E77, E78, E79, hja, hja', hbz, gz1, gz2, gz3, zl, zt, ← hA11, gz11, z0, hk2]
  refine ⟨zo, ?_⟩
  refine LN.use (fun k E A' => ∃ (t : Nat), k + t = vs.length ∧ Ext A11 A' ∧ A11.next ≤ A'.next ∧ E.get 1 = .pointer (some ⟨A.next, 0, none⟩) ∧ E.get 3 = .pointer (some ⟨mb, 0, none⟩) ∧ E.get 4 = .int .i64 i ∧ E.get 5 = .pointer (some ⟨A4.next, 0, none⟩) ∧ E.get 6 = .slice a6 vs.length c6 ∧ E.get 7 = .slice a8 ws.length c8 ∧ E.get 8 = .slice a9 acs.length c9 ∧ E.get 9 = .int .i64 j ∧ E.get 10 = .pointer (some ⟨A10.next, 0, none⟩) ∧ E.get 77 = .slice a9 acs.length c9 ∧ E.get 78 = .int .i64 acs.length ∧ E.get 79 = .int .i64 j ∧ E.get 87 = .slice a6 vs.length c6 ∧ E.get 88 = .int .i64 vs.length ∧ E.get 89 = .int .i64 t) vs.length
    ⟨0, by omega, Ext.refl _, Nat.le_refl _, by simp [E1], by simp [E3], by simp [E4], by simp [E5], by simp [E6], by simp [E7], by simp [E8, hbz], by simp, by simp, by simp [E77, hbz], by simp [E78], by simp [E79], by simp, by simp, by simp⟩ ?_
  clear E1 E3 E4 E5 E6 E7 E8 E77 E78 E79 E
  rintro k3 E A12 hw12 hn12 ⟨t, ht, x12, n12, E1, E3, E4, E5, E6, E7, E8, E9, E10, E77, E78, E79, E87, E88, E89⟩
  have x912 := x911.trans (by omega) x12
  by_cases hlt3 : t < vs.length
  rotate_left
  · have hlt3' : ¬ (t : Int) < vs.length := by omega
    simp [E79, E88, E89, hlt3', hgj]
    exact NX.of ⟨k2 - 1, by omega, j + 1, undef, undef, by omega, x912, by omega, by simp [E1], by simp [E3], by simp [E4], by simp [E5], by simp [E6], by simp [E7], by simp [E8], by simp [E77], by simp [E78], by simp⟩
  have hlt3' : (t : Int) < vs.length := by omega
  have hgt : IntKind.i64.wrap ((t : Int) + 1) = ((t + 1 : Nat) : Int) := by rw [i64_in (by omega) (by omega)]; simp
  have hobx : ∃ x, x = vs[t] := ⟨_, rfl⟩
  obtain ⟨x, hxd⟩ := hobx
  have hxm : x.v ∈ m.l := by rw [← hvs, hxd]; exact List.mem_map_of_mem (List.getElem_mem hlt3)
  have hobt := (sv9.ext hw9 x912).at (i := t) (by simpa using hlt3)
  obtain ⟨bx, ox, csx, qx, hbx, gx1, gx2, gx3⟩ := hobt
  rw [List.getElem_map, ← hxd] at gx3
  have xl := vw_len x
  have xo := vw_one x
  have xt := vw_take x
  have hobx : ∃ A13, A13 = A12.alloc (.row x.enc 64 false) := ⟨_, rfl⟩
  obtain ⟨A13, hA13⟩ := hobx
  have n13 : A13.next = A12.next + 1 := by rw [hA13]; rfl
  have x13 : Ext A12 A13 := by rw [hA13]; exact Ext.alloc A12 _
  have gx13 : A13.get A12.next = some (.row x.enc 64 false) := by rw [hA13, AH.get_new]
  have e11 : x.enc[11]'(by rw [vw_len]; omega) = .int .i64 x.now.s.k.lsp := rfl
  have e0 : x.enc[0]'(by rw [vw_len]; omega) = .int .i64 x.tn := rfl
  have en : (x.enc.drop 8).take 4 = x.now.s.k.enc := rfl
  have gz13 := x13.get hw12 (x12.get w11 gz11)
  have hbx' : bx < A12.next := hw12 _ _ gx1
  have nxt : ∀ {E : Env}, E.get 1 = .pointer (some ⟨A.next, 0, none⟩) → True := fun _ => trivial
  by_cases q1 : x.now.s.k = z.x.k
  rotate_left
  · simp [E10, E87, E88, E89, hlt3, hlt3', hbx, gx1, gx2, gx3, xl, xt, ← hA13, gx13, gz13, zl, zk, en, q1, hgt]
    refine ⟨xo, ?_⟩
    exact NX.of ⟨k3 - 1, by omega, t + 1, by omega, x12.trans (by omega) x13, by omega, by simp [E1], by simp [E3], by simp [E4], by simp [E5], by simp [E6, hbx], by simp [E7], by simp [E8], by simp [E9], by simp [E10], by simp [E77], by simp [E78], by simp [E79], by simp [E87, hbx], by simp [E88], by simp⟩
  by_cases q0 : x.now.s.k.lsp = 0
  · have q0z : z.x.k.lsp = 0 := by rw [← q1]; exact q0
    simp [E10, E87, E88, E89, hlt3, hlt3', hbx, gx1, gx2, gx3, xl, xt, ← hA13, gx13, gz13, zl, zk, en, q1, e11, q0, q0z, hgt]
    refine ⟨xo, ?_⟩
    exact NX.of ⟨k3 - 1, by omega, t + 1, by omega, x12.trans (by omega) x13, by omega, by simp [E1], by simp [E3], by simp [E4], by simp [E5], by simp [E6, hbx], by simp [E7], by simp [E8, hbz], by simp [E9], by simp [E10], by simp [E77, hbz], by simp [E78], by simp [E79], by simp [E87, hbx], by simp [E88], by simp⟩
  have q0z : ¬ z.x.k.lsp = 0 := by rw [← q1]; exact q0
  have hobt := ov7 j z.x x.v hza hk2 hxm q1 q0
  obtain ⟨j', bp, hjj, hbp, htn, hov⟩ := hobt
  have hjl : j' < acs.length := by omega
  have hobx : ∃ w, w = acs[j'] := ⟨_, rfl⟩
  obtain ⟨w, hwd⟩ := hobx
  have hwx : w.x = bp := by
    rw [← hacs, List.getElem?_map, List.getElem?_eq_getElem hjl, ← hwd] at hbp
    injection hbp
  have hjN : 0 < j := by omega
  have hj0 : ¬ j = 0 := by omega
  have hgj' : IntKind.i64.wrap ((j : Int) - 1) = (j' : Int) := by rw [i64_in (by omega) (by omega)]; omega
  have hobt := s10.at (i := j') (by simpa using hjl)
  obtain ⟨bw, ow, csw, qw, hbw, gw1, gw2, gw3⟩ := hobt
  rw [hbz] at hbw; injection hbw with hbw; injection hbw with hb1 ho1 _; subst hb1; subst ho1
  rw [gz1] at gw1; injection gw1 with gw1; injection gw1 with gw1 _ _; subst gw1
  rw [List.getElem_map, ← hwd] at gw3
  have d0 := at_cell (i := 0) gw3 (by omega)
  have d1 := at_cell (i := 1) gw3 (by omega)
  have dk := at_part (i := 2) (n := 4) gw3 (by omega)
  rw [show w.enc[0]? = some (.int .i64 bp.kind) by rw [← hwx]; rfl] at d0
  rw [show w.enc[1]? = some (.int .i64 x.tn) by rw [show x.tn = bp.tn from htn.symm, ← hwx]; rfl] at d1
  rw [show (w.enc.drop 2).take 4 = bp.k.enc by rw [← hwx]; rfl] at dk
  have dl : oz + j' * 13 + 2 + 4 ≤ csz.length := by omega
  have gz913 := (x11.trans (by omega) (x12.trans (by omega) x13)).get hw10 gz1
  have gy13 := (x912.trans (by omega) x13).get hw9 gy9
  have y0 : y.enc[0]'(by omega) = .int .u8 y.x.kind := rfl
  have y2 : y.enc[2]'(by omega) = .int .i64 y.x.tn := rfl
  have y10 : y.enc[10]'(by omega) = .int .i64 y.x.e.what := rfl
  have yk : (y.enc.drop 11).take 4 = y.x.e.k.enc := rfl
  have hk6 := hyo.2.2.2
  have hobx : ∃ k6, k6 = y.x.kind % 6 := ⟨_, rfl⟩
  obtain ⟨k6, hk6d⟩ := hobx
  have hm6 : k6 < 6 := by rw [hk6d]; exact Nat.mod_lt _ (by omega)
  have hkm : ((y.x.kind : Int).tmod 6) = (k6 : Int) := by rw [Int.tmod_eq_emod_of_nonneg (by omega)]; omega
  have hku : IntKind.u8.wrap (k6 : Int) = (k6 : Int) := by
    have : k6 = 0 ∨ k6 = 1 ∨ k6 = 2 ∨ k6 = 3 ∨ k6 = 4 ∨ k6 = 5 := by omega
    rcases this with e | e | e | e | e | e <;> rw [e] <;> rfl
  rw [← hk6d] at hov
  simp only [Nat.add_zero] at d0
  rcases hov with ⟨c1, c2⟩ | ⟨c1, ⟨c2, c3, c4⟩ | ⟨c2, c3⟩⟩
  · by_cases p1 : k6 = 0
    · by_cases p2 : y.x.e.k = z.x.k
      · by_cases p3 : y.x.e.what = 2
        · simp [E5, E8, E9, E10, E87, E88, E89, hlt3, hlt3', hbx, gx1, gx2, gx3, xl, xt, ← hA13, gx13, gz13, gy13, yl, zl, zk, en, e11, e0, q1, q0, q0z, hgt, hgj', hjN, hj0, hbz, gz913, hjl, d0, d1, dk, dl, hkm, hku, y0, y2, y10, yk, c1, c2, p1, p2, p3]
          refine ⟨xo, ?_⟩
          exact NX.of ⟨k3 - 1, by omega, t + 1, by omega, x12.trans (by omega) x13, by omega, by simp [E1], by simp [E3], by simp [E4], by simp [E5], by simp [E6, hbx], by simp [E7], by simp [E8, hbz], by simp [E9], by simp [E10], by simp [E77, hbz], by simp [E78], by simp [E79], by simp [E87, hbx], by simp [E88], by simp⟩
        · simp [E5, E8, E9, E10, E87, E88, E89, hlt3, hlt3', hbx, gx1, gx2, gx3, xl, xt, ← hA13, gx13, gz13, gy13, yl, zl, zk, en, e11, e0, q1, q0, q0z, hgt, hgj', hjN, hj0, hbz, gz913, hjl, d0, d1, dk, dl, hkm, hku, y0, y2, y10, yk, c1, c2, p1, p2, p3]
          refine ⟨xo, ?_⟩
          exact NX.of ⟨k3 - 1, by omega, t + 1, by omega, x12.trans (by omega) x13, by omega, by simp [E1], by simp [E3], by simp [E4], by simp [E5], by simp [E6, hbx], by simp [E7], by simp [E8, hbz], by simp [E9], by simp [E10], by simp [E77, hbz], by simp [E78], by simp [E79], by simp [E87, hbx], by simp [E88], by simp⟩
      · simp [E5, E8, E9, E10, E87, E88, E89, hlt3, hlt3', hbx, gx1, gx2, gx3, xl, xt, ← hA13, gx13, gz13, gy13, yl, zl, zk, en, e11, e0, q1, q0, q0z, hgt, hgj', hjN, hj0, hbz, gz913, hjl, d0, d1, dk, dl, hkm, hku, y0, y2, y10, yk, c1, c2, p1, p2]
        refine ⟨xo, ?_⟩
        exact NX.of ⟨k3 - 1, by omega, t + 1, by omega, x12.trans (by omega) x13, by omega, by simp [E1], by simp [E3], by simp [E4], by simp [E5], by simp [E6, hbx], by simp [E7], by simp [E8, hbz], by simp [E9], by simp [E10], by simp [E77, hbz], by simp [E78], by simp [E79], by simp [E87, hbx], by simp [E88], by simp⟩
    · have p1I : ¬ (k6 : Int) = 0 := by omega
      by_cases r1 : k6 = 3
      · by_cases r2 : y.x.tn = x.tn
        · simp [E5, E8, E9, E10, E87, E88, E89, hlt3, hlt3', hbx, gx1, gx2, gx3, xl, xt, ← hA13, gx13, gz13, gy13, yl, zl, zk, en, e11, e0, q1, q0, q0z, hgt, hgj', hjN, hj0, hbz, gz913, hjl, d0, d1, dk, dl, hkm, hku, y0, y2, y10, yk, c1, c2, r1, r2]
          refine ⟨xo, ?_⟩
          exact NX.of ⟨k3 - 1, by omega, t + 1, by omega, x12.trans (by omega) x13, by omega, by simp [E1], by simp [E3], by simp [E4], by simp [E5], by simp [E6, hbx], by simp [E7], by simp [E8, hbz], by simp [E9], by simp [E10], by simp [E77, hbz], by simp [E78], by simp [E79], by simp [E87, hbx], by simp [E88], by simp⟩
        · simp [E5, E8, E9, E10, E87, E88, E89, hlt3, hlt3', hbx, gx1, gx2, gx3, xl, xt, ← hA13, gx13, gz13, gy13, yl, zl, zk, en, e11, e0, q1, q0, q0z, hgt, hgj', hjN, hj0, hbz, gz913, hjl, d0, d1, dk, dl, hkm, hku, y0, y2, y10, yk, c1, c2, r1, r2]
          refine ⟨xo, ?_⟩
          exact NX.of ⟨k3 - 1, by omega, t + 1, by omega, x12.trans (by omega) x13, by omega, by simp [E1], by simp [E3], by simp [E4], by simp [E5], by simp [E6, hbx], by simp [E7], by simp [E8, hbz], by simp [E9], by simp [E10], by simp [E77, hbz], by simp [E78], by simp [E79], by simp [E87, hbx], by simp [E88], by simp⟩
      · have r1I : ¬ (k6 : Int) = 3 := by omega
        simp [E5, E8, E9, E10, E87, E88, E89, hlt3, hlt3', hbx, gx1, gx2, gx3, xl, xt, ← hA13, gx13, gz13, gy13, yl, zl, zk, en, e11, e0, q1, q0, q0z, hgt, hgj', hjN, hj0, hbz, gz913, hjl, d0, d1, dk, dl, hkm, hku, y0, y2, y10, yk, c1, c2, p1, r1, p1I, r1I]
        refine ⟨xo, ?_⟩
        exact NX.of ⟨k3 - 1, by omega, t + 1, by omega, x12.trans (by omega) x13, by omega, by simp [E1], by simp [E3], by simp [E4], by simp [E5], by simp [E6, hbx], by simp [E7], by simp [E8, hbz], by simp [E9], by simp [E10], by simp [E77, hbz], by simp [E78], by simp [E79], by simp [E87, hbx], by simp [E88], by simp⟩
  · simp [E5, E8, E9, E10, E87, E88, E89, hlt3, hlt3', hbx, gx1, gx2, gx3, xl, xt, ← hA13, gx13, gz13, gy13, yl, zl, zk, en, e11, e0, q1, q0, q0z, hgt, hgj', hjN, hj0, hbz, gz913, hjl, d0, d1, dk, dl, hkm, hku, y0, y2, y10, yk, c1, c2, c3, c4]
    refine ⟨xo, ?_⟩
    exact NX.of ⟨k3 - 1, by omega, t + 1, by omega, x12.trans (by omega) x13, by omega, by simp [E1], by simp [E3], by simp [E4], by simp [E5], by simp [E6, hbx], by simp [E7], by simp [E8, hbz], by simp [E9], by simp [E10], by simp [E77, hbz], by simp [E78], by simp [E79], by simp [E87, hbx], by simp [E88], by simp⟩
  · have c3' : y.x.tn = x.tn := c3
    simp [E5, E8, E9, E10, E87, E88, E89, hlt3, hlt3', hbx, gx1, gx2, gx3, xl, xt, ← hA13, gx13, gz13, gy13, yl, zl, zk, en, e11, e0, q1, q0, q0z, hgt, hgj', hjN, hj0, hbz, gz913, hjl, d0, d1, dk, dl, hkm, hku, y0, y2, y10, yk, c1, c2, c3']
    refine ⟨xo, ?_⟩
    exact NX.of ⟨k3 - 1, by omega, t + 1, by omega, x12.trans (by omega) x13, by omega, by simp [E1], by simp [E3], by simp [E4], by simp [E5], by simp [E6, hbx], by simp [E7], by simp [E8, hbz], by simp [E9], by simp [E10], by simp [E77, hbz], by simp [E78], by simp [E79], by simp [E87, hbx], by simp [E88], by simp⟩
end Go.Proofs.Ytnlopamlmojbgaa.AC
