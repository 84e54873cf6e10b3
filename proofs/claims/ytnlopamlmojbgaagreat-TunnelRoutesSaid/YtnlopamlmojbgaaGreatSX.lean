/-
  What the law does.
-/
import Derived.Test.YtnlopamlmojbgaaGreatCAL
import Derived.Test.YtnlopamlmojbgaaGreatS3
set_option linter.unusedSimpArgs false
set_option linter.unusedVariables false
/- The document's manager: a value. -/
namespace Go.Proofs.YtnlopamlmojbgaaGreat.AC
open Go Go.AI Go.Proofs Go.Proofs.YtnlopamlmojbgaaGreat.AQ
set_option linter.unusedVariables false
set_option linter.unusedSimpArgs false
structure RgM where
  hd : Int
  n : Int
  xs : List VwM
  la : Option Addr
  lc : Nat
  cnt : Int
  acs : List AcM
  aa : Option Addr
  ac : Nat
  lns : List Li
  na : Option Addr
  nc : Nat
def RgM.enc (R : RgM) : List Value := [.int .i64 R.hd, .int .i64 R.n, .slice R.la R.xs.length R.lc, .int .i64 R.cnt, .slice R.aa R.acs.length R.ac, .slice R.na R.lns.length R.nc]
def RgM.m (R : RgM) : Mg := ⟨R.hd, R.n, R.xs.map VwM.v, R.cnt, R.acs.map AcM.x, R.lns⟩
structure RgM.ok (A : AH) (R : RgM) : Prop where
  l : Sl A 107 32 R.la (R.xs.map VwM.enc)
  lo : ∀ x ∈ R.xs, x.ok A
  a : Sl A 102 13 R.aa (R.acs.map AcM.enc)
  ao : ∀ x ∈ R.acs, x.ok A
  n : Sl A 104 4 R.na (R.lns.map Li.enc)
  tl : ∀ b o, R.la = some ⟨b, o, none⟩ → ∃ cs ro, A.get b = some (.row cs 107 ro)
  ta : ∀ b o, R.aa = some ⟨b, o, none⟩ → ∃ cs ro, A.get b = some (.row cs 102 ro)
  tn : ∀ b o, R.na = some ⟨b, o, none⟩ → ∃ cs ro, A.get b = some (.row cs 104 ro)
theorem RgM.ok.keep {A A' : AH} {R : RgM} (h : R.ok A) (hf : ∀ k cs T ro, A.get k = some (.row cs T ro) → T = 107 ∨ T = 102 ∨ T = 104 ∨ T = 3 → A'.get k = A.get k) : R.ok A' := by
  have hi : ∀ b cs ro, A.get b = some (.row cs 3 ro) → A'.get b = A.get b := fun b cs ro g => hf b cs _ ro g (Or.inr (Or.inr (Or.inr rfl)))
  refine ⟨h.l.kept fun b o y e _ => ?_, fun x hx => ⟨(h.lo x hx).1.int hi, (h.lo x hx).2.int hi⟩, h.a.kept fun b o y e _ => ?_, fun x hx => (h.ao x hx).int hi, h.n.kept fun b o y e _ => ?_, fun b o e => ?_, fun b o e => ?_, fun b o e => ?_⟩
  · obtain ⟨cs, ro, g⟩ := h.tl b o e; exact hf b cs _ ro g (Or.inl rfl)
  · obtain ⟨cs, ro, g⟩ := h.ta b o e; exact hf b cs _ ro g (Or.inr (Or.inl rfl))
  · obtain ⟨cs, ro, g⟩ := h.tn b o e; exact hf b cs _ ro g (Or.inr (Or.inr (Or.inl rfl)))
  · obtain ⟨cs, ro, g⟩ := h.tl b o e; exact ⟨cs, ro, (hf b cs _ ro g (Or.inl rfl)).trans g⟩
  · obtain ⟨cs, ro, g⟩ := h.ta b o e; exact ⟨cs, ro, (hf b cs _ ro g (Or.inr (Or.inl rfl))).trans g⟩
  · obtain ⟨cs, ro, g⟩ := h.tn b o e; exact ⟨cs, ro, (hf b cs _ ro g (Or.inr (Or.inr (Or.inl rfl)))).trans g⟩
theorem RgM.ok.box {A : AH} {R : RgM} (h : R.ok A) {c : Nat} {cs : List Value} {T : TypeId} {ro : Bool} (hg : A.get c = some (.row cs T ro)) (hT : T ≠ 107 ∧ T ≠ 102 ∧ T ≠ 104 ∧ T ≠ 3) (x : Blk) : R.ok (A.set c x) := h.keep fun k cs' T' ro' g ht => by
  rw [AH.get_set, if_neg]
  intro e; subst e
  rw [hg] at g; injection g with g; injection g with _ g _
  subst g
  rcases ht with e | e | e | e
  · exact hT.1 e
  · exact hT.2.1 e
  · exact hT.2.2.1 e
  · exact hT.2.2.2 e
theorem RgM.ok.ext {A A' : AH} {R : RgM} (h : R.ok A) (hw : A.wf) (hx : Ext A A') : R.ok A' := h.keep fun k cs T ro g _ => hx k (hw _ _ g)
def RgM.lb (R : RgM) (c : Nat) : Prop := ∀ o, R.la ≠ some ⟨c, o, none⟩
def RgP (A : AH) (R0 : RgM) (m : Mg) (r : Value) (A' : AH) : Prop := Ext A A' ∧ ∃ R : RgM, r = .agg R.enc.toArray ∧ R.ok A' ∧ R.m = m ∧ ∀ c, c < A.next → R0.lb c → R.lb c
def putW (v : Vw) : List Vw → Bool → List Vw
  | [], laid => if laid then [] else [v]
  | u :: l, laid => (if laid = false ∧ v.tn ≤ u.tn then [v] else []) ++ ((if u.tn ≠ v.tn then [u] else []) ++ putW v l (laid || decide (v.tn ≤ u.tn)))
def putR (m : Mg) (v : Vw) : Mg := { m with l := putW v m.l false }
def Mg.rfails (m : Mg) (v : Vw) (now code : Int) : Mg := (putR m { v with wait := now + v.back + m.head, back := min (2 * v.back) 8 }).says ⟨now, v.tn, 3, code⟩
noncomputable def Mg.rtries (m : Mg) (v : Vw) (now : Int) (l : List Adv) : Mg :=
  if (FN m.n l (askV v) m.head v.tl).1 ≠ 0 then m.rfails v now (FN m.n l (askV v) m.head v.tl).1
  else if 65535 ≤ m.count then m.rfails v now 7
  else (putR { m with count := m.count + 1 } { v with new := ⟨⟨v.tl, v.tn, m.head, m.count + 1⟩, v.w, (FN m.n l (askV v) m.head v.tl).2⟩, wait := now + 10 }).does ⟨1, v.tn, ⟨v.tl, v.tn, m.head, m.count + 1⟩, v.w, (FN m.n l (askV v) m.head v.tl).2⟩
theorem RgM.ok.fr {A A' : AH} {R : RgM} (h : R.ok A) (hf : ∀ k cs T ro, A.get k = some (.row cs T ro) → T = 107 ∨ T = 102 ∨ T = 104 ∨ T = 3 → A'.get k = A.get k) : R.ok A' := h.keep hf
theorem ownN_no {v : Vw} (h : ¬ v.now.w.hold ≤ v.w.setup) (k : Nat) : ownN v k = [] := by unfold ownN; rw [if_neg h]
theorem ownN_one (v : Vw) : ownN v 1 = [] := by unfold ownN; split <;> rfl
theorem ownN_zero (v : Vw) : ownN v 0 = [] := by unfold ownN; split <;> rfl
structure RgM.fit (R : RgM) : Prop where
  xs2 : R.xs.length ≤ 400
  acs : R.acs.length ≤ 80000
  lns : R.lns.length ≤ 80000
  hd : 0 ≤ R.hd ∧ R.hd < 16
  cnt : 0 ≤ R.cnt ∧ R.cnt ≤ 65535
  vs : ∀ x ∈ R.xs, (0 ≤ x.back ∧ x.back ≤ 8) ∧ x.v.wf
theorem RgM.fit.xs {R : RgM} (h : R.fit) : R.xs.length ≤ 1000 := by have := h.xs2; omega
theorem RgP.m_len {R' : RgM} {m : Mg} (hm : R'.m = m) : R'.acs.length = m.acts.length ∧ R'.lns.length = m.lines.length ∧ R'.xs.length = m.l.length ∧ R'.hd = m.head ∧ R'.n = m.n ∧ R'.cnt = m.count := by
  subst hm; simp [RgM.m]
structure Mg.fit (m : Mg) : Prop where
  len : m.l.length ≤ 400
  acs : m.acts.length ≤ 80000
  lns : m.lines.length ≤ 80000
  hd : 0 ≤ m.head ∧ m.head < 16
  cnt : 0 ≤ m.count ∧ m.count ≤ 65535
  vs : ∀ v ∈ m.l, v.wf
def Mg.rlapse (now : Int) (L : List Vw) (m : Mg) (i : Nat) : Mg :=
  if lateB (L.getD i vwZ) now = true then (m.does ⟨2, (L.getD i vwZ).tn, (L.getD i vwZ).new.k, wtZ, []⟩).rfails { L.getD i vwZ with new := lsZ } now 17 else m
noncomputable def Mg.rretry (now : Int) (l : List Adv) (L : List Vw) (m : Mg) (i : Nat) : Mg :=
  if lacksB (L.getD i vwZ) = true ∧ (L.getD i vwZ).wait ≤ now ∧ busyB m = false then m.rtries (L.getD i vwZ) now l else m
noncomputable def Mg.rtick (m : Mg) (now : Int) (l : List Adv) : Mg × Int :=
  if mayB now = false then (m, 2) else
  (upto (Mg.rretry now l (upto (Mg.rlapse now m.l) m m.l.length).l) (upto (Mg.rlapse now m.l) m m.l.length) (upto (Mg.rlapse now m.l) m m.l.length).l.length, 0)
def Mg.rforget (now : Int) (L : List Vw) (m : Mg) (i : Nat) : Mg :=
  putR (if (L.getD i vwZ).now.k.lsp = 0 then m else m.says ⟨now, (L.getD i vwZ).tn, 2, 17⟩) { L.getD i vwZ with now := lsZ, new := lsZ, wait := now + 1, back := 1 }
def Mg.rrestart (m : Mg) (now : Int) : Mg × Int :=
  if mayB now = false then (m, 2) else (upto (Mg.rforget now m.l) { m with acts := [] } m.l.length, 0)
def tns (m : Mg) : List Int := m.l.map Vw.tn
def Srt (m : Mg) : Prop := m.l.Pairwise fun u v => u.tn < v.tn
theorem Srt.iff {m : Mg} : Srt m ↔ (tns m).Pairwise (· < ·) := by unfold Srt tns; rw [List.pairwise_map]
theorem Srt.of {m m' : Mg} (h : Srt m) (e : tns m' = tns m) : Srt m' := by rw [Srt.iff, e, ← Srt.iff]; exact h
theorem putW_true {v : Vw} : ∀ {l : List Vw}, (∀ u ∈ l, u.tn ≠ v.tn) → putW v l true = l
  | [], _ => rfl
  | u :: l, h => by
    have hu := h u List.mem_cons_self
    simp only [putW]
    rw [if_neg (by simp), if_pos hu, Bool.true_or, putW_true fun w hw => h w (List.mem_cons_of_mem _ hw)]; rfl
theorem putW_set {v u : Vw} : ∀ {l : List Vw} {i : Nat}, l.Pairwise (fun u v => u.tn < v.tn) → l[i]? = some u → v.tn = u.tn → putW v l false = l.set i v
  | [], i, _, h, _ => by simp at h
  | w :: l, 0, hp, h, e => by
    injection h with h; subst h
    have hobt := List.pairwise_cons.1 hp
    obtain ⟨h1, -⟩ := hobt
    simp only [putW]
    rw [if_pos (by simp; omega), if_neg (by omega), show (false || decide (v.tn ≤ w.tn)) = true by simp; omega, putW_true fun x hx => by have := h1 x hx; omega]; rfl
  | w :: l, i + 1, hp, h, e => by
    have hobt := List.pairwise_cons.1 hp
    obtain ⟨h1, h2⟩ := hobt
    have h : l[i]? = some u := by simpa using h
    have hw := h1 u (List.mem_of_getElem? h)
    simp only [putW]
    rw [if_neg (by omega), if_pos (by omega), show (false || decide (v.tn ≤ w.tn)) = false by simp; omega, putW_set h2 h e]; rfl
theorem putW_ins {v : Vw} : ∀ {l : List Vw}, l.Pairwise (fun u v => u.tn < v.tn) → (∀ u ∈ l, u.tn ≠ v.tn) → putW v l false = l.take (posL l v.tn) ++ v :: l.drop (posL l v.tn)
  | [], _, _ => rfl
  | w :: l, hp, h => by
    have hobt := List.pairwise_cons.1 hp
    obtain ⟨h1, h2⟩ := hobt
    have hw := h w List.mem_cons_self
    have hl : ∀ u ∈ l, u.tn ≠ v.tn := fun u hu => h u (List.mem_cons_of_mem _ hu)
    simp only [putW, posL]
    by_cases e : w.tn < v.tn
    · rw [if_neg (by omega), if_pos hw, show (false || decide (v.tn ≤ w.tn)) = false by simp; omega, putW_ins h2 hl, if_pos e]; rfl
    · rw [if_pos (by simp; omega), if_pos hw, show (false || decide (v.tn ≤ w.tn)) = true by simp; omega, putW_true hl, if_neg e]; rfl
theorem pos_at {u : Vw} : ∀ {l : List Vw} {i : Nat}, l.Pairwise (fun u v => u.tn < v.tn) → l[i]? = some u → posL l u.tn = i
  | [], i, _, h => by simp at h
  | w :: l, 0, hp, h => by
    injection h with h; subst h
    simp only [posL]; rw [if_neg (by omega)]
  | w :: l, i + 1, hp, h => by
    have hobt := List.pairwise_cons.1 hp
    obtain ⟨h1, h2⟩ := hobt
    have h : l[i]? = some u := by simpa using h
    have hw := h1 u (List.mem_of_getElem? h)
    simp only [posL]; rw [if_pos hw, pos_at h2 h]
theorem isL_of {l : List Vw} {i : Nat} {u : Vw} (hp : l.Pairwise (fun u v => u.tn < v.tn)) (h : l[i]? = some u) : isL l u.tn = true := by
  unfold isL; rw [pos_at hp h, h]; simp
structure Like (m m' : Mg) (i : Nat) (t : Int) : Prop where
  n : m'.n = m.n
  hd : m'.head = m.head
  cnt : m'.count = m.count
  acts : m'.acts = m.acts
  lines : m'.lines = m.lines
  put : ∀ w : Vw, w.tn = t → putW w m.l false = m'.l.set i w
theorem Like.putR {m m' : Mg} {i : Nat} {t : Int} (h : Like m m' i t) {w : Vw} (hw : w.tn = t) : putR m w = m'.put i w := by
  unfold AC.putR Mg.put; rw [h.put w hw, h.n, h.hd, h.cnt, h.acts, h.lines]
theorem Like.self {m : Mg} (h : Srt m) {i : Nat} {u : Vw} (hu : m.l[i]? = some u) : Like m m i u.tn := ⟨rfl, rfl, rfl, rfl, rfl, fun w hw => putW_set h hu hw⟩
theorem Like.ins {m : Mg} (h : Srt m) {v : Vw} (hv : isL m.l v.tn = false) : Like m (m.insV (posL m.l v.tn) v) (posL m.l v.tn) v.tn := ⟨rfl, rfl, rfl, rfl, rfl, fun w hw => by
  have hn : ∀ u ∈ m.l, u.tn ≠ w.tn := fun u hu e => by
    have hobt := List.getElem?_of_mem hu
    obtain ⟨j, hj⟩ := hobt
    have := isL_of h hj
    rw [e, hw, hv] at this; cases this
  rw [putW_ins h hn, hw]
  show _ = (m.l.take _ ++ v :: m.l.drop _).set _ w
  rw [List.set_append_right _ _ (by rw [List.length_take]; exact Nat.min_le_left _ _), List.length_take, Nat.min_eq_left (posL_le _ _), Nat.sub_self]; rfl⟩
theorem Like.fails {m m' : Mg} {i : Nat} {v : Vw} (h : Like m m' i v.tn) (now code : Int) : m.rfails v now code = m'.fails i v now code := by
  unfold Mg.rfails Mg.fails
  rw [h.hd, h.putR (w := { v with wait := now + v.back + m.head, back := min (2 * v.back) 8 }) rfl]
theorem Like.up {m m' : Mg} {i : Nat} {t : Int} (h : Like m m' i t) : Like { m with count := m.count + 1 } { m' with count := m'.count + 1 } i t := ⟨h.n, h.hd, by show m'.count + 1 = m.count + 1; rw [h.cnt], h.acts, h.lines, h.put⟩
theorem Like.tries {m m' : Mg} {i : Nat} {v : Vw} (h : Like m m' i v.tn) (now : Int) (l : List Adv) : m.rtries v now l = m'.tries i v now l := by
  unfold Mg.rtries Mg.tries
  simp only
  rw [h.n, h.hd, h.cnt]
  have hobx : ∃ f, f = FN m.n l (askV v) m.head v.tl := ⟨_, rfl⟩
  obtain ⟨f, hf⟩ := hobx
  rw [← hf]
  by_cases h0 : f.1 = 0
  · by_cases h7 : 65535 ≤ m.count
    · rw [if_neg (by simp [h0]), if_pos h7, if_pos (show f.1 = 0 ∧ 65535 ≤ m.count from ⟨h0, h7⟩), if_pos (by decide), h.fails]
    · rw [if_neg (by simp [h0]), if_neg h7, if_neg (show ¬ (f.1 = 0 ∧ 65535 ≤ m.count) from fun x => h7 x.2), if_neg (by simp [h0])]
      have hu := h.up.putR (w := { v with new := ⟨⟨v.tl, v.tn, m.head, m.count + 1⟩, v.w, f.2⟩, wait := now + 10 }) rfl
      rw [h.cnt, h.n, h.hd] at hu
      rw [hu]
  · rw [if_pos h0, if_neg (show ¬ (f.1 = 0 ∧ 65535 ≤ m.count) from fun x => h0 x.1), if_pos h0, h.fails]
theorem stop_yes {m : Mg} {tn : Int} {x : Ls} (h : x.k.lsp ≠ 0) : m.stop tn x = m.does ⟨2, tn, x.k, wtZ, []⟩ := if_neg h
theorem Srt.same {m m' : Mg} (h : Srt m) (e : m'.l = m.l) : Srt m' := by unfold Srt; rw [e]; exact h
theorem fails_put {m : Mg} {i : Nat} {v w : Vw} (now code : Int) : (m.put i w).fails i v now code = m.fails i v now code := by
  unfold Mg.fails
  rw [show (m.put i w).head = m.head from rfl, Mg.put_put]
theorem Srt.put {m : Mg} (h : Srt m) {i : Nat} {v w : Vw} (hv : m.l[i]? = some v) (e : w.tn = v.tn) : Srt (m.put i w) := by
  refine h.of ?_
  show (m.l.set i w).map Vw.tn = m.l.map Vw.tn
  apply List.ext_getElem?
  intro k
  rw [List.map_set, List.getElem?_set]
  split
  · rename_i e2; subst e2
    rw [if_pos (by rw [List.length_map]; exact (List.getElem?_eq_some_iff.1 hv).1), List.getElem?_map, hv, e]; rfl
  · rfl
theorem Srt.fails {m : Mg} (h : Srt m) {i : Nat} {v w : Vw} (hv : m.l[i]? = some v) (e : w.tn = v.tn) (now c : Int) : Srt (m.fails i w now c) := (h.put hv (w := { w with wait := now + w.back + m.head, back := min (2 * w.back) 8 }) e).same rfl
theorem Srt.tries {m : Mg} (h : Srt m) {i : Nat} {v : Vw} (hv : m.l[i]? = some v) (now : Int) (l : List Adv) : Srt (m.tries i v now l) := by
  rcases m.tries_is i v now l with ⟨e, -, h2⟩ | ⟨r, -, -, h2⟩
  · rw [h2]; exact h.fails hv rfl _ _
  · rw [h2]; exact Srt.same (m := m.put i { v with new := ⟨⟨v.tl, v.tn, m.head, m.count + 1⟩, v.w, r⟩, wait := now + 10 }) (h.put hv rfl) rfl
theorem Srt.insV {m : Mg} (h : Srt m) {v : Vw} (hv : isL m.l v.tn = false) : Srt (m.insV (posL m.l v.tn) v) := by
  have hn : ∀ u ∈ m.l, u.tn ≠ v.tn := fun u hu e => by
    have hobt := List.getElem?_of_mem hu
    obtain ⟨j, hj⟩ := hobt
    have := isL_of h hj
    rw [e, hv] at this; cases this
  have key : ∀ l : List Vw, l.Pairwise (fun u v => u.tn < v.tn) → (∀ u ∈ l, u.tn ≠ v.tn) → (l.take (posL l v.tn) ++ v :: l.drop (posL l v.tn)).Pairwise (fun u v => u.tn < v.tn) := fun l => by
    induction l with
    | nil => intro _ _; simp [posL]
    | cons w l ih =>
      intro hp hn
      have hobt := List.pairwise_cons.1 hp
      obtain ⟨h1, h2⟩ := hobt
      have hw := hn w List.mem_cons_self
      have hl : ∀ u ∈ l, u.tn ≠ v.tn := fun u hu => hn u (List.mem_cons_of_mem _ hu)
      simp only [posL]
      by_cases e : w.tn < v.tn
      · rw [if_pos e]
        refine List.pairwise_cons.2 ⟨fun u hu => ?_, ih h2 hl⟩
        rcases List.mem_append.1 hu with hu | hu
        · exact h1 u (List.mem_of_mem_take hu)
        · rcases List.mem_cons.1 hu with hu | hu
          · rw [hu]; exact e
          · exact h1 u (List.mem_of_mem_drop hu)
      · rw [if_neg e]
        refine List.pairwise_cons.2 ⟨fun u hu => ?_, hp⟩
        rcases List.mem_cons.1 hu with hu | hu
        · rw [hu]; omega
        · have := h1 u hu; omega
  exact key m.l h hn
theorem Srt.delV {m : Mg} (h : Srt m) (i : Nat) : Srt (m.delV i) := by
  have hs : (m.l.take i ++ m.l.drop (i + 1)).Sublist m.l := by
    have : (m.l.take i ++ m.l.drop (i + 1)).Sublist (m.l.take i ++ m.l.drop i) := List.Sublist.append (List.Sublist.refl _) (List.drop_sublist_drop_left _ (by omega))
    rwa [List.take_append_drop] at this
  exact List.Pairwise.sublist hs h
theorem Srt.stop {m : Mg} (h : Srt m) (tn : Int) (x : Ls) : Srt (m.stop tn x) := h.same (Mg.stop_l m tn x)
theorem leave_is (m : Mg) (i : Nat) (v : Vw) : m.leave i v = (if v.now.k.lsp = 0 then m else (m.does ⟨4, v.tn, kyZ, wtZ, []⟩).does ⟨2, v.tn, v.now.k, wtZ, []⟩).put i { v with now := lsZ } := by
  unfold Mg.leave Mg.stop
  split <;> rfl
theorem upto_eq {f g : Mg → Nat → Mg} {m : Mg} {L : List Vw} (hL : m.l = L) (hs : Srt m) (step : ∀ (M : Mg) (i : Nat) (v : Vw), Srt M → L[i]? = some v → M.l[i]? = some v → f M i = g M i ∧ Srt (g M i) ∧ ∃ w, (g M i).l = M.l.set i w ∨ (g M i).l = M.l) : ∀ i, i ≤ L.length → upto f m i = upto g m i ∧ Srt (upto g m i) ∧ ∀ j, i ≤ j → (upto g m i).l[j]? = L[j]?
  | 0, _ => ⟨rfl, hs, fun j _ => by show m.l[j]? = _; rw [hL]⟩
  | i + 1, hi => by
    have hobt := upto_eq hL hs step i (by omega)
    obtain ⟨h1, h2, h3⟩ := hobt
    obtain ⟨v, hv⟩ : ∃ v, L[i]? = some v := ⟨L[i]'(by omega), List.getElem?_eq_getElem (by omega)⟩
    have hobt := step (upto g m i) i v h2 hv (by rw [h3 i (Nat.le_refl _)]; exact hv)
    obtain ⟨e1, e2, w, e3⟩ := hobt
    refine ⟨by show f (upto f m i) i = g (upto g m i) i; rw [h1, e1], e2, fun j hj => ?_⟩
    show (g (upto g m i) i).l[j]? = _
    rcases e3 with e3 | e3
    · rw [e3, List.getElem?_set, if_neg (by omega), h3 j (by omega)]
    · rw [e3, h3 j (by omega)]
theorem lapse_step (now : Int) (L : List Vw) (M : Mg) (i : Nat) (v : Vw) (hs : Srt M) (h1 : L[i]? = some v) (h2 : M.l[i]? = some v) : Mg.rlapse now L M i = M.lapse now i ∧ Srt (M.lapse now i) ∧ ∃ w, (M.lapse now i).l = M.l.set i w ∨ (M.lapse now i).l = M.l := by
  unfold Mg.rlapse Mg.lapse
  simp only [at_getD h1, at_getD h2]
  by_cases hb : lateB v now = true
  · rw [if_pos hb, if_pos hb]
    have hz : v.new.k.lsp ≠ 0 := by simp [lateB] at hb; exact hb.1
    rw [stop_yes hz, fails_put]
    refine ⟨(Like.self (m := M.does ⟨2, v.tn, v.new.k, wtZ, []⟩) (show Srt M from hs) h2).fails (v := { v with new := lsZ }) now 17, ?_, ?_⟩
    · exact Srt.fails (m := M.does ⟨2, v.tn, v.new.k, wtZ, []⟩) hs h2 (w := { v with new := lsZ }) rfl now 17
    · exact ⟨_, Or.inl rfl⟩
  · rw [if_neg hb, if_neg hb]; exact ⟨rfl, hs, vwZ, Or.inr rfl⟩
theorem retry_step (now : Int) (l : List Adv) (L : List Vw) (M : Mg) (i : Nat) (v : Vw) (hs : Srt M) (h1 : L[i]? = some v) (h2 : M.l[i]? = some v) : Mg.rretry now l L M i = M.retry now l i ∧ Srt (M.retry now l i) ∧ ∃ w, (M.retry now l i).l = M.l.set i w ∨ (M.retry now l i).l = M.l := by
  unfold Mg.rretry Mg.retry
  simp only [at_getD h1, at_getD h2]
  by_cases hb : lacksB v = true ∧ v.wait ≤ now ∧ busyB M = false
  · rw [if_pos hb, if_pos hb]
    refine ⟨(Like.self hs h2).tries now l, hs.tries h2 now l, ?_⟩
    rcases M.tries_is i v now l with ⟨e, -, h3⟩ | ⟨r, -, -, h3⟩
    · rw [h3]; exact ⟨_, Or.inl rfl⟩
    · rw [h3]; exact ⟨_, Or.inl rfl⟩
  · rw [if_neg hb, if_neg hb]; exact ⟨rfl, hs, vwZ, Or.inr rfl⟩
theorem forget_step (now : Int) (L : List Vw) (M : Mg) (i : Nat) (v : Vw) (hs : Srt M) (h1 : L[i]? = some v) (h2 : M.l[i]? = some v) : Mg.rforget now L M i = M.forget now i ∧ Srt (M.forget now i) ∧ ∃ w, (M.forget now i).l = M.l.set i w ∨ (M.forget now i).l = M.l := by
  unfold Mg.rforget Mg.forget
  simp only [at_getD h1, at_getD h2]
  have hobx : ∃ m1, m1 = if v.now.k.lsp = 0 then M else M.says ⟨now, v.tn, 2, 17⟩ := ⟨_, rfl⟩
  obtain ⟨m1, hm1⟩ := hobx
  have hl1 : m1.l = M.l := by rw [hm1]; split <;> rfl
  have hs1 := hs.same hl1
  have hv1 : m1.l[i]? = some v := by rw [hl1]; exact h2
  rw [← hm1]
  exact ⟨(Like.self hs1 hv1).putR (w := { v with now := lsZ, new := lsZ, wait := now + 1, back := 1 }) rfl, hs1.put hv1 rfl, _, Or.inl (by show m1.l.set i _ = _; rw [hl1])⟩
theorem fit_of {m : Mg} (h : m.wf) (hr : m.room 21000) : m.fit := ⟨by have := h.len; omega, by have := hr.1; omega, by have := hr.2; omega, h.hd, h.cnt, h.vs⟩
theorem tick_fit {m : Mg} (hs : Srt m) (hm : m.wf) (hr : m.room 30000) (now : Int) (l : List Adv) :
    (∀ i, i ≤ m.l.length → (upto (Mg.rlapse now m.l) m i).fit) ∧ (∀ i, i ≤ (upto (Mg.rlapse now m.l) m m.l.length).l.length → (upto (Mg.rretry now l (upto (Mg.rlapse now m.l) m m.l.length).l) (upto (Mg.rlapse now m.l) m m.l.length) i).fit) ∧ m.rtick now l = m.tick now l ∧ Srt (m.tick now l).1 := by
  have hlen := hm.len
  have u1 := upto_eq (f := Mg.rlapse now m.l) (g := Mg.lapse now) rfl hs (fun M i v => lapse_step now m.l M i v)
  have i1 : ∀ i, i ≤ m.l.length → (upto (Mg.lapse now) m i).in m.l.length (22000 + (m.l.length - i) * 2) := fun i hi => upto_in (fun m k i h hi => h.lapse hi now) i hi ⟨hm, rfl, hr.le (by omega)⟩
  have hobt := u1 m.l.length (Nat.le_refl _)
  obtain ⟨e1, s1, -⟩ := hobt
  have hi := i1 m.l.length (Nat.le_refl _)
  have hobx : ∃ M, M = upto (Mg.lapse now) m m.l.length := ⟨_, rfl⟩
  obtain ⟨M, hM⟩ := hobx
  rw [← hM] at e1 s1 hi
  have u2 := upto_eq (f := Mg.rretry now l M.l) (g := Mg.retry now l) rfl s1 (fun N i v => retry_step now l M.l N i v)
  have i2 : ∀ i, i ≤ m.l.length → (upto (Mg.retry now l) M i).in m.l.length (21000 + (m.l.length - i) * 1) := fun i hi' => upto_in (fun m k i h hi => h.retry hi now l) i hi' ⟨hi.1, hi.2.1, hi.2.2.le (by omega)⟩
  refine ⟨fun i h => ?_, fun i h => ?_, ?_, ?_⟩
  · rw [(u1 i h).1]; exact fit_of (i1 i h).1 ((i1 i h).2.2.le (by omega))
  · rw [e1] at h ⊢
    rw [hi.2.1] at h
    rw [(u2 i (by rw [hi.2.1]; exact h)).1]; exact fit_of (i2 i h).1 ((i2 i h).2.2.le (by omega))
  · unfold Mg.rtick Mg.tick
    split
    · rfl
    · rw [e1, (u2 M.l.length (Nat.le_refl _)).1, hi.2.1, hM]
  · unfold Mg.tick
    split
    · exact hs
    · have := (u2 M.l.length (Nat.le_refl _)).2.1
      rw [hi.2.1] at this
      rw [← hM]; exact this
theorem restart_fit {m : Mg} (hs : Srt m) (hm : m.wf) (hr : m.room 30000) (now : Int) :
    (∀ i, i ≤ m.l.length → (upto (Mg.rforget now m.l) { m with acts := [] } i).fit) ∧ m.rrestart now = m.restart now ∧ Srt (m.restart now).1 := by
  have hlen := hm.len
  have w0 : Mg.wf { m with acts := [] } := ⟨hm.hd, hm.n, hm.cnt, hm.vs, hm.len⟩
  have r0 : Mg.room { m with acts := [] } 30000 := ⟨by show 0 + 30000 ≤ 100000; omega, hr.2⟩
  have u1 := upto_eq (f := Mg.rforget now m.l) (g := Mg.forget now) (m := { m with acts := [] }) rfl hs (fun M i v => forget_step now m.l M i v)
  have i1 : ∀ i, i ≤ m.l.length → (upto (Mg.forget now) { m with acts := [] } i).in m.l.length (22000 + (m.l.length - i) * 1) := fun i hi => upto_in (fun m k i h hi => h.forget hi now) i hi ⟨w0, rfl, r0.le (by omega)⟩
  refine ⟨fun i h => ?_, ?_, ?_⟩
  · rw [(u1 i h).1]; exact fit_of (i1 i h).1 ((i1 i h).2.2.le (by omega))
  · unfold Mg.rrestart Mg.restart
    split
    · rfl
    · rw [(u1 m.l.length (Nat.le_refl _)).1]
  · unfold Mg.restart
    split
    · exact hs
    · exact (u1 m.l.length (Nat.le_refl _)).2.1
theorem Srt.event {m : Mg} (h : Srt m) (now : Int) (e : Ev) : Srt (m.event now e).1 := by
  unfold Mg.event
  split
  · exact h
  split
  · exact h
  rename_i i hi
  have hobt := ownI_at hi
  obtain ⟨v, hv, -⟩ := hobt
  simp only [at_getD hv]
  split
  · unfold Mg.ups
    exact Srt.stop (m := ((m.put i { v with now := v.new, new := lsZ, back := 1 }).says ⟨now, v.tn, 1, 0⟩).does ⟨3, v.tn, v.new.k, wtZ, []⟩) ((h.put hv (w := { v with now := v.new, new := lsZ, back := 1 }) rfl).same rfl) _ _
  split
  · rw [fails_put]
    exact (h.stop _ _).fails (v := v) (w := { v with new := lsZ }) (by rw [Mg.stop_l]; exact hv) rfl _ _
  split
  · rw [leave_is]
    have hp := h.put hv (w := { v with now := lsZ, wait := now + 1, back := 1 }) rfl
    refine hp.same ?_
    show ((if v.now.k.lsp = 0 then m else (m.does ⟨4, v.tn, kyZ, wtZ, []⟩).does ⟨2, v.tn, v.now.k, wtZ, []⟩).l.set i _).set i _ = m.l.set i _
    rw [List.set_set]; split <;> rfl
  · exact h
theorem Srt.create {m : Mg} (h : Srt m) (now n tail : Int) (w : Wt) (l : List Adv) : Srt (m.create now n tail w l).1 := by
  unfold Mg.create
  split
  · exact h
  split
  · exact h
  split
  · exact h
  · rename_i h2 _
    have hi := h.insV (v := ⟨n, tail, w, lsZ, lsZ, now, 1⟩) (by simpa using h2)
    simp only
    split
    · exact hi
    · exact hi.tries (insV_at (posL_le _ _) _) now l
theorem Srt.modify {m : Mg} (h : Srt m) (now n : Int) (w : Wt) (l : List Adv) : Srt (m.modify now n w l).1 := by
  unfold Mg.modify
  split
  · exact h
  split
  · exact h
  · rename_i hi
    have hobt := isL_at (by simpa using hi)
    obtain ⟨v, hv, -⟩ := hobt
    simp only [at_getD hv]
    have hv1 : (m.stop v.tn v.new).l[posL m.l n]? = some v := by rw [Mg.stop_l]; exact hv
    have hp := (h.stop v.tn v.new).put hv1 (w := { v with w := w, new := lsZ, wait := now, back := 1 }) rfl
    split
    · exact hp.tries (Mg.put_at hv1) now l
    · exact hp
theorem Srt.delete {m : Mg} (h : Srt m) (n : Int) : Srt (m.delete n).1 := by
  unfold Mg.delete
  split
  · exact h
  · rename_i hi
    have hobt := isL_at (by simpa using hi)
    obtain ⟨v, hv, -⟩ := hobt
    simp only [at_getD hv]
    rw [leave_is, Mg.stop_put, Mg.put_put]
    refine Srt.delV ?_ _
    have h1 : Srt ((if v.now.k.lsp = 0 then m else (m.does ⟨4, v.tn, kyZ, wtZ, []⟩).does ⟨2, v.tn, v.now.k, wtZ, []⟩).stop v.tn v.new) := Srt.stop (by split <;> exact h) _ _
    refine h1.put (v := v) ?_ rfl
    rw [Mg.stop_l]; split <;> exact hv
theorem Srt.act {m : Mg} (h : Srt m) (hm : m.wf) (hr : m.room 30000) (x : At) : Srt (m.act x).1 := by
  unfold Mg.act Mg.actK
  split
  · exact h.event _ _
  · exact h.create _ _ _ _ _
  · exact h.modify _ _ _ _
  · exact h.delete _
  · exact (tick_fit h hm hr _ _).2.2.2
  · exact (restart_fit h hm hr _).2.2
def NoS (acts : List Ac) : Prop := ∀ a ∈ acts, a.kind ≠ 1
def Rts (m : Mg) (l : List Adv) : Prop := ∀ a ∈ m.acts, a.kind = 1 → ∃ v ∈ m.l, v.tn = a.tn ∧ v.w = a.w ∧ v.new.k = a.k ∧ FN m.n l (askV v) m.head v.tl = (0, a.r)
theorem NoS.rts {m : Mg} (h : NoS m.acts) (l : List Adv) : Rts m l := fun a ha e => absurd e (h a ha)
theorem NoS.nil {m : Mg} (h : m.acts = []) : NoS m.acts := by rw [h]; exact fun a ha => (List.not_mem_nil ha).elim
theorem NoS.does {m : Mg} (h : NoS m.acts) {a : Ac} (ha : a.kind ≠ 1) : NoS (m.does a).acts := fun b hb => by
  rcases List.mem_append.1 hb with hb | hb
  · exact h b hb
  · rw [List.mem_singleton.1 hb]; exact ha
theorem NoS.stop {m : Mg} (h : NoS m.acts) (tn : Int) (x : Ls) : NoS (m.stop tn x).acts := by
  unfold Mg.stop
  split
  · exact h
  · exact h.does (by simp)
theorem NoS.leave {m : Mg} (h : NoS m.acts) (i : Nat) (v : Vw) : NoS (m.leave i v).acts := by
  unfold Mg.leave
  show NoS ((if v.now.k.lsp = 0 then m else m.does ⟨4, v.tn, kyZ, wtZ, []⟩).stop v.tn v.now).acts
  refine NoS.stop ?_ _ _
  split
  · exact h
  · exact h.does (by simp)
theorem Rts.tries {m : Mg} (h : NoS m.acts) {i : Nat} {v : Vw} (hv : m.l[i]? = some v) (hc : 0 ≤ m.count) (now : Int) (l : List Adv) : Rts (m.tries i v now l) l ∧ (NoS (m.tries i v now l).acts ∨ busyB (m.tries i v now l) = true) := by
  rcases m.tries_is i v now l with ⟨e, -, h2⟩ | ⟨r, h1, -, h2⟩
  · rw [h2]
    have : NoS (m.fails i v now e).acts := h
    exact ⟨this.rts l, Or.inl this⟩
  · rw [h2]
    have hobt := List.getElem?_eq_some_iff.1 hv
    obtain ⟨hi, -⟩ := hobt
    have hobx : ∃ w : Vw, w = { v with new := ⟨⟨v.tl, v.tn, m.head, m.count + 1⟩, v.w, r⟩, wait := now + 10 } := ⟨_, rfl⟩
    obtain ⟨w, hw⟩ := hobx
    rw [← hw]
    have hm : w ∈ m.l.set i w := List.mem_set hi w
    refine ⟨fun a ha e => ?_, Or.inr ?_⟩
    · rcases List.mem_append.1 ha with ha | ha
      · exact absurd e (h a ha)
      · rw [List.mem_singleton.1 ha]
        refine ⟨w, hm, by rw [hw], by rw [hw], by rw [hw], ?_⟩
        show FN m.n l (askV w) m.head w.tl = _
        rw [show askV w = askV v by rw [hw]; rfl, show w.tl = v.tl by rw [hw], h1]
    · show (m.l.set i w).any _ = true
      refine List.any_eq_true.2 ⟨w, hm, ?_⟩
      rw [decide_eq_true_eq, hw]
      show m.count + 1 ≠ 0
      omega
theorem upto_ln {f : Mg → Nat → Mg} (hf : ∀ (m : Mg) (i : Nat), i < m.l.length → (f m i).l.length = m.l.length) {Q : Mg → Prop} (hq : ∀ (m : Mg) (i : Nat), Q m → i < m.l.length → Q (f m i)) {m : Mg} (h : Q m) : ∀ i, i ≤ m.l.length → (upto f m i).l.length = m.l.length ∧ Q (upto f m i)
  | 0, _ => ⟨rfl, h⟩
  | i + 1, hi => by
    have hobt := upto_ln hf hq h i (by omega)
    obtain ⟨h1, h2⟩ := hobt
    exact ⟨by show (f (upto f m i) i).l.length = _; rw [hf _ _ (by omega), h1], hq _ _ h2 (by omega)⟩
theorem rts_tick {m : Mg} (ha : m.acts = []) (hc : 0 ≤ m.count) (now : Int) (l : List Adv) : Rts (m.tick now l).1 l := by
  unfold Mg.tick
  split
  · exact (NoS.nil ha).rts l
  · obtain ⟨l1, t1, c1⟩ := upto_ln (f := Mg.lapse now) (fun m i _ => by
      unfold Mg.lapse
      simp only
      split
      · rw [Mg.fails_len]
        show ((m.stop _ _).l.set i _).length = _
        rw [List.length_set, Mg.stop_l]
      · rfl) (Q := fun m => NoS m.acts ∧ 0 ≤ m.count) (fun m i hq hi => by
      unfold Mg.lapse
      simp only
      split
      · exact ⟨hq.1.stop _ _, by show 0 ≤ (m.stop _ _).count; unfold Mg.stop; split <;> exact hq.2⟩
      · exact hq) ⟨NoS.nil ha, hc⟩ m.l.length (Nat.le_refl _)
    obtain ⟨l2, t2, -⟩ := upto_ln (f := Mg.retry now l) (fun m i _ => by
      unfold Mg.retry
      simp only
      split
      · rw [Mg.tries_len]
      · rfl) (Q := fun m => Rts m l ∧ (busyB m = true ∨ (NoS m.acts ∧ 0 ≤ m.count))) (fun m i hq hi => by
      have hv : m.l[i]? = some (m.l.getD i vwZ) := by rw [List.getD_eq_getElem?_getD, List.getElem?_eq_getElem hi]; rfl
      unfold Mg.retry
      simp only
      split
      · rename_i hb
        rcases hq.2 with e | ⟨e, hc⟩
        · rw [e] at hb; exact absurd hb.2.2 (by decide)
        · obtain ⟨r1, r2⟩ := Rts.tries e hv hc now l
          refine ⟨r1, ?_⟩
          rcases r2 with r2 | r2
          · refine Or.inr ⟨r2, ?_⟩
            rcases m.tries_is i (m.l.getD i vwZ) now l with ⟨e, -, h2⟩ | ⟨r, h1, -, h2⟩
            · rw [h2]; exact hc
            · rw [h2]; show 0 ≤ m.count + 1; omega
          · exact Or.inl r2
      · exact hq) ⟨t1.rts l, Or.inr ⟨t1, c1⟩⟩ m.l.length (by omega)
    exact t2
theorem rts_act {m : Mg} (ha : m.acts = []) (hc : 0 ≤ m.count) (x : At) : Rts (m.act x).1 x.l := by
  have hmod : x.kind % 6 < 6 := Nat.mod_lt _ (by omega)
  have hobx : ∃ k, x.kind % 6 = k := ⟨_, rfl⟩
  obtain ⟨k, hk⟩ := hobx
  have h0 := NoS.nil ha
  unfold Mg.act
  rw [hk]
  rw [hk] at hmod
  match k, hmod with
  | 0, _ =>
    show Rts (m.event x.now x.e).1 x.l
    refine NoS.rts ?_ _
    unfold Mg.event
    split
    · exact h0
    split
    · exact h0
    · simp only
      split
      · unfold Mg.ups
        exact NoS.stop (NoS.does (m := Mg.says (Mg.put m _ _) _) h0 (by simp)) _ _
      split
      · exact h0.stop _ _
      split
      · rename_i i _ _ _ _
        exact h0.leave i (m.l.getD i vwZ)
      · exact h0
  | 1, _ =>
    show Rts (m.create x.now x.tn x.tl x.w x.l).1 x.l
    unfold Mg.create
    split
    · exact h0.rts _
    split
    · exact h0.rts _
    split
    · exact h0.rts _
    have hv : (m.insV (posL m.l x.tn) ⟨x.tn, x.tl, x.w, lsZ, lsZ, x.now, 1⟩).l[posL m.l x.tn]? = some ⟨x.tn, x.tl, x.w, lsZ, lsZ, x.now, 1⟩ := insV_at (posL_le _ _) _
    simp only
    split
    · exact NoS.rts (m := Mg.insV m _ _) h0 _
    · exact (Rts.tries (m := Mg.insV m _ _) h0 hv hc _ _).1
  | 2, _ =>
    show Rts (m.modify x.now x.tn x.w x.l).1 x.l
    unfold Mg.modify
    split
    · exact h0.rts _
    split
    · exact h0.rts _
    rename_i hi
    have hobt := isL_at (by simpa using hi)
    obtain ⟨v, hv, -⟩ := hobt
    have hv1 : (m.stop v.tn v.new).l[posL m.l x.tn]? = some v := by rw [Mg.stop_l]; exact hv
    have h1 : NoS (m.stop v.tn v.new).acts := h0.stop _ _
    simp only [at_getD hv]
    split
    · exact (Rts.tries (m := Mg.put _ _ _) h1 (Mg.put_at hv1) (by show 0 ≤ (m.stop _ _).count; unfold Mg.stop; split <;> exact hc) _ _).1
    · exact NoS.rts (m := Mg.put _ _ _) h1 _
  | 3, _ =>
    show Rts (m.delete x.tn).1 x.l
    refine NoS.rts ?_ _
    unfold Mg.delete
    split
    · exact h0
    · simp only
      exact NoS.stop (h0.leave (posL m.l x.tn) (m.l.getD (posL m.l x.tn) vwZ)) _ _
  | 4, _ => exact rts_tick ha hc _ _
  | 5, _ =>
    show Rts (m.restart x.now).1 x.l
    refine NoS.rts ?_ _
    unfold Mg.restart
    split
    · exact h0
    · obtain ⟨-, t⟩ := upto_ln (f := Mg.forget x.now) (fun m i _ => by
        unfold Mg.forget
        simp only
        show ((if _ then m else m.says _).l.set i _).length = _
        rw [List.length_set]; split <;> rfl) (Q := fun m => NoS m.acts) (fun m i hq hi => by
        unfold Mg.forget
        simp only
        split
        · exact hq
        · exact hq) (m := { m with acts := [] }) (NoS.nil rfl) m.l.length (Nat.le_refl _)
      exact t
theorem Srt.uniq {m : Mg} (h : Srt m) {u v : Vw} (hu : u ∈ m.l) (hv : v ∈ m.l) (e : u.tn = v.tn) : u = v := by
  have hobt := List.getElem?_of_mem hu
  obtain ⟨i, hi⟩ := hobt
  have hobt := List.getElem?_of_mem hv
  obtain ⟨j, hj⟩ := hobt
  have hobt := List.getElem?_eq_some_iff.1 hi
  obtain ⟨hi', rfl⟩ := hobt
  have hobt := List.getElem?_eq_some_iff.1 hj
  obtain ⟨hj', rfl⟩ := hobt
  have hp := List.pairwise_iff_getElem.1 h
  rcases Nat.lt_trichotomy i j with c | c | c
  · have := hp i j hi' hj' c; omega
  · subst c; rfl
  · have := hp j i hj' hi' c; omega
def HN (m m' : Mg) : Prop := m'.head = m.head ∧ m'.n = m.n
theorem HN.stop (m : Mg) (tn : Int) (x : Ls) : HN m (m.stop tn x) := by unfold Mg.stop; split <;> exact ⟨rfl, rfl⟩
theorem HN.tr {a b c : Mg} (h : HN a b) (h' : HN b c) : HN a c := ⟨h'.1.trans h.1, h'.2.trans h.2⟩
theorem HN.leave (m : Mg) (i : Nat) (v : Vw) : HN m (m.leave i v) := by
  have h1 : HN m (if v.now.k.lsp = 0 then m else m.does ⟨4, v.tn, kyZ, wtZ, []⟩) := by split <;> exact ⟨rfl, rfl⟩
  have h2 := h1.tr (HN.stop _ v.tn v.now)
  exact h2
theorem HN.tries (m : Mg) (i : Nat) (v : Vw) (now : Int) (l : List Adv) : HN m (m.tries i v now l) := by
  rcases m.tries_is i v now l with ⟨e, -, h2⟩ | ⟨r, h1, -, h2⟩ <;> rw [h2] <;> exact ⟨rfl, rfl⟩
theorem hn_upto {f : Mg → Nat → Mg} (hf : ∀ m i, HN m (f m i)) (m : Mg) : ∀ i, HN m (upto f m i)
  | 0 => ⟨rfl, rfl⟩
  | i + 1 => (hn_upto hf m i).tr (hf _ _)
theorem hn_act (m : Mg) (x : At) : HN m (m.act x).1 := by
  have hmod : x.kind % 6 < 6 := Nat.mod_lt _ (by omega)
  have hobx : ∃ k, x.kind % 6 = k := ⟨_, rfl⟩
  obtain ⟨k, hk⟩ := hobx
  have h0 : HN m m := ⟨rfl, rfl⟩
  unfold Mg.act
  rw [hk]
  rw [hk] at hmod
  match k, hmod with
  | 0, _ =>
    show HN m (m.event x.now x.e).1
    unfold Mg.event
    split
    · exact h0
    split
    · exact h0
    · rename_i i _
      simp only
      split
      · unfold Mg.ups
        exact HN.tr (b := Mg.does (Mg.says (Mg.put m i _) _) _) ⟨rfl, rfl⟩ (HN.stop _ _ _)
      split
      · exact HN.stop _ _ _
      split
      · exact HN.leave m i (m.l.getD i vwZ)
      · exact h0
  | 1, _ =>
    show HN m (m.create x.now x.tn x.tl x.w x.l).1
    unfold Mg.create
    split
    · exact h0
    split
    · exact h0
    split
    · exact h0
    simp only
    split
    · exact ⟨rfl, rfl⟩
    · exact HN.tr (b := m.insV _ _) ⟨rfl, rfl⟩ (HN.tries _ _ _ _ _)
  | 2, _ =>
    show HN m (m.modify x.now x.tn x.w x.l).1
    unfold Mg.modify
    split
    · exact h0
    split
    · exact h0
    simp only
    split
    · exact HN.tr (b := Mg.put _ _ _) (HN.stop _ _ _) (HN.tries _ _ _ _ _)
    · exact HN.stop _ _ _
  | 3, _ =>
    show HN m (m.delete x.tn).1
    unfold Mg.delete
    split
    · exact h0
    · simp only
      exact HN.tr (HN.leave m (posL m.l x.tn) (m.l.getD (posL m.l x.tn) vwZ)) (HN.stop _ _ _)
  | 4, _ =>
    show HN m (m.tick x.now x.l).1
    unfold Mg.tick
    split
    · exact h0
    · exact HN.tr (hn_upto (fun m i => by
        unfold Mg.lapse
        simp only
        split
        · exact HN.stop _ _ _
        · exact ⟨rfl, rfl⟩) m _) (hn_upto (fun m i => by
        unfold Mg.retry
        simp only
        split
        · exact HN.tries _ _ _ _ _
        · exact ⟨rfl, rfl⟩) _ _)
  | 5, _ =>
    show HN m (m.restart x.now).1
    unfold Mg.restart
    split
    · exact h0
    · exact hn_upto (fun m i => by
        unfold Mg.forget
        simp only
        split <;> exact ⟨rfl, rfl⟩) { m with acts := [] } _
theorem Mg.act_room {m : Mg} (hm : m.wf) (x : At) {k : Nat} (h : m.room (k + 100)) : (m.act x).1.room k := by
  unfold Mg.act Mg.actK
  split
  · unfold Mg.event
    split
    · exact h.le (by omega)
    split
    · exact h.le (by omega)
    · simp only
      split
      · unfold Mg.ups
        exact (((((h.le (j := k + 3) (by omega)).put _ _).says (k := k + 2) _).does (k := k + 1) _).stop _ _)
      split
      · exact Mg.fails_room (((h.le (j := k + 2) (by omega)).stop (k := k + 1) _ _).put _ _) _ _ _ _
      split
      · exact (((h.le (j := k + 3) (by omega)).leave (k := k + 1) _ _).says _).put _ _
      · exact h.le (by omega)
  · unfold Mg.create
    split
    · exact h.le (by omega)
    split
    · exact h.le (by omega)
    split
    · exact h.le (by omega)
    · simp only
      split
      · exact Mg.room.le (k := k + 100) (m := m.insV _ _) h (by omega)
      · exact Mg.tries_room (Mg.room.le (k := k + 100) (m := m.insV _ _) h (by omega)) _ _ _ _
  · unfold Mg.modify
    split
    · exact h.le (by omega)
    split
    · exact h.le (by omega)
    · simp only
      split
      · exact Mg.tries_room (((h.le (j := k + 2) (by omega)).stop (k := k + 1) _ _).put _ _) _ _ _ _
      · exact ((h.le (j := k + 1) (by omega)).stop _ _).put _ _
  · unfold Mg.delete
    split
    · exact h.le (by omega)
    · simp only
      exact ((h.le (j := k + 3) (by omega)).leave (k := k + 1) (posL m.l x.tn) (m.l.getD (posL m.l x.tn) vwZ)).stop _ _
  · unfold Mg.tick
    split
    · exact h.le (by omega)
    · exact (Mg.in.tick hm _ _ (k := k) (h.le (by omega))).2.2
  · unfold Mg.restart
    split
    · exact h.le (by omega)
    · exact (Mg.in.restart hm _ (k := k) (h.le (by omega))).2.2
set_option maxRecDepth 20000 in
set_option maxHeartbeats 16000000 in
theorem routes_walk {A : AH} (hd n : Int) {a : Option Addr} {c : Nat} {xs : List AtM} (hs : Sl A 43 17 a (xs.map AtM.enc)) (hy : ∀ y ∈ xs, y.ok A) :
    ACall Tryz.prog 4 [.agg (PlR hd n a xs.length c).toArray] A fun v A' => v = .bool true := by
  refine ACall.wf fun hwf => ?_
  have hobx : ∃ A1, A1 = A.alloc (.row [.int .i64 hd, .int .i64 n, .slice a xs.length c] 24 false) := ⟨_, rfl⟩
  obtain ⟨A1, hA1⟩ := hobx
  have w1 : A1.wf := by rw [hA1]; exact AH.wf_alloc hwf _
  have n1 : A1.next = A.next + 1 := by rw [hA1]; rfl
  have x1 : Ext A A1 := by rw [hA1]; exact Ext.alloc A _
  have g1 : A1.get A.next = some (.row [.int .i64 hd, .int .i64 n, .slice a xs.length c] 24 false) := by rw [hA1, AH.get_new]
  refine code4.call (by simp) fun hwf => ?_
  unfold c4
  simp [PlR, ← hA1]
  refine CN.use (alive_ok A1) ?_
  rintro _ A2 hw2 hn2 ⟨rfl, x2⟩
  have g2 := x2.get w1 g1
  have x02 := x1.trans (by omega) x2
  simp [g2]
  refine CN.use (new_ok hd n A2) ?_
  rintro _ A3 hw3 hn3 ⟨x3, ⟨e, rfl⟩ | ⟨hnb, mb, hmb, rfl, h3⟩⟩
  · have g3 := x3.get hw2 g2
    have hne := newB_false e
    by_cases k1 : n < 1
    · simp [g3, k1]
      exact DN.of rfl
    by_cases k2 : 16 < n
    · simp [g3, k1, k2]
      exact DN.of rfl
    by_cases k3 : hd < 0
    · simp [g3, k1, k2, k3]
      exact DN.of rfl
    have k4 : n ≤ hd := by omega
    simp [g3, k1, k2, k3, k4]
    exact DN.of rfl
  simp
  refine LN.use (fun k E A' => ∃ (i : Nat) (ps : List Nat) (m : Mg), k + i = xs.length + 1 ∧ i ≤ xs.length ∧ i ≤ 60 ∧ (∀ b, b < A2.next → A'.get b = A2.get b) ∧ A2.next ≤ A'.next ∧ MP A2.next A' mb ps m ∧ m.wf ∧ m.acts = [] ∧ Srt m ∧ m.head = hd ∧ m.n = n ∧ m.room (100 * (61 - i) + 30000) ∧ E.get 1 = .pointer (some ⟨A.next, 0, none⟩) ∧ E.get 3 = .pointer (some ⟨mb, 0, none⟩) ∧ E.get 4 = .int .i64 i) (xs.length + 1)
    ⟨0, [], mgN hd n, by omega, by omega, by omega, x3, by omega, h3, mgN_wf hnb, rfl, List.Pairwise.nil, rfl, rfl, by exact ⟨by show 0 + _ ≤ 100000; omega, by show 0 + _ ≤ 100000; omega⟩, by simp, by simp, by simp⟩ ?_
  rintro k E A4 hw4 hn4 ⟨i, ps, m, hk, hile, hi60, lo4, n4, h4, hm, ha, hsr, hhd, hmn, hroom, E1, E3, E4⟩
  have g4 : A4.get A.next = some (.row [.int .i64 hd, .int .i64 n, .slice a xs.length c] 24 false) := by rw [lo4 _ (by omega)]; exact g2
  by_cases hlt : i < xs.length
  rotate_left
  · have hlt' : ¬ (i : Int) < xs.length := by omega
    simp [E1, E3, E4, g4, hlt']
    exact DN.of rfl
  have hlt' : (i : Int) < xs.length := by omega
  by_cases h60 : i < 60
  rotate_left
  · have h60' : ¬ (i : Int) < 60 := by omega
    simp [E1, E3, E4, g4, hlt, hlt', h60']
    exact DN.of rfl
  have h60' : (i : Int) < 60 := by omega
  have hgi : IntKind.i64.wrap ((i : Int) + 1) = ((i + 1 : Nat) : Int) := by rw [i64_in (by omega) (by omega)]; simp
  have hobx : ∃ y, y = xs[i] := ⟨_, rfl⟩
  obtain ⟨y, hyd⟩ := hobx
  have hyo := hy y (by rw [hyd]; exact List.getElem_mem hlt)
  have hobt := (hs.ext hwf x02).at (i := i) (by simpa using hlt)
  obtain ⟨b, o, cs, q, hab, u1, u2, u3⟩ := hobt
  rw [List.getElem_map, ← hyd] at u3
  have hb2 : b < A2.next := hw2 _ _ u1
  have u14 : A4.get b = some (.row cs q.1 q.2) := by rw [lo4 b hb2]; exact u1
  have yl : y.enc.length = 17 := rfl
  have yt : y.enc.take 17 = y.enc := rfl
  have yo : ∀ v ∈ y.enc, oneB v = true := List.all_eq_true.1 (rfl : y.enc.all oneB = true)
  have hobx : ∃ A5, A5 = A4.alloc (.row y.enc 43 false) := ⟨_, rfl⟩
  obtain ⟨A5, hA5⟩ := hobx
  have w5 : A5.wf := by rw [hA5]; exact AH.wf_alloc hw4 _
  have n5 : A5.next = A4.next + 1 := by rw [hA5]; rfl
  have x5 : Ext A4 A5 := by rw [hA5]; exact Ext.alloc A4 _
  have gy5 : A5.get A4.next = some (.row y.enc 43 false) := by rw [hA5, AH.get_new]
  have e16 : y.enc[16]'(by omega) = .slice y.a y.x.l.length y.c := rfl
  have lo5 : ∀ b, b < A2.next → A5.get b = A2.get b := fun b hb => by rw [x5 b (by omega), lo4 b hb]
  have h5 := h4.ext hw4 x5
  by_cases h100 : 100 < y.x.l.length
  · have h100' : (100 : Int) < y.x.l.length := by omega
    simp [E1, E3, E4, g4, hlt, hlt', h60', hab, u14, u2, u3, yl, yt, ← hA5, gy5, e16, h100', hgi]
    refine ⟨yo, ?_⟩
    exact NX.of ⟨k - 1, by omega, i + 1, ps, m, by omega, by omega, by omega, lo5, by omega, h5, hm, ha, hsr, hhd, hmn, hroom.le (by omega), by simp [E1], by simp [E3], by simp⟩
  have h100' : ¬ (100 : Int) < y.x.l.length := by omega
  simp [E1, E3, E4, g4, hlt, hlt', h60', hab, u14, u2, u3, yl, yt, ← hA5, gy5, e16, h100']
  refine ⟨yo, ?_⟩
  have yo5 : y.ok A5 := hyo.low (fun b hb => by rw [lo5 b (by omega), x02 b hb]) hwf
  have hr3 : m.room 30000 := hroom.le (by omega)
  have hr100 : m.room 100 := hr3.le (by omega)
  refine CN.use (act_ok h5 hm y yo5 (by omega) hr100 (by omega)) ?_
  rintro _ A6 hw6 hn6 ⟨⟨ps6, h6⟩, rfl, f6⟩
  have wf6 := Mg.act_wf hm y.x hyo.2.2.1 hr100
  have r6 : (m.act y.x).1.room (100 * (61 - (i + 1)) + 30000) := Mg.act_room hm y.x (hroom.le (by omega))
  have sr6 := hsr.act hm hr3 y.x
  have rt6 := rts_act ha hm.cnt.1 y.x
  have hn6' := hn_act m y.x
  have hobx : ∃ M, M = (m.act y.x).1 := ⟨_, rfl⟩
  obtain ⟨M, hM⟩ := hobx
  rw [← hM] at h6 wf6 r6 sr6 rt6 hn6'
  have hMh : M.head = hd := hn6'.1.trans hhd
  have hMn : M.n = n := hn6'.2.trans hmn
  have lo6 := f6.low lo5
  have gy6 : A6.get A4.next = some (.row y.enc 43 false) := by rw [f6.2 _ _ _ _ gy5 (by unfold OwnT; decide) (by decide), gy5]
  simp [E3]
  refine CN.use (tunnels_ok h6 wf6) ?_
  rintro _ A7 hw7 hn7 ⟨x7, vs, a7, c7, rfl, hvs, s7⟩
  have h7 := h6.ext hw6 x7
  have gy7 := x7.get hw6 gy6
  have lo7 : ∀ b, b < A2.next → A7.get b = A2.get b := fun b hb => by rw [x7 b (by omega), lo6 b hb]
  simp [E3]
  refine CN.use (actions_ok h7 wf6) ?_
  rintro _ A8 hw8 hn8 ⟨o8, h8, acs, a8, c8, rfl, hacs, s8, sok8, -⟩
  have wf8 : Mg.wf { M with acts := [] } := ⟨wf6.hd, wf6.n, wf6.cnt, wf6.vs, wf6.len⟩
  have sr8 : Srt { M with acts := [] } := sr6.same rfl
  have r8 : Mg.room { M with acts := [] } (100 * (61 - (i + 1)) + 30000) := ⟨by show 0 + _ ≤ 100000; omega, r6.2⟩
  have f8 := o8.frL h7
  have lo8 := f8.low lo7
  have n8 : A2.next ≤ A8.next := by omega
  have gy8 : A8.get A4.next = some (.row y.enc 43 false) := by rw [f8.2 _ _ _ _ gy7 (by unfold OwnT; decide) (by decide), gy7]
  have g8 : A8.get A.next = some (.row [.int .i64 hd, .int .i64 n, .slice a xs.length c] 24 false) := by rw [lo8 _ (by omega)]; exact g2
  have v8 : VwsM A8 a7 vs := by
    have hi : ∀ b cs ro, A7.get b = some (.row cs 3 ro) → A8.get b = A7.get b := fun b cs ro g => f8.2 b cs _ ro g (by unfold OwnT; decide) (by decide)
    exact ⟨s7.1.kept fun b o y e _ => by obtain ⟨cs, ro, g⟩ := s7.2.2 b o e; exact f8.2 b cs _ ro g (by unfold OwnT; decide) (by decide), fun x hx => ⟨(s7.2.1 x hx).1.int hi, (s7.2.1 x hx).2.int hi⟩, fun b o e => by obtain ⟨cs, ro, g⟩ := s7.2.2 b o e; exact ⟨cs, ro, (f8.2 b cs _ ro g (by unfold OwnT; decide) (by decide)).trans g⟩⟩
  have yo8 : y.ok A8 := hyo.low (fun b hb => by rw [lo8 b (by omega), x02 b hb]) hwf
  have hvl : vs.length ≤ 16 := by have := congrArg List.length hvs; have := wf6.len; simp at *; omega
  have hal : acs.length ≤ 100000 := by have := congrArg List.length hacs; have := r6.1; simp at *; omega
  simp
  refine LN.use (fun k E A' => ∃ (j : Nat), k + j = acs.length ∧ Ext A8 A' ∧ A8.next ≤ A'.next ∧ E.get 1 = .pointer (some ⟨A.next, 0, none⟩) ∧ E.get 3 = .pointer (some ⟨mb, 0, none⟩) ∧ E.get 4 = .int .i64 i ∧ E.get 5 = .pointer (some ⟨A4.next, 0, none⟩) ∧ E.get 6 = .slice a7 vs.length c7 ∧ E.get 72 = .slice a8 acs.length c8 ∧ E.get 73 = .int .i64 acs.length ∧ E.get 74 = .int .i64 j) acs.length
    ⟨0, by omega, Ext.refl _, Nat.le_refl _, by simp [E1], by simp [E3], by simp [E4], by simp, by simp, by simp, by simp, by simp⟩ ?_
  clear E1 E3 E4 E
  rintro k2 E B0 hw0 hn0 ⟨j, hj, xb0, nb0, E1, E3, E4, E5, E6, E72, E73, E74⟩
  by_cases hja : j < acs.length
  rotate_left
  · have hja' : ¬ (j : Int) < acs.length := by omega
    simp [E4, E73, E74, hja', hgi]
    exact NX.of ⟨k - 1, by omega, i + 1, ps6, _, by omega, by omega, by omega, fun b hb => by rw [xb0 b (by omega), lo8 b hb], by omega, h8.ext hw8 xb0, wf8, rfl, sr8, hMh, hMn, r8, by simp [E1], by simp [E3], by simp⟩
  have hja' : (j : Int) < acs.length := by omega
  have hgj : IntKind.i64.wrap ((j : Int) + 1) = ((j + 1 : Nat) : Int) := by rw [i64_in (by omega) (by omega)]; simp
  have hobx : ∃ z, z = acs[j] := ⟨_, rfl⟩
  obtain ⟨z, hzd⟩ := hobx
  have hzm : z ∈ acs := by rw [hzd]; exact List.getElem_mem hja
  have hza : z.x ∈ M.acts := by rw [← hacs]; exact List.mem_map_of_mem hzm
  have hobt := sok8 z hzm
  obtain ⟨zs, zty, zrl⟩ := hobt
  have hobt := (s8.ext hw8 xb0).at (i := j) (by simpa using hja)
  obtain ⟨bz, oz, csz, qz, hbz, gz1, gz2, gz3⟩ := hobt
  rw [List.getElem_map, ← hzd] at gz3
  have hobt := z.cells
  obtain ⟨zl, zo, zt⟩ := hobt
  have z0 : z.enc[0]'(by omega) = .int .i64 z.x.kind := rfl
  have z1 : z.enc[1]'(by omega) = .int .i64 z.x.tn := rfl
  have z12 : z.enc[12]'(by omega) = .slice z.a z.x.r.length z.c := rfl
  have zk : (z.enc.drop 2).take 4 = z.x.k.enc := rfl
  have zw : (z.enc.drop 6).take 6 = z.x.w.enc := rfl
  have wl : z.x.w.enc.length = 6 := rfl
  have hb0 : spl [Value.int .u64 0, .int .i64 0, .int .i64 0, .int .u32 0, .int .u32 0, .int .u32 0, .slice none 0 0, .slice none 0 0, .slice none 0 0, .int .i64 0] 0 z.x.w.enc = (askM z.x.w [] none 0).enc := rfl
  have alF : ∀ (ow : List Ow) (ao : Option Addr) (co : Nat), (askM z.x.w ow ao co).enc.length = 10 ∧ (∀ y ∈ (askM z.x.w ow ao co).enc, oneB y = true) ∧ (askM z.x.w ow ao co).enc.take 10 = (askM z.x.w ow ao co).enc := fun ow ao co => ⟨rfl, List.all_eq_true.1 (rfl : (askM z.x.w ow ao co).enc.all oneB = true), rfl⟩
  have hobt := alF [] none 0
  obtain ⟨al0, ao0, at0⟩ := hobt
  have hobx : ∃ B1, B1 = B0.alloc (.row z.enc 63 false) := ⟨_, rfl⟩
  obtain ⟨B1, hB1⟩ := hobx
  have wb1 : B1.wf := by rw [hB1]; exact AH.wf_alloc hw0 _
  have nb1 : B1.next = B0.next + 1 := by rw [hB1]; rfl
  have xb1 : Ext B0 B1 := by rw [hB1]; exact Ext.alloc B0 _
  have gz : B1.get B0.next = some (.row z.enc 63 false) := by rw [hB1, AH.get_new]
  have x81 := xb0.trans (by omega) xb1
  by_cases hk1 : z.x.kind = 1
  rotate_left
  · simp [E72, E73, E74, hja, hja', hbz, gz1, gz2, gz3, zl, zt, ← hB1, gz, z0, hk1, hgj]
    refine ⟨zo, ?_⟩
    exact NX.of ⟨k2 - 1, by omega, j + 1, by omega, x81, by omega, by simp [E1], by simp [E3], by simp [E4], by simp [E5], by simp [E6], by simp [E72, hbz], by simp [E73], by simp⟩
  have hobt := rt6 z.x hza hk1
  obtain ⟨v, hvm, hvt, hvw, hvk, hvF⟩ := hobt
  rw [hMh, hMn] at hvF
  obtain ⟨pz, hpz⟩ : ∃ p, p < vs.length ∧ ∀ (h : p < vs.length), (vs[p]'h).v = v := by
    rw [← hvs] at hvm
    have hobt := List.mem_map.1 hvm
    obtain ⟨x, hx, hxv⟩ := hobt
    have hobt := List.mem_iff_getElem.1 hx
    obtain ⟨p, hp, rfl⟩ := hobt
    exact ⟨p, hp, fun _ => hxv⟩
  obtain ⟨hpl, hpv⟩ := hpz
  have huni : ∀ (t : Nat) (ht : t < vs.length), (vs[t]).v.tn = z.x.tn ↔ t = pz := fun t ht => by
    constructor
    · intro e
      have hp := List.pairwise_iff_getElem.1 sr6
      have e1 : ∀ (u : Nat) (hu : u < vs.length), ∃ hu' : u < M.l.length, M.l[u]'hu' = (vs[u]).v := fun u hu => by
        have hu' : u < M.l.length := by rw [← hvs]; simpa using hu
        refine ⟨hu', ?_⟩
        simp only [← hvs, List.getElem_map]
      have hobt := e1 t ht
      obtain ⟨t1, t2⟩ := hobt
      have hobt := e1 pz hpl
      obtain ⟨p1, p2⟩ := hobt
      have e2 : (vs[pz]).v.tn = z.x.tn := by rw [hpv hpl]; exact hvt
      rcases Nat.lt_trichotomy t pz with q | q | q
      · have := hp t pz t1 p1 q; rw [t2, p2] at this; omega
      · exact q
      · have := hp pz t p1 t1 q; rw [t2, p2] at this; omega
    · intro e; subst e; rw [hpv ht]; exact hvt
  have hobx : ∃ B2, B2 = B1.alloc (.row (askM z.x.w [] none 0).enc 67 false) := ⟨_, rfl⟩
  obtain ⟨B2, hB2⟩ := hobx
  have wb2 : B2.wf := by rw [hB2]; exact AH.wf_alloc wb1 _
  have nb2 : B2.next = B1.next + 1 := by rw [hB2]; rfl
  have xb2 : Ext B1 B2 := by rw [hB2]; exact Ext.alloc B1 _
  have gq : B2.get B1.next = some (.row (askM z.x.w [] none 0).enc 67 false) := by rw [hB2, AH.get_new]
  have gzb2 := xb2.get wb1 gz
  simp [E6, E72, E73, E74, hja, hja', hbz, gz1, gz2, gz3, zl, zt, ← hB1, gz, z0, hk1, zw, wl, hb0, al0, ← hB2]
  refine ⟨zo, ao0, ?_⟩
  refine LN.use (fun k E A' => ∃ (t : Nat) (ow : List Ow) (tl : Int) (ao : Option Addr) (co : Nat), k + t = vs.length ∧ Ext B1 A' ∧ B2.next ≤ A'.next ∧ A'.get B1.next = some (.row (askM z.x.w ow ao co).enc 67 false) ∧ Sl A' 73 3 ao (ow.map Ow.enc) ∧ ((t ≤ pz ∧ ow = [] ∧ tl = -1 ∧ ao = none ∧ co = 0) ∨ (pz < t ∧ ow = ownL v ∧ tl = v.tl)) ∧ E.get 1 = .pointer (some ⟨A.next, 0, none⟩) ∧ E.get 3 = .pointer (some ⟨mb, 0, none⟩) ∧ E.get 4 = .int .i64 i ∧ E.get 5 = .pointer (some ⟨A4.next, 0, none⟩) ∧ E.get 6 = .slice a7 vs.length c7 ∧ E.get 8 = .pointer (some ⟨B0.next, 0, none⟩) ∧ E.get 9 = .pointer (some ⟨B1.next, 0, none⟩) ∧ E.get 10 = .int .i64 tl ∧ E.get 72 = .slice a8 acs.length c8 ∧ E.get 73 = .int .i64 acs.length ∧ E.get 74 = .int .i64 j ∧ E.get 84 = .slice a7 vs.length c7 ∧ E.get 85 = .int .i64 vs.length ∧ E.get 86 = .int .i64 t) vs.length
    ⟨0, [], -1, none, 0, by omega, xb2, Nat.le_refl _, gq, Sl.nil Pla.no _ _ _, Or.inl ⟨by omega, rfl, rfl, rfl, rfl⟩, by simp [E1], by simp [E3], by simp [E4], by simp [E5], by simp [E6], by simp, by simp, by simp, by simp [E72, hbz], by simp [E73], by simp [E74], by simp, by simp, by simp⟩ ?_
  clear E1 E3 E4 E5 E6 E72 E73 E74 E
  rintro k3 E C0 hc0 hnc0 ⟨t, ow, tl, ao, co, ht, xc0, nc0, gqc, sow, hcase, E1, E3, E4, E5, E6, E8, E9, E10, E72, E73, E74, E84, E85, E86⟩
  have x8c := x81.trans (by omega) xc0
  have gzc := xc0.get wb1 gz
  have hobt := alF ow ao co
  obtain ⟨qa, qb, qc⟩ := hobt
  by_cases hlt3 : t < vs.length
  rotate_left
  · have hlt3' : ¬ (t : Int) < vs.length := by omega
    obtain ⟨hp1, hp2, hp3⟩ : pz < t ∧ ow = ownL v ∧ tl = v.tl := by
      rcases hcase with ⟨h1, -, -⟩ | h
      · omega
      · exact h
    have gyc := x8c.get hw8 gy8
    have gpc := x8c.get hw8 g8
    have yoc : y.ok C0 := hyo.low (fun b hb => by rw [x8c b (by omega), lo8 b (by omega), x02 b hb]) hwf
    have hq : (askM z.x.w ow ao co).q = askV v := by
      rw [hp2]; show (⟨z.x.w, [], [], ownL v, 0⟩ : Ask) = ⟨v.w, [], [], ownL v, 0⟩; rw [hvw]
    have hvr : v.now.r.length ≤ 1000 := by
      have := (v8.2.1 _ (List.getElem_mem hpl)).1.2.2
      rw [← hpv hpl]; exact this
    have hqw : (askM z.x.w ow ao co).q.wf := by rw [hq]; exact ask_wf (wf6.vs v hvm) hvr
    have y16 : y.enc[16]'(by omega) = .slice y.a y.x.l.length y.c := rfl
    simp [E1, E5, E9, E10, E85, E86, hlt3', gpc, gyc, yl, y16, gqc, qa, qc]
    refine CN.use (rfind_ok yoc.1 yoc.2.1 (by omega) (askM z.x.w ow ao co) ⟨Sl.nil Pla.no _ _ _, Sl.nil Pla.no _ _ _, sow⟩ hqw n hd tl) ?_
    rintro _ C1 hc1 hnc1 ⟨xc1, a', c', r, x', e, rfl, hf, sr, hrl, -⟩
    have hFN := FN_is hf
    rw [hq, hp3, hvF] at hFN
    injection hFN with he hr
    have x8c1 := x8c.trans (by omega) xc1
    have gzc1 := xc1.get hc0 gzc
    have zsc : Sl C1 3 1 z.a (ints z.x.r) := zs.ext hw8 x8c1
    subst he
    simp [E8, gzc1, zl, z12]
    refine CN.use (intsEq_ok (c := c') (c' := z.c) sr zsc (by omega)) ?_
    rintro _ C2 - - ⟨rfl, rfl⟩
    have hsame : sameL r z.x.r = true := decide_eq_true hr.symm
    simp [hsame, E74, hgj]
    exact NX.of ⟨k2 - 1, by omega, j + 1, by omega, x8c1, by omega, by simp [E1], by simp [E3], by simp [E4], by simp [E5], by simp [E6], by simp [E72], by simp [E73], by simp⟩
  have hlt3' : (t : Int) < vs.length := by omega
  have hgt : IntKind.i64.wrap ((t : Int) + 1) = ((t + 1 : Nat) : Int) := by rw [i64_in (by omega) (by omega)]; simp
  have hobx : ∃ x, x = vs[t] := ⟨_, rfl⟩
  obtain ⟨x, hxd⟩ := hobx
  have hxo := v8.2.1 x (by rw [hxd]; exact List.getElem_mem hlt3)
  have hobt := hxo.1
  obtain ⟨hsl, hty, hrl⟩ := hobt
  have hobt := (v8.1.ext hw8 x8c).at (i := t) (by simpa using hlt3)
  obtain ⟨bx, ox, csx, qx, hbx, gx1, gx2, gx3⟩ := hobt
  rw [List.getElem_map, ← hxd] at gx3
  have xl := vw_len x
  have xo := vw_one x
  have xt := vw_take x
  have e0 : x.enc[0]'(by rw [vw_len]; omega) = .int .i64 x.tn := rfl
  have e1 : x.enc[1]'(by rw [vw_len]; omega) = .int .i64 x.tl := rfl
  have e18 : x.enc[18]'(by rw [vw_len]; omega) = .slice x.now.a x.now.s.r.length x.now.c := rfl
  have e14 : x.enc[14]'(by rw [vw_len]; omega) = .int .i64 x.now.s.w.hold := rfl
  have e3 : x.enc[3]'(by rw [vw_len]; omega) = .int .i64 x.w.setup := rfl
  have e12 : x.enc[12]'(by rw [vw_len]; omega) = .int .u64 x.now.s.w.bw := rfl
  have ew : (x.enc.drop 2).take 6 = x.w.enc := rfl
  have en : (x.enc.drop 19).take 4 = x.new.s.k.enc := rfl
  have hu := huni t hlt3
  rw [← hxd] at hu
  have hobx : ∃ C1, C1 = C0.alloc (.row x.enc 71 false) := ⟨_, rfl⟩
  obtain ⟨C1, hC1⟩ := hobx
  have wc1 : C1.wf := by rw [hC1]; exact AH.wf_alloc hc0 _
  have nc1 : C1.next = C0.next + 1 := by rw [hC1]; rfl
  have xc1 : Ext C0 C1 := by rw [hC1]; exact Ext.alloc C0 _
  have gx : C1.get C0.next = some (.row x.enc 71 false) := by rw [hC1, AH.get_new]
  have gzc1 := xc1.get hc0 gzc
  have gqc1 := xc1.get hc0 gqc
  have x1c := xc0.trans (by omega) xc1
  by_cases htn : x.tn = z.x.tn
  rotate_left
  · have htp : t ≠ pz := fun e => htn (hu.2 e)
    simp [E8, E84, E85, E86, hlt3, hlt3', hbx, gx1, gx2, gx3, xl, xt, ← hC1, gx, gzc1, zl, z1, e0, htn, hgt]
    refine ⟨xo, ?_⟩
    exact NX.of ⟨k3 - 1, by omega, t + 1, ow, tl, ao, co, by omega, x1c, by omega, gqc1, sow.ext hc0 xc1, by
      rcases hcase with ⟨h1, h2, h3, h4, h5⟩ | ⟨h1, h2, h3⟩
      · exact Or.inl ⟨by omega, h2, h3, h4, h5⟩
      · exact Or.inr ⟨by omega, h2, h3⟩, by simp [E1], by simp [E3], by simp [E4], by simp [E5], by simp [E6, hbx], by simp [E8], by simp [E9], by simp [E10], by simp [E72], by simp [E73], by simp [E74], by simp [E84, hbx], by simp [E85], by simp⟩
  have htp : t = pz := hu.1 htn
  have hxv : x.v = v := by rw [hxd]; subst htp; exact hpv hlt3
  obtain ⟨-, how, htl, hao, hco⟩ : t ≤ pz ∧ ow = [] ∧ tl = -1 ∧ ao = none ∧ co = 0 := by
    rcases hcase with h | ⟨h1, -, -⟩
    · exact h
    · omega
  subst how
  subst htl
  subst hao
  subst hco
  simp [E8, E84, E85, E86, hlt3, hlt3', hbx, gx1, gx2, gx3, xl, xt, ← hC1, gx, gzc1, zl, z1, e0, e1, htn]
  refine ⟨xo, ?_⟩
  have hlow : ∀ (D : AH), (∀ b, b < C1.next → b ≠ B1.next → D.get b = C1.get b) → Ext B1 D := fun D hD b hb => by rw [hD b (by omega) (by omega), xc1 b (by omega), xc0 b hb]
  have h8D : ∀ (D : AH), (∀ b, b < C1.next → b ≠ B1.next → D.get b = C1.get b) → Ext A8 D := fun D hD => x81.trans (by omega) (hlow D hD)
  refine LN.join 6 (fun k E A' => ∃ (u : Nat) (ao : Option Addr) (co : Nat), k + u = x.now.s.r.length + 1 ∧ 1 ≤ u ∧ (u ≤ x.now.s.r.length ∨ u = 1) ∧ (∀ b, b < C1.next → b ≠ B1.next → A'.get b = C1.get b) ∧ C1.next ≤ A'.next ∧ A'.get B1.next = some (.row (askM z.x.w (ownN x.v u) ao co).enc 67 false) ∧ Own C1.next A' 73 3 (.slice ao (ownN x.v u).length co) ((ownN x.v u).map Ow.enc) ∧ E.get 1 = .pointer (some ⟨A.next, 0, none⟩) ∧ E.get 3 = .pointer (some ⟨mb, 0, none⟩) ∧ E.get 4 = .int .i64 i ∧ E.get 5 = .pointer (some ⟨A4.next, 0, none⟩) ∧ E.get 6 = .slice a7 vs.length c7 ∧ E.get 8 = .pointer (some ⟨B0.next, 0, none⟩) ∧ E.get 9 = .pointer (some ⟨B1.next, 0, none⟩) ∧ E.get 10 = .int .i64 x.tl ∧ E.get 12 = .pointer (some ⟨C0.next, 0, none⟩) ∧ E.get 13 = .int .i64 u ∧ E.get 72 = .slice a8 acs.length c8 ∧ E.get 73 = .int .i64 acs.length ∧ E.get 74 = .int .i64 j ∧ E.get 84 = .slice a7 vs.length c7 ∧ E.get 85 = .int .i64 vs.length ∧ E.get 86 = .int .i64 t) (x.now.s.r.length)
    (fun E A' => ∃ (ao : Option Addr) (co : Nat), A'.wf ∧ (∀ b, b < C1.next → b ≠ B1.next → A'.get b = C1.get b) ∧ C1.next ≤ A'.next ∧ A'.get B1.next = some (.row (askM z.x.w (ownL x.v) ao co).enc 67 false) ∧ Own C1.next A' 73 3 (.slice ao (ownL x.v).length co) ((ownL x.v).map Ow.enc) ∧ E.get 1 = .pointer (some ⟨A.next, 0, none⟩) ∧ E.get 3 = .pointer (some ⟨mb, 0, none⟩) ∧ E.get 4 = .int .i64 i ∧ E.get 5 = .pointer (some ⟨A4.next, 0, none⟩) ∧ E.get 6 = .slice a7 vs.length c7 ∧ E.get 8 = .pointer (some ⟨B0.next, 0, none⟩) ∧ E.get 9 = .pointer (some ⟨B1.next, 0, none⟩) ∧ E.get 10 = .int .i64 x.tl ∧ E.get 12 = .pointer (some ⟨C0.next, 0, none⟩) ∧ E.get 72 = .slice a8 acs.length c8 ∧ E.get 73 = .int .i64 acs.length ∧ E.get 74 = .int .i64 j ∧ E.get 84 = .slice a7 vs.length c7 ∧ E.get 85 = .int .i64 vs.length ∧ E.get 86 = .int .i64 t)
    ⟨1, none, 0, by omega, by omega, Or.inr rfl, fun b _ _ => rfl, Nat.le_refl _, by rw [ownN_one]; exact gqc1, by rw [ownN_one]; exact Own.nil _ _ _ _, by simp [E1], by simp [E3], by simp [E4], by simp [E5], by simp [E6, hbx], by simp [E8], by simp [E9], by simp, by simp, by simp, by simp [E72], by simp [E73], by simp [E74], by simp [E84, hbx], by simp [E85], by simp [E86]⟩ ?_ ?_
  · clear E1 E3 E4 E5 E6 E8 E9 E10 E72 E73 E74 E84 E85 E86 E
    rintro k4 E D hwd hnd ⟨u, ao, co, hu4, hu1, hu2, kd, nd, ga, oo, E1, E3, E4, E5, E6, E8, E9, E10, E12, E13, E72, E73, E74, E84, E85, E86⟩
    have gxd : D.get C0.next = some (.row x.enc 71 false) := by rw [kd _ (by omega) (by omega)]; exact gx
    have hobt := alF (ownN x.v u) ao co
    obtain ⟨q1, q2, q3⟩ := hobt
    by_cases hlt : u < x.now.s.r.length
    rotate_left
    · have hlt' : ¬ (u : Int) < x.now.s.r.length := by omega
      have he : ownN x.v u = ownL x.v := by
        show ownN x.v u = ownN x.v x.now.s.r.length
        by_cases e : u = x.now.s.r.length
        · rw [e]
        · rw [show u = 1 by omega, show x.now.s.r.length = 0 by omega, ownN_one, ownN_zero]
      simp [E12, E13, gxd, xl, e18, hlt']
      exact NX.of ⟨ao, co, hwd, kd, nd, by rw [← he]; exact ga, by rw [← he]; exact oo, by simp [E1], by simp [E3], by simp [E4], by simp [E5], by simp [E6], by simp [E8], by simp [E9], by simp [E10], by simp [E12], by simp [E72], by simp [E73], by simp [E74], by simp [E84], by simp [E85], by simp [E86]⟩
    have hlt' : (u : Int) < x.now.s.r.length := by omega
    by_cases hh : x.now.s.w.hold ≤ x.w.setup
    rotate_left
    · have he : ownN x.v u = ownL x.v := by
        have hh' : ¬ x.v.now.w.hold ≤ x.v.w.setup := hh
        rw [ownN_no hh']; exact (ownN_no hh' _).symm
      simp [E12, E13, gxd, xl, e18, hlt, hlt', e14, e3, hh]
      exact NX.of ⟨ao, co, hwd, kd, nd, by rw [← he]; exact ga, by rw [← he]; exact oo, by simp [E1], by simp [E3], by simp [E4], by simp [E5], by simp [E6], by simp [E8], by simp [E9], by simp [E10], by simp [E12], by simp [E72], by simp [E73], by simp [E74], by simp [E84], by simp [E85], by simp [E86]⟩
    have hgi' : IntKind.i64.wrap ((u : Int) + 1) = ((u + 1 : Nat) : Int) := by rw [i64_in (by omega) (by omega)]; simp
    have hst := ownN_step x.v (i := u) (by omega) hlt hh
    obtain ⟨k', hk'⟩ : ∃ k', u = k' + 1 := ⟨u - 1, by omega⟩
    have hkl : k' < x.now.s.r.length := by omega
    have hgk : IntKind.i64.wrap ((u : Int) - 1) = (k' : Int) := by rw [i64_in (by omega) (by omega)]; omega
    have hsd := hsl.ext hw8 (h8D D kd)
    have hobt := hsd.one (AI.ints_at (l := x.now.s.r) (i := u) hlt)
    obtain ⟨b, o, cs, q, hba, u1, u2⟩ := hobt
    have hobt := hsd.one (AI.ints_at (l := x.now.s.r) (i := k') hkl)
    obtain ⟨b2, o2, cs2, q2', hba2, v1, v2⟩ := hobt
    rw [hba] at hba2; injection hba2 with hba2; injection hba2 with hb2 ho2 _; subst hb2; subst ho2
    rw [u1] at v1; injection v1 with v1; injection v1 with v1 _ _; subst v1
    have hownl : (ownN x.v u).length ≤ 1000 := by
      unfold ownN; split <;> simp <;> omega
    have hobx : ∃ w : Ow, w = ⟨x.now.s.r[k']'hkl, x.now.s.r[u]'hlt, x.now.s.w.bw⟩ := ⟨_, rfl⟩
    obtain ⟨w, hwd'⟩ := hobx
    have hobt := own_push oo (y := 24) (r := w.enc) hwd (by omega) ⟨rfl, rfl⟩ (by omega) (by omega) (by simp; omega)
    obtain ⟨u', D3, p1, p2, p3, p4⟩ := hobt
    have hst2 : ownN x.v (u + 1) = ownN x.v u ++ [w] := by
      rw [hst, hwd']; subst hk'; rfl
    rw [show (ownN x.v u).map Ow.enc ++ [w.enc] = (ownN x.v (u + 1)).map Ow.enc by rw [hst2]; simp] at p2
    have hobt := own_slm p2
    obtain ⟨a5, c5, rfl, -⟩ := hobt
    rw [show w.enc = [.int .i64 (x.now.s.r[k']'hkl), .int .i64 (x.now.s.r[u]'hlt), .int .u64 x.now.s.w.bw] by rw [hwd']; rfl] at p1
    have hset := askM_set z.x.w (ownN x.v u) (ownN x.v (u + 1)) ao a5 co c5
    have ga3 : D3.get B1.next = some (.row (askM z.x.w (ownN x.v u) ao co).enc 67 false) := by rw [p4 _ (by omega)]; exact ga
    have e8 : (askM z.x.w (ownN x.v u) ao co).enc[8]'(by rw [q1]; omega) = .slice ao (ownN x.v u).length co := rfl
    simp [E9, E12, E13, gxd, xl, e18, hlt, hlt', e14, e3, hh, ga, q1, e8, hgk, hba, u1, u2, hkl, v2, e12, p1, ga3, hset, hgi']
    exact NX.of ⟨k4 - 1, by omega, u + 1, a5, c5, by omega, by omega, Or.inl (by omega), fun b hb hb1 => by rw [AH.get_set, if_neg (by omega), p4 b (by omega), kd b hb hb1], by simp; omega, by rw [AH.get_set, if_pos rfl], own_kept p2 fun b y hb hy => by rw [AH.get_set, if_neg (by omega)], by simp [E1], by simp [E3], by simp [E4], by simp [E5], by simp [E6], by simp [E8], by simp [E9], by simp [E10], by simp [E12], by simp, by simp [E72], by simp [E73], by simp [E74], by simp [E84], by simp [E85], by simp [E86]⟩
  · clear E1 E3 E4 E5 E6 E8 E9 E10 E72 E73 E74 E84 E85 E86 E
    rintro E D ⟨ao, co, hwd, kd, nd, ga, oo, E1, E3, E4, E5, E6, E8, E9, E10, E12, E72, E73, E74, E84, E85, E86⟩
    have gxd : D.get C0.next = some (.row x.enc 71 false) := by rw [kd _ (by omega) (by omega)]; exact gx
    have gzd : D.get B0.next = some (.row z.enc 63 false) := by rw [kd _ (by omega) (by omega)]; exact gzc1
    have hw' : x.w = z.x.w := by rw [← hvw, ← hxv]; rfl
    have hk' : x.new.s.k = z.x.k := by rw [← hvk, ← hxv]; rfl
    have sD : Sl D 73 3 ao ((ownL x.v).map Ow.enc) := by
      have hobt := own_slm oo
      obtain ⟨a', c', e, s', -⟩ := hobt
      injection e with e _ _; subst e
      exact s'
    simp [E8, E12, E86, gxd, gzd, xl, zl, ew, en, zk, zw, hw', hk', hgt]
    exact NX.of ⟨k3 - 1, by omega, t + 1, ownL x.v, x.tl, ao, co, by omega, hlow D kd, by omega, ga, sD, Or.inr ⟨by omega, by rw [hxv], by rw [← hxv]; rfl⟩, by simp [E1], by simp [E3], by simp [E4], by simp [E5], by simp [E6], by simp [E8], by simp [E9], by simp [E10], by simp [E72], by simp [E73], by simp [E74], by simp [E84], by simp [E85], by simp⟩
end Go.Proofs.YtnlopamlmojbgaaGreat.AC
