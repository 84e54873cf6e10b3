import Derived.Test.YtmnpmjphhkiedaaT17
import Derived.Test.YtmnpmjphhkiedaaPLfibActsx5
import Derived.Test.YtmnpmjphhkiedaaPLfibActsx6
namespace Go.Proofs.Ytmnpmjphhkiedaa.LF
open Go.RowKit Go.Proofs.YtmnpmjphhkiedaaW.PrintWords Go.Proofs.YtmnpmjphhkiedaaW.PrintLast Go.Proofs.YtmnpmjphhkiedaaW.PrintMore Go.Proofs.Ytmnpmjphhkiedaa.PLfibActs Go.Proofs.Ytmnpmjphhkiedaa.Lib

/-- The document's row. -/
def toR (r : S95) : S144 := ⟨r.f0, r.f1.f0, r.f1.f1⟩
theorem rdR (L : List S95) (i : Nat) (h : i < L.length) : rd_T144 (L.map toR) (i : Int) = toR L[i] := by
  simp [rd_T144, h]
theorem next_i (i n : Nat) (hi : i < n) (hn : n ≤ 1000000) : wrap64 ((i : Int) + 1) = ((i + 1 : Nat) : Int) := by
  unfold wrap64
  omega
/-- What find tells. -/
def fnd (L : List S95) (t : Int) : Int × Int × Int × Bool := match L.find? (fun r => r.f0 == t) with | some r => (r.f0, r.f1.f0, r.f1.f1, true) | none => (0, 0, 0, false)
theorem find_l0 (L : List S95) (t : Int) (hL : L.length ≤ 64) : ∀ (k i : Nat), L.length < k + i → i ≤ L.length → viaductref05_find.l0 k (L.map toR) t (i : Int) = some (fnd (L.drop i) t) := by
  intro k
  induction k with
  | zero => intro i h1 h2; omega
  | succ k ih =>
    intro i h1 h2
    unfold viaductref05_find.l0
    rw [List.length_map]
    by_cases hlt : i < L.length
    · rw [if_pos (by omega), if_pos (by omega), rdR L i hlt, List.drop_eq_getElem_cons hlt, next_i i _ hlt (by omega), ih (i + 1) (by omega) (by omega)]
      by_cases he : L[i].f0 = t
      · rw [if_pos (by simpa [toR] using he)]
        generalize L.drop (i + 1) = ys
        simp [fnd, List.find?_cons, he, toR]
      · rw [if_neg (by simpa [toR] using he)]
        have hb : (L[i].f0 == t) = false := by simpa using he
        generalize L.drop (i + 1) = ys
        simp [fnd, List.find?_cons, hb]
    · have hi : i = L.length := by omega
      subst hi
      rw [if_neg (by omega)]
      simp [fnd]
theorem find_f (L : List S95) (t : Int) (hL : L.length ≤ 64) : viaductref05_find.f 100 (L.map toR) t = some (fnd L t) := by
  have := find_l0 L t hL 100 0 (by omega) (by omega)
  simpa [viaductref05_find.f] using this
theorem fnd_lk (L : List S95) (t : Int) : (fnd L t).2.2.2 = (lk L t).isSome ∧ ∀ o, lk L t = some o → (fnd L t).2.1 = o.f0 ∧ (fnd L t).2.2.1 = o.f1 := by
  unfold fnd lk
  cases h : L.find? (fun r => r.f0 == t) with
  | none => simp
  | some r => simp

theorem without_l0 (L : List S95) (t : Int) (hL : L.length ≤ 64) : ∀ (k i : Nat) (acc : List S144), L.length < k + i → i ≤ L.length → acc.length ≤ i → viaductref05_without.l0 k (L.map toR) t acc (i : Int) = some (acc ++ (delR (L.drop i) t).map toR) := by
  intro k
  induction k with
  | zero => intro i acc h1 h2; omega
  | succ k ih =>
    intro i acc h1 h2 h3
    unfold viaductref05_without.l0
    rw [List.length_map]
    by_cases hlt : i < L.length
    · rw [if_pos (by omega), if_pos (by omega), rdR L i hlt, List.drop_eq_getElem_cons hlt, next_i i _ hlt (by omega)]
      by_cases he : L[i].f0 = t
      · rw [if_pos (by simpa [toR] using he), ih (i + 1) acc (by omega) (by omega) (by omega)]
        generalize L.drop (i + 1) = ys
        simp [delR, he]
      · rw [if_neg (by simpa [toR] using he), if_pos (by omega), ih (i + 1) _ (by omega) (by omega) (by simp; omega)]
        generalize L.drop (i + 1) = ys
        simp [delR, he, toR]
    · have hi : i = L.length := by omega
      subst hi
      rw [if_neg (by omega)]
      simp [delR]
theorem without_f (L : List S95) (t : Int) (hL : L.length ≤ 64) : viaductref05_without.f 100 (L.map toR) t = some ((delR L t).map toR) := by
  have := without_l0 L t hL 100 0 [] (by omega) (by omega) (by simp)
  simpa [viaductref05_without.f] using this

/-- How with goes on. -/
def wGo : List S95 → Bool → S95 → List S95
  | [], b, x => if b = true then [] else [x]
  | y :: ys, b, x => if y.f0 = x.f0 then wGo ys b x else if y.f0 > x.f0 ∧ b = false then x :: y :: wGo ys true x else y :: wGo ys b x
theorem with_l0 (L : List S95) (x : S95) (hL : L.length ≤ 64) : ∀ (k i : Nat) (acc : List S144) (b : Bool), L.length < k + i → i ≤ L.length → acc.length ≤ i + b.toNat → viaductref05_with.l0 k (L.map toR) acc b (i : Int) x.f0 x.f1.f0 x.f1.f1 = some (acc ++ (wGo (L.drop i) b x).map toR) := by
  intro k
  induction k with
  | zero => intro i acc b h1 h2; omega
  | succ k ih =>
    intro i acc b h1 h2 h3
    have hb1 : b.toNat ≤ 1 := Bool.toNat_le b
    unfold viaductref05_with.l0
    rw [List.length_map]
    by_cases hlt : i < L.length
    · rw [if_pos (by omega), if_pos (by omega), rdR L i hlt, List.drop_eq_getElem_cons hlt, next_i i _ hlt (by omega)]
      by_cases he : L[i].f0 = x.f0
      · rw [if_pos (by simpa [toR] using he), ih (i + 1) acc b (by omega) (by omega) (by omega)]
        generalize L.drop (i + 1) = ys
        simp [wGo, he]
      · rw [if_neg (by simpa [toR] using he)]
        by_cases hg : L[i].f0 > x.f0
        · rw [if_pos (by simpa [toR] using hg)]
          cases b with
          | true =>
            rw [if_pos rfl, if_pos (by omega), ih (i + 1) _ true (by omega) (by omega) (by simp at h3 ⊢; omega)]
            generalize L.drop (i + 1) = ys
            simp [wGo, he, toR]
          | false =>
            rw [if_neg (by simp), if_pos (by omega), Option.bind_some, if_pos (by simp at h3 ⊢; omega)]
            rw [ih (i + 1) _ true (by omega) (by omega) ?_]
            · generalize L.drop (i + 1) = ys
              simp [wGo, he, hg, toR]
            · simp at h3 ⊢; omega
        · rw [if_neg (by simpa [toR] using hg), if_pos (by omega), ih (i + 1) _ b (by omega) (by omega) (by simp; omega)]
          generalize L.drop (i + 1) = ys
          simp [wGo, he, hg, toR]
    · have hi : i = L.length := by omega
      subst hi
      rw [if_neg (by omega)]
      cases b with
      | true => simp [wGo]
      | false => rw [if_neg (by simp), if_pos (by omega)]; simp [wGo, toR]
theorem wGo_true {ys : List S95} {x : S95} (h : ∀ y ∈ ys, x.f0 < y.f0) : wGo ys true x = ys := by
  induction ys with
  | nil => rfl
  | cons y ys ih =>
    have h1 := h y (by simp)
    unfold wGo
    rw [if_neg (by omega), if_neg (by simp), ih (fun z hz => h z (by simp [hz]))]
theorem wGo_false {ys : List S95} {x : S95} (h : ∀ y ∈ ys, x.f0 < y.f0) : wGo ys false x = x :: ys := by
  cases ys with
  | nil => rfl
  | cons y ys =>
    have h1 := h y (by simp)
    unfold wGo
    rw [if_neg (by omega), if_pos ⟨h1, rfl⟩, wGo_true (fun z hz => h z (by simp [hz]))]
theorem wGo_ins {L : List S95} {x : S95} (h : L.Pairwise (fun a b => a.f0 < b.f0)) : wGo L false x = insR L x := by
  induction L with
  | nil => rfl
  | cons y ys ih =>
    obtain ⟨h1, h2⟩ := List.pairwise_cons.1 h
    unfold wGo insR
    by_cases he : y.f0 = x.f0
    · rw [if_pos he, if_neg (by omega), if_pos he, wGo_false (fun z hz => by have := h1 z hz; omega)]
    · rw [if_neg he]
      by_cases hl : y.f0 < x.f0
      · rw [if_neg (by omega), if_pos hl, ih h2]
      · rw [if_pos ⟨by omega, rfl⟩, if_neg hl, if_neg he, wGo_true (fun z hz => by have := h1 z hz; omega)]
theorem good_pw {L : List S95} (hg : Good L) : L.Pairwise (fun a b => a.f0 < b.f0) := by
  rw [List.pairwise_iff_getElem]
  intro i j hi hj hij
  have := hg.2.2 i j hij hj
  simpa [r95, hi, hj] using this
theorem with_f {L : List S95} (hg : Good L) (x : S95) : viaductref05_with.f 100 (L.map toR) x.f0 x.f1.f0 x.f1.f1 = some ((insR L x).map toR) := by
  have hL := hg.1
  have := with_l0 L x hL 100 0 [] false (by omega) (by omega) (by simp)
  rw [List.drop_zero, wGo_ins (good_pw hg), List.nil_append] at this
  exact this
theorem put_f {L : List S95} (hg : Good L) (most : Int) (x : S95) : viaductref05_put.f 100 (L.map toR) most x.f0 x.f1.f0 x.f1.f1 = some ((putL L most x).1.map toR, (putL L most x).2) := by
  unfold viaductref05_put.f putL
  rw [find_f L _ hg.1, Option.bind_some, (fnd_lk L x.f0).1, with_f hg]
  cases (lk L x.f0).isSome with
  | true => simp
  | false =>
    by_cases h : most ≤ L.length
    · simp [h]
    · simp [h]
theorem bindable_f (l : Int) : viaductref05_Bindable.f l = some (bindable l) := by
  unfold viaductref05_Bindable.f bindable
  by_cases h : 16 ≤ l <;> simp [h]
theorem may_f (n l : Int) : viaductref05_May.f n l = some (mayOut n l) := by
  unfold viaductref05_May.f mayOut
  rw [bindable_f]
  by_cases h : 0 ≤ n <;> by_cases h2 : n < 16 <;> cases bindable l <;> simp [h, h2]
theorem bind_f {L : List S95} (hg : Good L) (T : List S95) (most t n l : Int) : viaductref05_Bind.f 100 (L.map toR) (T.map toR) most t n l = some ((bindL L most t n l).1.map toR, T.map toR, most, (bindL L most t n l).2) := by
  unfold viaductref05_Bind.f bindL
  rw [bindable_f, may_f, Option.bind_some, Option.bind_some]
  have := put_f hg most ⟨t, ⟨n, l⟩⟩
  simp only at this
  rw [this]
  cases bindable t <;> cases mayOut n l <;> simp
theorem map_f {T : List S95} (hg : Good T) (L : List S95) (most t n l : Int) : viaductref05_Map.f 100 (L.map toR) (T.map toR) most t n l = some (L.map toR, (mapL T most t n l).1.map toR, most, (mapL T most t n l).2) := by
  unfold viaductref05_Map.f mapL
  rw [may_f]
  have := put_f hg most ⟨t, ⟨n, l⟩⟩
  simp only at this
  rw [this]
  by_cases h1 : t < 1
  · simp [h1, show ¬ 1 ≤ t by omega]
  · by_cases h2 : t > 65535
    · simp [h1, h2, show 1 ≤ t by omega, show ¬ t ≤ 65535 by omega]
    · cases mayOut n l <;> simp [h1, h2, show 1 ≤ t by omega, show t ≤ 65535 by omega]
theorem free_f (L T : List S95) (hL : L.length ≤ 64) (most t : Int) : viaductref05_Free.f 100 (L.map toR) (T.map toR) most t = some ((dropL L t).1.map toR, T.map toR, most, (dropL L t).2) := by
  unfold viaductref05_Free.f dropL
  rw [find_f L _ hL, Option.bind_some, (fnd_lk L t).1, without_f L t hL]
  cases (lk L t).isSome <;> simp
theorem unmap_f (L T : List S95) (hT : T.length ≤ 64) (most t : Int) : viaductref05_Unmap.f 100 (L.map toR) (T.map toR) most t = some (L.map toR, (dropL T t).1.map toR, most, (dropL T t).2) := by
  unfold viaductref05_Unmap.f dropL
  rw [find_f T _ hT, Option.bind_some, (fnd_lk T t).1, without_f T t hT]
  cases (lk T t).isSome <;> simp
theorem rows_l0 (L : List S95) (hL : L.length ≤ 64) : ∀ (k i : Nat), L.length < k + i → i ≤ L.length → viaductlaw05_rows.l0 k L (L.map toR) (L.length : Int) (i : Int) = some true := by
  intro k
  induction k with
  | zero => intro i h1 h2; omega
  | succ k ih =>
    intro i h1 h2
    unfold viaductlaw05_rows.l0
    rw [List.length_map]
    by_cases hlt : i < L.length
    · have hr : rd_T95 L (i : Int) = L[i] := by simp [rd_T95, hlt]
      rw [if_pos (by omega), if_pos (by omega), if_pos (by omega), if_pos (by omega), rdR L i hlt, next_i i _ hlt (by omega), ih (i + 1) (by omega) (by omega), hr]
      simp [toR]
    · rw [if_neg (by omega)]
theorem rows_f (L : List S95) (hL : L.length ≤ 64) : viaductlaw05_rows.f 100 L (L.map toR) = some true := by
  unfold viaductlaw05_rows.f
  rw [List.length_map, if_pos rfl]
  exact rows_l0 L hL 100 0 (by omega) (by omega)
theorem same3_l0 (L : List S118) (hL : L.length ≤ 100) : ∀ (k i : Nat), L.length < k + i → i ≤ L.length → viaductref03_Same.l0 k L L (i : Int) = some true := by
  intro k
  induction k with
  | zero => intro i h1 h2; omega
  | succ k ih =>
    intro i h1 h2
    unfold viaductref03_Same.l0
    by_cases hlt : i < L.length
    · rw [if_pos (by omega), if_pos (by omega), if_pos (by omega), next_i i _ hlt (by omega), ih (i + 1) (by omega) (by omega)]
      simp
    · rw [if_neg (by omega)]
theorem same_f (st : List S118) (tun ttl : Int) (pay : ByteArray) (hL : st.length ≤ 100) : viaductref05_Same.f 200 st tun ttl pay st tun ttl pay = some true := by
  unfold viaductref05_Same.f viaductref03_Same.f
  rw [if_pos rfl]
  have := same3_l0 st hL 200 0 (by omega) (by omega)
  rw [show ((0 : Nat) : Int) = 0 from rfl] at this
  rw [this]
  simp
theorem may3_f (x : S118) : viaductref03_May.f x.f0 x.f1 x.f2 = some (validE x) := by
  unfold viaductref03_May.f validE
  by_cases h1 : 0 ≤ x.f0 <;> by_cases h2 : x.f0 ≤ 1048575 <;> by_cases h3 : 0 ≤ x.f1 <;> by_cases h4 : x.f1 ≤ 7 <;> by_cases h5 : 0 ≤ x.f2 <;> simp [h1, h2, h3, h4, h5]
theorem packet_l0 (L : List S118) (tun ttl : Int) (pay : ByteArray) (hL : L.length ≤ 100) : ∀ (k i : Nat), L.length < k + i → i ≤ L.length → viaductref05_Packet.l0 k (i : Int) L tun ttl pay = some (!((L.drop i).any fun x => !validE x)) := by
  intro k
  induction k with
  | zero => intro i h1 h2; omega
  | succ k ih =>
    intro i h1 h2
    unfold viaductref05_Packet.l0
    by_cases hlt : i < L.length
    · have hr : rd_T118 L (i : Int) = L[i] := by simp [rd_T118, hlt]
      rw [if_pos (by omega), if_pos (by omega), hr, may3_f, Option.bind_some, next_i i _ hlt (by omega), ih (i + 1) (by omega) (by omega), List.drop_eq_getElem_cons hlt]
      generalize L.drop (i + 1) = ys
      generalize L[i] = y
      cases h : validE y <;> simp [h]
    · have hi : i = L.length := by omega
      subst hi
      rw [if_neg (by omega)]
      simp
theorem packet_f (p : Pkt) (hL : p.st.length ≤ 100) : viaductref05_Packet.f 200 p.st p.tun p.ttl p.pay = some (validP p) := by
  have h0 := packet_l0 p.st p.tun p.ttl p.pay hL 199 0 (by omega) (by omega)
  rw [List.drop_zero, show ((0 : Nat) : Int) = 0 from rfl] at h0
  unfold viaductref05_Packet.f validP
  by_cases h1 : (p.st.length : Int) > 8
  · rw [if_pos h1]
    simp [viaductref05_Packet.j0, show ¬ p.st.length ≤ 8 by omega]
  · rw [if_neg h1]
    by_cases h2 : p.ttl < 0
    · rw [if_pos h2]
      simp [viaductref05_Packet.j0, show ¬ 0 ≤ p.ttl by omega]
    · rw [if_neg h2]
      by_cases h3 : p.ttl > 255
      · rw [if_pos h3]
        simp [viaductref05_Packet.j0, show ¬ p.ttl ≤ 255 by omega]
      · rw [if_neg h3]
        by_cases h4 : p.pay.size ≤ 4096
        · have h5 : decide ((p.pay.size : Int) > 4096) = false := by simp; omega
          rw [h5]
          simp only [viaductref05_Packet.j0]
          rw [if_neg (by simp), h0]
          have e1 : p.st.length ≤ 8 := by omega
          have e2 : 0 ≤ p.ttl := by omega
          have e3 : p.ttl ≤ 255 := by omega
          simp only [e1, e2, e3, h4, decide_true, Bool.true_and]
        · have h5 : decide ((p.pay.size : Int) > 4096) = true := by simp; omega
          rw [h5]
          simp [viaductref05_Packet.j0, h4]
end Go.Proofs.Ytmnpmjphhkiedaa.LF
