import Derived.Test.YtmnpmjphhkiedaaT6
namespace Go.Proofs.Ytmnpmjphhkiedaa.LF
open Go.RowKit Go.Proofs.YtmnpmjphhkiedaaW.PrintWords Go.Proofs.YtmnpmjphhkiedaaW.PrintLast Go.Proofs.YtmnpmjphhkiedaaW.PrintMore Go.Proofs.Ytmnpmjphhkiedaa.PLfibActs Go.Proofs.Ytmnpmjphhkiedaa.Lib

/-- The entry at a place. -/
def r118 (L : List S118) (i : Nat) : S118 := L.getD i z118
theorem at118 {w wr : World} {A : Option Addr} {n : Nat} {xs : List S118} (h : Kd.C k118 w A n xs) (hb : Below w.heap.size w wr) (i : Nat) (h1 : i < n) : ∃ ad, A = some ad ∧ wr.cell? (ad.add (i * 3)) = some (.int .i64 (r118 xs i).f0) ∧ wr.cell? ⟨(ad.add (i * 3)).block, (ad.add (i * 3)).off + 1, none⟩ = some (.int .i64 (r118 xs i).f1) ∧ wr.cell? ⟨(ad.add (i * 3)).block, (ad.add (i * 3)).off + 2, none⟩ = some (.int .i64 (r118 xs i).f2) := by
  obtain ⟨ad, e, c0, c1, c2⟩ := at_T118 h i (by omega) (by omega)
  simp only [Int.toNat_natCast, rd_T118] at c0 c1 c2
  exact ⟨ad, e, (hb.cell (World.block_lt_of_cell? w _ c0)).trans c0, (hb.cell (World.block_lt_of_cell? w _ c1)).trans c1, (hb.cell (World.block_lt_of_cell? w _ c2)).trans c2⟩

/-- May an entry be? -/
def validE (e : S118) : Bool := decide (0 ≤ e.f0) && decide (e.f0 ≤ 1048575) && decide (0 ≤ e.f1) && decide (e.f1 ≤ 7) && decide (0 ≤ e.f2) && decide (e.f2 ≤ 255)
theorem validE_f (a b c : Int) : shim_May.f a b c = some (validE ⟨a, b, c⟩) := by
  by_cases h1 : 0 ≤ a <;> by_cases h2 : a ≤ 1048575 <;> by_cases h3 : 0 ≤ b <;> by_cases h4 : b ≤ 7 <;> by_cases h5 : 0 ≤ c <;> by_cases h6 : c ≤ 255 <;> simp [shim_May.f, shim_within.f, validE, h1, h2, h3, h4, h5, h6]
theorem may_entry (a b c : Int) (w : World) : Calls Try.prog 98 #[.agg #[.int .i64 a, .int .i64 b, .int .i64 c]] w fun e w' => e = .returned (.bool (validE ⟨a, b, c⟩)) ∧ Below w.heap.size w w' := by
  refine (shim_May.calls a b c _ w (validE_f a b c)).mono ?_
  rintro e w' ⟨rfl, h⟩
  exact ⟨rfl, h⟩

set_option maxHeartbeats 400000 in
theorem may1_any (a b c : Int) (w : World) : Calls Try.prog 97 #[.agg #[.int .i64 a, .int .i64 b, .int .i64 c]] w fun e w' => e = .returned (.bool (!validE ⟨a, b, c⟩)) ∧ Below w.heap.size w w' := by
  have hb0 : Below w.heap.size w (w.alloc (.cells #[.int .i64 a, .int .i64 b, .int .i64 c] 118)) := (Below.refl _ _).alloc (Nat.le_refl _) _
  go_enter Try.func97, Try.ntmps97
  go_wp2_with (go_at_call 98; refine (may_entry _ _ _ _).mono ?_; rintro e w1 ⟨rfl, hb1⟩)
  go_ret
  exact ⟨rfl, below_step hb0 hb1⟩

def IdxPost (L : List S118) (w : World) (e : Ending) (w' : World) : Prop :=
  ∃ r : Int, e = .returned (.int .i64 r) ∧ (decide (0 ≤ r) = L.any (fun x => !validE x)) ∧ Below w.heap.size w w'

set_option maxRecDepth 100000 in
set_option maxHeartbeats 1000000 in
theorem index_any (A : Option Addr) (c : Nat) (L : List S118) (w : World) (hr : Kd.C k118 w A L.length L) (hn : L.length ≤ 1000) :
    Calls Try.prog 113 #[.slice A L.length c, .func (.func 97) #[] #[]] w (IdxPost L w) := by
  have HR := Aside0.mk hr
  clear hr
  go_enter Try.func113, Try.ntmps113
  go_wp2
  go_loopw [5, 8] (fun _ i wr => ∃ x : Nat, x ≤ L.length ∧ i = .int .i64 x ∧ Aside0 ((L.take x).any (fun x => !validE x) = false) ∧ Aside0 (Below w.heap.size w wr)) (fun _ i _ => L.length - (intOf i).toNat)
  case atStart => exact ⟨0, Nat.zero_le _, rfl, ⟨by simp⟩, ⟨Below.refl _ _⟩⟩
  case round =>
    obtain ⟨x, hx, rfl, HN, HB⟩ := hrel
    by_cases hlt : x < L.length
    · obtain ⟨ad, e, c0, c1, c2⟩ := at118 HR.out HB.out x hlt
      cases e
      have hgx : r118 L x = L[x] := by simp [r118, hlt]
      have HX := Aside0.mk hgx
      clear hgx
      cases hv : validE (r118 L x) with
      | true =>
        have HV := Aside0.mk hv
        clear hv
        go_wp2_with (go_at_call 97; refine (may1_any _ _ _ _).mono ?_; rw [show (⟨(r118 L x).f0, (r118 L x).f1, (r118 L x).f2⟩ : S118) = r118 L x from rfl, HV.out]; rintro e w1 ⟨rfl, hb1⟩)
        exact ⟨⟨x + 1, by omega, by go_num, ⟨by rw [List.take_succ_eq_append_getElem hlt, List.any_append, HN.out, ← HX.out]; simp [HV.out]⟩, ⟨below_step HB.out hb1⟩⟩, by simp [intOf]; omega⟩
      | false =>
        have HV := Aside0.mk hv
        clear hv
        go_wp2_with (go_at_call 97; refine (may1_any _ _ _ _).mono ?_; rw [show (⟨(r118 L x).f0, (r118 L x).f1, (r118 L x).f2⟩ : S118) = r118 L x from rfl, HV.out]; rintro e w1 ⟨rfl, hb1⟩)
        go_ret
        refine ⟨x, rfl, ?_, below_step HB.out hb1⟩
        rw [decide_eq_true (by omega)]
        exact (List.any_eq_true.2 ⟨L[x], List.getElem_mem hlt, by rw [← HX.out, HV.out]; rfl⟩).symm
    · go_wp2
      go_ret
      refine ⟨-1, rfl, ?_, HB.out⟩
      have := HN.out
      rw [List.take_of_length_le (by omega)] at this
      rw [this]; rfl

set_option maxHeartbeats 400000 in
theorem contains_any (A : Option Addr) (c : Nat) (L : List S118) (w : World) (hr : Kd.C k118 w A L.length L) (hn : L.length ≤ 1000) :
    Calls Try.prog 96 #[.slice A L.length c, .func (.func 97) #[] #[]] w fun e w' => e = .returned (.bool (L.any (fun x => !validE x))) ∧ Below w.heap.size w w' := by
  have HR := Aside0.mk hr
  clear hr
  go_enter Try.func96, Try.ntmps96
  go_wp2_with (go_at_call 113; refine (index_any _ _ _ _ HR.out hn).mono ?_; rintro e w1 ⟨r, rfl, hr, hb⟩; have HR2 := Aside0.mk hr; clear hr)
  go_ret
  exact ⟨by rw [← HR2.out]; rfl, hb⟩

/-- A packet. -/
structure Pkt where
  st : List S118
  tun : Int
  ttl : Int
  pay : ByteArray
def validP (p : Pkt) : Bool := decide (p.st.length ≤ 8) && decide (0 ≤ p.ttl) && decide (p.ttl ≤ 255) && decide (p.pay.size ≤ 4096) && !(p.st.any fun x => !validE x)

set_option maxRecDepth 100000 in
set_option maxHeartbeats 1000000 in
theorem mayP_any (A : Option Addr) (c : Nat) (p : Pkt) (w : World) (hr : Kd.C k118 w A p.st.length p.st) (hn : p.pay.size ≤ 140737488351232) (hl : p.st.length ≤ 140737488351232) :
    Calls Try.prog 60 #[.agg #[.slice A p.st.length c, .int .i64 p.tun, .int .i64 p.ttl, .string p.pay]] w fun e w' => e = .returned (.bool (validP p)) ∧ Below w.heap.size w w' := by
  obtain ⟨st, tun, ttl, pay⟩ := p
  simp only at hr hn hl ⊢
  have hb0 : Below w.heap.size w (w.alloc (.cells #[.slice A st.length c, .int .i64 tun, .int .i64 ttl, .string pay] 25)) := (Below.refl _ _).alloc (Nat.le_refl _) _
  have HR := Aside0.mk (Kd.C_below hr hb0)
  clear hr
  by_cases h1 : st.length ≤ 8
  · by_cases h2 : 0 ≤ ttl
    · by_cases h3 : ttl ≤ 255
      · by_cases h4 : pay.size ≤ 4096
        · have HV : Aside0 (validP ⟨st, tun, ttl, pay⟩ = !(st.any fun x => !validE x)) := ⟨by simp [validP, h1, h2, h3, h4]⟩
          go_enter Try.func60, Try.ntmps60
          go_wp2_with (go_at_call 96; refine (contains_any _ _ _ _ HR.out (by omega)).mono ?_; rintro e w1 ⟨rfl, hb⟩)
          go_ret
          exact ⟨by rw [HV.out]; rfl, below_step hb0 hb⟩
        · have HV : Aside0 (validP ⟨st, tun, ttl, pay⟩ = false) := ⟨by simp [validP, h1, h2, h3]; omega⟩
          have h5 : 4096 < pay.size := by omega
          go_enter Try.func60, Try.ntmps60
          go_wp2
          go_ret
          exact ⟨by rw [HV.out]; rfl, hb0⟩
      · have HV : Aside0 (validP ⟨st, tun, ttl, pay⟩ = false) := ⟨by simp only [validP]; rw [decide_eq_false h3]; simp⟩
        go_enter Try.func60, Try.ntmps60
        go_wp2
        go_ret
        exact ⟨by rw [HV.out]; rfl, hb0⟩
    · have HV : Aside0 (validP ⟨st, tun, ttl, pay⟩ = false) := ⟨by simp only [validP]; rw [decide_eq_false h2]; simp⟩
      go_enter Try.func60, Try.ntmps60
      go_wp2
      go_ret
      exact ⟨by rw [HV.out]; rfl, hb0⟩
  · have HV : Aside0 (validP ⟨st, tun, ttl, pay⟩ = false) := ⟨by simp only [validP]; rw [decide_eq_false h1]; simp⟩
    go_enter Try.func60, Try.ntmps60
    go_wp2
    go_ret
    exact ⟨by rw [HV.out]; rfl, hb0⟩
end Go.Proofs.Ytmnpmjphhkiedaa.LF
