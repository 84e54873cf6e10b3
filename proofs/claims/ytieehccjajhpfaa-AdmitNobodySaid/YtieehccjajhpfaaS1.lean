/-
  What the functions of the program, and those of the law, do.
-/
import Derived.Test.YtieehccjajhpfaaCAQ
import Derived.Test.YtieehccjajhpfaaCAC
import Derived.Test.YtieehccjajhpfaaP2
import Derived.Test.YtieehccjajhpfaaP3
import Derived.Sort.AssemblyPlain
set_option linter.unusedSimpArgs false
set_option linter.unusedVariables false
/- Contracts of cmp's functions. -/
namespace Go.Proofs.Ytieehccjajhpfaa.AC
open Go Go.AI Go.Proofs Go.Proofs.Ytieehccjajhpfaa.AQ
set_option linter.unusedVariables false
theorem isNaN_ok (n : Int) (A : AH) : ACall Try.prog 70 [.int .i64 n] A fun v A' => v = .bool false ∧ A' = A := by
  refine code70.call (by simp) fun hwf => ?_
  unfold c70
  simp
  exact DN.of ⟨rfl, rfl⟩
def cmpI (a b : Int) : Int := if a < b then -1 else if b < a then 1 else 0
theorem compare_ok (a b : Int) (A : AH) : ACall Try.prog 56 [.int .i64 a, .int .i64 b] A fun v A' => v = .int .i64 (cmpI a b) ∧ A' = A := by
  refine code56.call (by simp) fun hwf => ?_
  unfold c56
  simp
  refine CN.use (isNaN_ok a A) ?_
  rintro _ _ - - ⟨rfl, rfl⟩
  simp
  refine CN.use (isNaN_ok b _) ?_
  rintro _ _ - - ⟨rfl, rfl⟩
  simp
  split
  · exact DN.of (by simp [cmpI, *])
  · split <;> exact DN.of (by simp [cmpI, *])
def orI (l : List Int) : Int := (l.find? (· ≠ 0)).getD 0
theorem orI_cons (x : Int) (l : List Int) : orI (x :: l) = if x = 0 then orI l else x := by
  unfold orI; by_cases h : x = 0 <;> simp [h]
theorem or_ok {A : AH} {a : Option Addr} {c : Nat} {l : List Int} (h : Sl A 3 1 a (ints l)) (hl : l.length < 1000000000000) : ACall Try.prog 55 [.slice a l.length c] A fun v A' => v = .int .i64 (orI l) ∧ A' = A := by
  refine code55.call (by simp) fun hwf => ?_
  unfold c55
  simp
  refine LN.use (fun m E A' => ∃ k, m + k = l.length ∧ E.get 3 = .int .i64 0 ∧ E.get 6 = .slice a l.length c ∧ E.get 7 = .int .i64 l.length ∧ E.get 8 = .int .i64 k ∧ A' = A ∧ orI l = orI (l.drop k)) l.length ⟨0, by simp⟩ ?_
  rintro m E _ - - ⟨k, hk, h3, h6, h7, h8, rfl, hI⟩
  have hd := List.drop_eq_getElem_cons (l := l) (i := k)
  by_cases hlt : k < l.length
  · have hlt' : (k : Int) < l.length := by omega
    have hobt := h.one (AI.ints_at (l := l) (i := k) (by omega))
    obtain ⟨b, o, cs, ro, rfl, h1, h2⟩ := hobt
    rw [hd hlt, orI_cons] at hI
    by_cases h0 : l[k] = 0
    · rw [if_pos h0] at hI
      simp [h1, h2, h3, h6, h7, h8, hlt, hlt', h0]
      exact NX.of ⟨m - 1, by omega, k + 1, by omega, by simp [h3, h6, h7, hI, i64_in (x := (k : Int) + 1) (by omega) (by omega)]⟩
    · rw [if_neg h0] at hI
      simp [h1, h2, h3, h6, h7, h8, hlt, hlt', h0]
      exact DN.of ⟨by rw [hI], rfl⟩
  · have hlt' : ¬ (k : Int) < l.length := by omega
    simp [h3, h6, h7, h8, hlt']
    exact DN.of ⟨by rw [hI, List.drop_eq_nil_of_le (by omega)]; rfl, rfl⟩
end Go.Proofs.Ytieehccjajhpfaa.AC
/- Contracts of admit's order of keys. -/
namespace Go.Proofs.Ytieehccjajhpfaa.AC
open Go Go.AI Go.Proofs Go.Proofs.Ytieehccjajhpfaa.AQ
set_option linter.unusedVariables false
structure Key where
  tail : Int
  tunnel : Int
  head : Int
  lsp : Int
  deriving DecidableEq
def Key.enc (k : Key) : List Value := [.int .i64 k.tail, .int .i64 k.tunnel, .int .i64 k.head, .int .i64 k.lsp]
def keyV (k : Key) : Value := .agg #[.int .i64 k.tail, .int .i64 k.tunnel, .int .i64 k.head, .int .i64 k.lsp]
@[simp] theorem kenc_len (k : Key) : k.enc.length = 4 := (rfl)
@[simp] theorem kenc_one (k : Key) : k.enc.all oneB = true := (rfl)
@[simp] theorem kenc_take (k : Key) : k.enc.take 4 = k.enc := (rfl)
theorem key_aEq (A : AH) (x y : Key) : aEq Try.prog A 20 23 (.agg x.enc.toArray) (.agg y.enc.toArray) = some (decide (x = y)) := by
  cases x; cases y; simp [Key.enc]
@[simp high] theorem key_eql (A : AH) (x y : Key) : aBin Try.prog A .eql 23 (.agg x.enc.toArray) (.agg y.enc.toArray) = some (.bool (decide (x = y))) := by
  rw [aBin_eql_agg A _ _ _ eg23, key_aEq]; rfl
@[simp high] theorem key_neq (A : AH) (x y : Key) : aBin Try.prog A .neq 23 (.agg x.enc.toArray) (.agg y.enc.toArray) = some (.bool (!decide (x = y))) := by
  rw [aBin_neq_agg A _ _ _ eg23, key_aEq]; rfl
/-- Does a key come before another one? -/
def Key.bef (a b : Key) : Bool := decide (a.head < b.head ∨ a.head = b.head ∧ (a.tunnel < b.tunnel ∨ a.tunnel = b.tunnel ∧ (a.tail < b.tail ∨ a.tail = b.tail ∧ a.lsp < b.lsp)))
theorem order_ok (x y : Key) (A : AH) : ACall Try.prog 34 [keyV x, keyV y] A fun v A' => Ext A A' ∧ v = .int .i64 (orI [cmpI x.head y.head, cmpI x.tunnel y.tunnel, cmpI x.tail y.tail, cmpI x.lsp y.lsp]) := by
  refine code34.call (by simp) fun hwf => ?_
  unfold c34
  simp [keyV]
  refine CN.use (compare_ok _ _ _) ?_
  rintro _ _ - - ⟨rfl, rfl⟩
  simp
  refine CN.use (compare_ok _ _ _) ?_
  rintro _ _ - - ⟨rfl, rfl⟩
  simp
  refine CN.use (compare_ok _ _ _) ?_
  rintro _ _ - - ⟨rfl, rfl⟩
  simp
  refine CN.use (compare_ok _ _ _) ?_
  rintro _ _ - - ⟨rfl, rfl⟩
  simp
  refine CN.use (or_ok (l := [cmpI x.head y.head, cmpI x.tunnel y.tunnel, cmpI x.tail y.tail, cmpI x.lsp y.lsp]) (Sl.row (ints_rw _) (AH.get_new _ _) (by simp [ints])) (by simp)) ?_
  rintro _ _ - - ⟨rfl, rfl⟩
  simp
  refine DN.of ⟨?_, rfl⟩
  exact ((Ext.alloc A _).app (by simp) _).app (by simp <;> omega) _
theorem before_ok (x y : Key) (A : AH) : ACall Try.prog 12 [keyV x, keyV y] A fun v A' => Ext A A' ∧ v = .bool (x.bef y) := by
  refine code12.call (by simp) fun hwf => ?_
  unfold c12
  simp [keyV]
  refine CN.use (order_ok x y _) ?_
  rintro _ A' - - ⟨hx, rfl⟩
  simp
  refine DN.of ⟨((Ext.alloc A _).app (by simp) _).trans (by simp <;> omega) hx, congrArg _ ?_⟩
  simp only [orI_cons, Key.bef, cmpI, show orI [] = 0 from rfl]
  grind
end Go.Proofs.Ytieehccjajhpfaa.AC
/- math/bits.Len of small numbers. -/
namespace Go.Proofs.Ytieehccjajhpfaa.AC
open Go Go.AI Go.Proofs Go.Proofs.Ytieehccjajhpfaa.AQ
set_option linter.unusedVariables false
theorem aIndex_str {P : Program} {T : TypeId} {s : ByteArray} {k : IntKind} {x : Nat} {b : UInt8} (h : P.underlying T = some .string) (hb : s[x]? = some b) : aIndex P T (.string s) (.int k (x : Int)) = some (.int .u8 (b.toNat : Int)) := by
  unfold aIndex
  simp only [h]
  rw [if_pos (by omega), Int.toNat_natCast, hb]; rfl
def lenOk (x : Nat) (b : Option UInt8) : Bool := match b with
  | some b => decide (x < 2 ^ b.toNat) && (decide (x = 0) || decide (2 ^ b.toNat ≤ 2 * x)) && decide (b.toNat ≤ 8)
  | none => false
set_option maxRecDepth 100000 in
theorem lenTab : (List.range 256).all (fun x => lenOk x ((⟨#[0, 1, 2, 2, 3, 3, 3, 3, 4, 4, 4, 4, 4, 4, 4, 4, 5, 5, 5, 5, 5, 5, 5, 5, 5, 5, 5, 5, 5, 5, 5, 5, 6, 6, 6, 6, 6, 6, 6, 6, 6, 6, 6, 6, 6, 6, 6, 6, 6, 6, 6, 6, 6, 6, 6, 6, 6, 6, 6, 6, 6, 6, 6, 6, 7, 7, 7, 7, 7, 7, 7, 7, 7, 7, 7, 7, 7, 7, 7, 7, 7, 7, 7, 7, 7, 7, 7, 7, 7, 7, 7, 7, 7, 7, 7, 7, 7, 7, 7, 7, 7, 7, 7, 7, 7, 7, 7, 7, 7, 7, 7, 7, 7, 7, 7, 7, 7, 7, 7, 7, 7, 7, 7, 7, 7, 7, 7, 7, 8, 8, 8, 8, 8, 8, 8, 8, 8, 8, 8, 8, 8, 8, 8, 8, 8, 8, 8, 8, 8, 8, 8, 8, 8, 8, 8, 8, 8, 8, 8, 8, 8, 8, 8, 8, 8, 8, 8, 8, 8, 8, 8, 8, 8, 8, 8, 8, 8, 8, 8, 8, 8, 8, 8, 8, 8, 8, 8, 8, 8, 8, 8, 8, 8, 8, 8, 8, 8, 8, 8, 8, 8, 8, 8, 8, 8, 8, 8, 8, 8, 8, 8, 8, 8, 8, 8, 8, 8, 8, 8, 8, 8, 8, 8, 8, 8, 8, 8, 8, 8, 8, 8, 8, 8, 8, 8, 8, 8, 8, 8, 8, 8, 8, 8, 8, 8, 8, 8, 8, 8, 8, 8, 8, 8, 8, 8, 8]⟩ : ByteArray)[x]?)) = true := by kernel_rfl
set_option maxRecDepth 100000 in
theorem len64_ok (x : Nat) (hx : x < 256) (A : AH) : ACall Try.prog 81 [.int .u64 x] A fun v A' => (∃ l : Nat, v = .int .i64 l ∧ x < 2 ^ l ∧ (0 < x → 2 ^ l ≤ 2 * x) ∧ l ≤ 8) ∧ A' = A := by
  have h1 : ¬ (4294967296 : Int) ≤ x := by omega
  have h2 : ¬ (65536 : Int) ≤ x := by omega
  have h3 : ¬ (256 : Int) ≤ x := by omega
  have hw : IntKind.u8.wrap (x : Int) = x := by simp [IntKind.wrap, IntKind.bits, IntKind.signed]; omega
  have ht := List.all_eq_true.1 lenTab x (List.mem_range.2 hx)
  obtain ⟨b, hb⟩ : ∃ b, ((⟨#[0, 1, 2, 2, 3, 3, 3, 3, 4, 4, 4, 4, 4, 4, 4, 4, 5, 5, 5, 5, 5, 5, 5, 5, 5, 5, 5, 5, 5, 5, 5, 5, 6, 6, 6, 6, 6, 6, 6, 6, 6, 6, 6, 6, 6, 6, 6, 6, 6, 6, 6, 6, 6, 6, 6, 6, 6, 6, 6, 6, 6, 6, 6, 6, 7, 7, 7, 7, 7, 7, 7, 7, 7, 7, 7, 7, 7, 7, 7, 7, 7, 7, 7, 7, 7, 7, 7, 7, 7, 7, 7, 7, 7, 7, 7, 7, 7, 7, 7, 7, 7, 7, 7, 7, 7, 7, 7, 7, 7, 7, 7, 7, 7, 7, 7, 7, 7, 7, 7, 7, 7, 7, 7, 7, 7, 7, 7, 7, 8, 8, 8, 8, 8, 8, 8, 8, 8, 8, 8, 8, 8, 8, 8, 8, 8, 8, 8, 8, 8, 8, 8, 8, 8, 8, 8, 8, 8, 8, 8, 8, 8, 8, 8, 8, 8, 8, 8, 8, 8, 8, 8, 8, 8, 8, 8, 8, 8, 8, 8, 8, 8, 8, 8, 8, 8, 8, 8, 8, 8, 8, 8, 8, 8, 8, 8, 8, 8, 8, 8, 8, 8, 8, 8, 8, 8, 8, 8, 8, 8, 8, 8, 8, 8, 8, 8, 8, 8, 8, 8, 8, 8, 8, 8, 8, 8, 8, 8, 8, 8, 8, 8, 8, 8, 8, 8, 8, 8, 8, 8, 8, 8, 8, 8, 8, 8, 8, 8, 8, 8, 8, 8, 8, 8, 8, 8, 8]⟩ : ByteArray)[x]?) = some b := by
    cases h : ((⟨#[0, 1, 2, 2, 3, 3, 3, 3, 4, 4, 4, 4, 4, 4, 4, 4, 5, 5, 5, 5, 5, 5, 5, 5, 5, 5, 5, 5, 5, 5, 5, 5, 6, 6, 6, 6, 6, 6, 6, 6, 6, 6, 6, 6, 6, 6, 6, 6, 6, 6, 6, 6, 6, 6, 6, 6, 6, 6, 6, 6, 6, 6, 6, 6, 7, 7, 7, 7, 7, 7, 7, 7, 7, 7, 7, 7, 7, 7, 7, 7, 7, 7, 7, 7, 7, 7, 7, 7, 7, 7, 7, 7, 7, 7, 7, 7, 7, 7, 7, 7, 7, 7, 7, 7, 7, 7, 7, 7, 7, 7, 7, 7, 7, 7, 7, 7, 7, 7, 7, 7, 7, 7, 7, 7, 7, 7, 7, 7, 8, 8, 8, 8, 8, 8, 8, 8, 8, 8, 8, 8, 8, 8, 8, 8, 8, 8, 8, 8, 8, 8, 8, 8, 8, 8, 8, 8, 8, 8, 8, 8, 8, 8, 8, 8, 8, 8, 8, 8, 8, 8, 8, 8, 8, 8, 8, 8, 8, 8, 8, 8, 8, 8, 8, 8, 8, 8, 8, 8, 8, 8, 8, 8, 8, 8, 8, 8, 8, 8, 8, 8, 8, 8, 8, 8, 8, 8, 8, 8, 8, 8, 8, 8, 8, 8, 8, 8, 8, 8, 8, 8, 8, 8, 8, 8, 8, 8, 8, 8, 8, 8, 8, 8, 8, 8, 8, 8, 8, 8, 8, 8, 8, 8, 8, 8, 8, 8, 8, 8, 8, 8, 8, 8, 8, 8, 8, 8]⟩ : ByteArray)[x]?) with
    | none => rw [h] at ht; cases ht
    | some b => exact ⟨b, rfl⟩
  rw [hb] at ht
  simp only [lenOk, Bool.and_eq_true, Bool.or_eq_true, decide_eq_true_eq] at ht
  have hI := aIndex_str (k := .u8) Try.underlying9 hb
  have hw2 : IntKind.i64.wrap (b.toNat : Int) = (b.toNat : Int) := i64_in (by omega) (by omega)
  refine code81.call (by simp) fun hwf => ?_
  unfold c81
  simp [h1, h2, h3, hw, hI, hw2]
  exact DN.of ⟨⟨b.toNat, rfl, ht.1.1, by omega, ht.2⟩, rfl⟩
set_option maxRecDepth 100000 in
theorem len_ok (x : Nat) (hx : x < 256) (A : AH) : ACall Try.prog 63 [.int .u64 x] A fun v A' => (∃ l : Nat, v = .int .i64 l ∧ x < 2 ^ l ∧ (0 < x → 2 ^ l ≤ 2 * x) ∧ l ≤ 8) ∧ A' = A := by
  refine code63.call (by simp) fun hwf => ?_
  unfold c63
  simp
  refine CN.use (len64_ok x hx A) ?_
  rintro _ A2 - - ⟨⟨l, rfl, h⟩, rfl⟩
  simp
  exact DN.of ⟨⟨l, rfl, h⟩, rfl⟩
end Go.Proofs.Ytieehccjajhpfaa.AC
/- The sort's random numbers. -/
namespace Go.Proofs.Ytieehccjajhpfaa.AC
open Go Go.AI Go.Proofs Go.Proofs.Ytieehccjajhpfaa.AQ
set_option linter.unusedVariables false
def shlI (k : IntKind) (a b : Int) : Int := k.wrap (a * 2 ^ (min b.toNat k.bits))
def shrI (k : IntKind) (a b : Int) : Int := a.fdiv (2 ^ (min b.toNat k.bits))
def xorI (k : IntKind) (a b : Int) : Int := k.wrap ((BitVec.ofInt k.bits a ^^^ BitVec.ofInt k.bits b).toNat : Nat)
def andJ (k : IntKind) (a b : Int) : Int := k.wrap ((BitVec.ofInt k.bits a &&& BitVec.ofInt k.bits b).toNat : Nat)
theorem intBin_shl {k : IntKind} {a b : Int} (h : 0 ≤ b) : intBin .shl k a b = some (.int k (shlI k a b)) := by simp only [intBin]; rw [if_neg (by omega)]; rfl
theorem intBin_shr {k : IntKind} {a b : Int} (h : 0 ≤ b) : intBin .shr k a b = some (.int k (shrI k a b)) := by simp only [intBin]; rw [if_neg (by omega)]; rfl
theorem intBin_xor (k : IntKind) (a b : Int) : intBin .xor k a b = some (.int k (xorI k a b)) := (rfl)
theorem intBin_andJ (k : IntKind) (a b : Int) : intBin .and k a b = some (.int k (andJ k a b)) := (rfl)
theorem aBin_shl {P : Program} {A : AH} {T : TypeId} {k k' : IntKind} {a b : Int} : aBin P A .shl T (.int k a) (.int k' b) = intBin .shl k a b := by
  show (if k = k' ∨ isShift .shl = true then intBin .shl k a b else none) = _
  rw [if_pos (Or.inr (show isShift .shl = true from rfl))]
theorem wrap64 (n : Int) : IntKind.u64.wrap n = n % 18446744073709551616 := by simp [IntKind.wrap, IntKind.bits, IntKind.signed]
theorem xor64 (a b : Int) : ∃ y : Nat, xorI .u64 a b = y ∧ y < 18446744073709551616 := ⟨(xorI .u64 a b).toNat, by unfold xorI; rw [wrap64]; omega, by unfold xorI; rw [wrap64]; omega⟩
theorem and_low {y l : Nat} (hy : y < 18446744073709551616) (hl : l ≤ 8) : ∃ z : Nat, andJ .u64 (y : Int) (((2 ^ l - 1 : Nat)) : Int) = z ∧ z < 2 ^ l := by
  have h8 : (2 : Nat) ^ l ≤ 2 ^ 8 := Nat.pow_le_pow_right (by omega) hl
  have hp : 0 < (2 : Nat) ^ l := Nat.two_pow_pos l
  have hb : IntKind.u64.bits = 64 := rfl
  have e : (BitVec.ofInt 64 (y : Int) &&& BitVec.ofInt 64 ((2 ^ l - 1 : Nat) : Int)).toNat = y &&& (2 ^ l - 1) := by
    rw [BitVec.toNat_and, BitVec.ofInt_natCast, BitVec.toNat_ofNat, BitVec.ofInt_natCast, BitVec.toNat_ofNat, Nat.mod_eq_of_lt (by omega), Nat.mod_eq_of_lt (by omega)]
  have hle : y &&& (2 ^ l - 1) ≤ 2 ^ l - 1 := Nat.and_le_right
  refine ⟨y &&& (2 ^ l - 1), ?_, by omega⟩
  unfold andJ
  rw [hb, e, wrap64]
  generalize y &&& (2 ^ l - 1) = w at hle
  omega
theorem shl_one {l : Nat} (hl : l ≤ 8) : shlI .u64 1 (l : Int) = ((2 ^ l : Nat) : Int) := by
  have h8 : (2 : Nat) ^ l ≤ 2 ^ 8 := Nat.pow_le_pow_right (by omega) hl
  unfold shlI
  rw [show min ((l : Int).toNat) IntKind.u64.bits = l from by rw [Int.toNat_natCast, show IntKind.u64.bits = 64 from rfl]; omega, wrap64, Int.one_mul]
  have : ((2 : Int) ^ l) = ((2 ^ l : Nat) : Int) := by rw [Int.natCast_pow]; rfl
  rw [this]
  generalize (2 : Nat) ^ l = w at h8
  omega
theorem npow_ok (x : Nat) (hx : x < 256) (A : AH) : ACall Try.prog 96 [.int .i64 x] A fun v A' => (∃ M l : Nat, v = .int .u64 (M : Int) ∧ M = 2 ^ l ∧ x < M ∧ (0 < x → M ≤ 2 * x) ∧ l ≤ 8) ∧ A' = A := by
  have hw : IntKind.u64.wrap (x : Int) = x := by simp [IntKind.wrap, IntKind.bits, IntKind.signed]; omega
  refine code96.call (by simp) fun hwf => ?_
  unfold c96
  simp [hw]
  refine CN.use (len_ok x hx A) ?_
  rintro _ A2 - - ⟨⟨l, rfl, h⟩, rfl⟩
  have h0 : (0 : Int) ≤ l := by omega
  obtain ⟨M, hM⟩ : ∃ M, M = 2 ^ l := ⟨_, rfl⟩
  have h1 := shl_one h.2.2
  rw [← hM] at h1 h
  simp [aBin_shl, intBin_shl h0, h1]
  exact DN.of ⟨⟨M, l, rfl, hM, h⟩, rfl⟩
theorem next_ok {A : AH} {sp : Nat} {x : Int} (h : A.get sp = some (.row [.int .u64 x] 143 false)) : ACall Try.prog 97 [.pointer (some ⟨sp, 0, none⟩)] A fun v A' => ∃ y : Nat, v = .int .u64 y ∧ y < 18446744073709551616 ∧ A'.get sp = some (.row [.int .u64 y] 143 false) ∧ (∀ b, b ≠ sp → A'.get b = A.get b) ∧ A'.next = A.next := by
  have w1 := fun a => intBin_shl (k := .u64) (a := a) (b := 13) (by omega)
  have w2 := fun a => intBin_shr (k := .u64) (a := a) (b := 7) (by omega)
  have w3 := fun a => intBin_shl (k := .u64) (a := a) (b := 17) (by omega)
  have hobt := xor64 (xorI .u64 (xorI .u64 x (shlI .u64 x 13)) (shrI .u64 (xorI .u64 x (shlI .u64 x 13)) 7)) (shlI .u64 (xorI .u64 (xorI .u64 x (shlI .u64 x 13)) (shrI .u64 (xorI .u64 x (shlI .u64 x 13)) 7)) 17)
  obtain ⟨y, h1, h2⟩ := hobt
  refine code97.call (by simp) fun hwf => ?_
  unfold c97
  simp [h, w1, w2, w3, intBin_xor, h1]
  exact DN.of ⟨y, rfl, h2, by simp [AH.get_set], fun b hb => by simp [AH.get_set, hb], rfl⟩
theorem and_lowM {y l M M1 : Nat} (hy : y < 18446744073709551616) (hl : l ≤ 8) (hM : M = 2 ^ l) (h1 : M1 = M - 1) : ∃ z : Nat, andJ .u64 (y : Int) (M1 : Int) = z ∧ z < M := by
  have hobt := and_low hy hl
  obtain ⟨z, h2, h3⟩ := hobt
  rw [← hM] at h2 h3
  rw [h1]; exact ⟨z, h2, h3⟩
end Go.Proofs.Ytieehccjajhpfaa.AC
/- Sorting keys: the memory of it. -/
namespace Go.Proofs.Ytieehccjajhpfaa.AC
open Go Go.AI Go.Proofs Go.Proofs.Ytieehccjajhpfaa.AQ
set_option linter.unusedVariables false
instance : Inhabited Key := ⟨⟨0, 0, 0, 0⟩⟩
/-- What is sorted lies in a block of its own; all else is as it was. -/
structure SSK (Q : Key → Prop) (A0 A : AH) (ob : Option Nat) (v : Value) (d : Array Key) : Prop where
  lq : Lq A 23 4 ob v (d.toList.map Key.enc)
  ko : ∀ b, b < A0.next → ob ≠ some b → A.get b = A0.get b
  nx : A0.next ≤ A.next
  q : ∀ i, i < d.size → Q d[i]!
  sz : d.size ≤ 100000
section
variable {Q : Key → Prop} {A0 A A' : AH} {ob : Option Nat} {v : Value} {d : Array Key}
theorem SSK.ext (h : SSK Q A0 A ob v d) (hw : A.wf) (hx : Ext A A') (hn : A.next ≤ A'.next) : SSK Q A0 A' ob v d :=
  ⟨h.lq.kept fun b hb => hx b (h.lq.lt hw hb), fun b b1 b2 => by rw [hx b (by have := h.nx; omega)]; exact h.ko b b1 b2, by have := h.nx; omega, h.q, h.sz⟩
/-- What the sort is given to compare by. -/
def CmpK (A0 : AH) (ob : Option Nat) (Q : Key → Prop) (lt : Key → Key → Bool) (f : FuncId) : Prop :=
  ∀ A1 : AH, (∀ b, b < A0.next → ob ≠ some b → A1.get b = A0.get b) → A0.next ≤ A1.next → ∀ x y, Q x → Q y → ACall Try.prog f [keyV x, keyV y] A1 fun v A' => ∃ r, v = .int .i64 r ∧ decide (r < 0) = lt x y ∧ Ext A1 A'
theorem SSK.two (h : SSK Q A0 A ob v d) {i j : Nat} (hi : i < d.size) (hj : j < d.size) : ∃ b c cs, v = .slice (some ⟨b, 0, none⟩) d.size c ∧ A.get b = some (.row cs 23 false) ∧ ob = some b ∧ (i * 4 + 4 ≤ cs.length ∧ (cs.drop (i * 4)).take 4 = (d[i]!).enc) ∧ (j * 4 + 4 ≤ cs.length ∧ (cs.drop (j * 4)).take 4 = (d[j]!).enc) ∧ (spl cs (i * 4) (d[j]!).enc).length = cs.length ∧
    (∀ A' : AH, A'.get b = some (.row (spl (spl cs (i * 4) (d[j]!).enc) (j * 4) (d[i]!).enc) 23 false) → (∀ k, k < A.next → k ≠ b → A'.get k = A.get k) → A.next ≤ A'.next → SSK Q A0 A' ob v (Sort.swp d i j)) := by
  have hobt := h.lq.open2 (i := i) (j := j) (by simpa using hi) (by simpa using hj)
  obtain ⟨b, c, cs, h1, h2, h3, h4, h5, h6, h7, -, -, -, -, h8⟩ := hobt
  simp only [List.getElem_map, Array.getElem_toList, List.length_map, Array.length_toList] at h2 h6 h7 h8
  have ei : d[i]! = d[i] := getElem!_pos d i hi
  have ej : d[j]! = d[j] := getElem!_pos d j hj
  rw [← ei, ← ej] at h8
  rw [← ei] at h6
  rw [← ej] at h7
  have oi : i * 4 = (i * 4) := by omega
  have oj : j * 4 = (j * 4) := by omega
  have li : (Key.enc d[i]!).length = 4 := rfl
  have lj : (Key.enc d[j]!).length = 4 := rfl
  refine ⟨b, c, cs, h2, h3, h1, ⟨h4, h6⟩, ⟨h5, h7⟩, spl_length _ _ _ (by rw [← oi]; exact h4), fun A' g1 g2 g3 => ⟨?_, fun k k1 k2 => ?_, by have := h.nx; omega, fun k hk => ?_, by simpa [Sort.swp] using h.sz⟩⟩
  · have e : ((d.toList.map Key.enc).set i (Key.enc d[j]!)).set j (Key.enc d[i]!) = (Sort.swp d i j).toList.map Key.enc := by
      unfold Sort.swp
      rw [Array.toList_setIfInBounds, Array.toList_setIfInBounds, List.map_set, List.map_set]
    rw [e, oi, oj] at h8
    refine h8.kept fun k hk => ?_
    rw [h1] at hk; injection hk with hk; subst hk
    rw [g1, AH.get_set, if_pos rfl] <;> rfl
  · have hkb : k ≠ b := fun e => k2 (by rw [h1, e])
    rw [g2 k (by have := h.nx; omega) hkb]; exact h.ko k k1 k2
  · rw [Sort.size_swp] at hk
    rw [Sort.swp_get d hi hj]
    split
    · exact h.q _ hi
    · split
      · exact h.q _ hj
      · exact h.q _ hk
theorem SSK.form (h : SSK Q A0 A ob v d) (h0 : 0 < d.size) : ∃ b c, ob = some b ∧ v = .slice (some ⟨b, 0, none⟩) d.size c := by
  have hobt := h.two h0 h0
  obtain ⟨b, c, cs, h1, -, h2, -⟩ := hobt
  exact ⟨b, c, h2, h1⟩
theorem SSK.at2 {bb n c : Nat} (h : SSK Q A0 A (some bb) (.slice (some ⟨bb, 0, none⟩) n c) d) {i j : Nat} (hi : i < d.size) (hj : j < d.size) : ∃ cs, A.get bb = some (.row cs 23 false) ∧ (i * 4 + 4 ≤ cs.length ∧ (cs.drop (i * 4)).take 4 = (d[i]!).enc) ∧ (j * 4 + 4 ≤ cs.length ∧ (cs.drop (j * 4)).take 4 = (d[j]!).enc) ∧ (spl cs (i * 4) (d[j]!).enc).length = cs.length ∧
    (∀ A' : AH, A'.get bb = some (.row (spl (spl cs (i * 4) (d[j]!).enc) (j * 4) (d[i]!).enc) 23 false) → (∀ k, k < A.next → k ≠ bb → A'.get k = A.get k) → A.next ≤ A'.next → SSK Q A0 A' (some bb) (.slice (some ⟨bb, 0, none⟩) n c) (Sort.swp d i j)) := by
  have hobt := h.two hi hj
  obtain ⟨b, c', cs, h1, h2, h3, h4, h5, h6, h7⟩ := hobt
  injection h3 with h3
  subst h3
  exact ⟨cs, h2, h4, h5, h6, h7⟩
end
end Go.Proofs.Ytieehccjajhpfaa.AC
/- Sorting keys: insertions. -/
namespace Go.Proofs.Ytieehccjajhpfaa.AC
open Go Go.AI Go.Proofs Go.Proofs.Ytieehccjajhpfaa.AQ
set_option linter.unusedVariables false
section
variable {Q : Key → Prop} {A0 A A' : AH} {ob : Option Nat} {v : Value} {d : Array Key} {lt : Key → Key → Bool} {f : FuncId}
theorem insInner_posK {a j : Nat} (haj : a < j) : Sort.insInner lt a j d = if lt d[j]! d[j - 1]! then Sort.insInner lt a (j - 1) (Sort.swp d j (j - 1)) else d := by
  cases j with
  | zero => omega
  | succ j => rw [Sort.insInner, Nat.add_sub_cancel]; simp [show j + 1 > a from haj]
theorem inssK_ok (h : SSK Q A0 A ob v d) (hc : CmpK A0 ob Q lt f) {a b : Nat} (ha : a ≤ d.size) (hb : b ≤ d.size) :
    ACall Try.prog 86 [v, .int .i64 a, .int .i64 b, .func (.func f) #[] #[]] A fun _ A' => SSK Q A0 A' ob v (Sort.insertionSort lt d a b) := by
  have hz := h.sz
  have hw1 : IntKind.i64.wrap ((a : Int) + 1) = ((a + 1 : Nat) : Int) := by rw [i64_in (by omega) (by omega)]; simp
  refine code86.call (by simp) fun hwf => ?_
  unfold c86
  simp
  refine LN.use (fun m E A' => ∃ (k : Nat) (d' : Array Key), m = b - k ∧ a + 1 ≤ k ∧ k ≤ 100001 ∧ d'.size = d.size ∧ Sort.insOuter lt a b k d' = Sort.insertionSort lt d a b ∧ SSK Q A0 A' ob v d' ∧ E.get 0 = v ∧ E.get 1 = .int .i64 a ∧ E.get 2 = .int .i64 b ∧ E.get 3 = .func (.func f) #[] #[] ∧ E.get 8 = .int .i64 k) (b - (a + 1))
    ⟨a + 1, d, rfl, Nat.le_refl _, by omega, rfl, rfl, h, by simp, by simp, by simp, by simp, by simp [hw1]⟩ ?_
  rintro m E A1 hwA hnA ⟨k, d1, rfl, hk1, hk2, z1, q1, s1, e0, e1, e2, e3, e8⟩
  by_cases hlt : k < b
  rotate_left
  · have hlt' : ¬ (k : Int) < b := by omega
    rw [Sort.insOuter, if_neg hlt] at q1
    simp [e2, e8, hlt']
    exact DN.of (by rw [← q1]; exact s1)
  have hlt' : (k : Int) < b := by omega
  have hgi : IntKind.i64.wrap ((k : Int) + 1) = ((k + 1 : Nat) : Int) := by rw [i64_in (by omega) (by omega)]; simp
  rw [Sort.insOuter, if_pos hlt] at q1
  simp [e0, e1, e2, e3, e8, hlt']
  refine LN.use (fun m E A' => ∃ (j : Nat) (d' : Array Key), m = j ∧ j < b ∧ d'.size = d.size ∧ Sort.insInner lt a j d' = Sort.insInner lt a k d1 ∧ SSK Q A0 A' ob v d' ∧ E.get 0 = v ∧ E.get 1 = .int .i64 a ∧ E.get 2 = .int .i64 b ∧ E.get 3 = .func (.func f) #[] #[] ∧ E.get 8 = .int .i64 k ∧ E.get 9 = .int .i64 j) k
    ⟨k, d1, rfl, hlt, z1, rfl, s1, by simp [e0], by simp [e1], by simp [e2], by simp [e3], by simp [e8], by simp⟩ ?_
  clear e0 e1 e2 e3 e8
  rintro m E A2 hwB hnB ⟨j, d2, rfl, hj, z2, q2, s2, e0, e1, e2, e3, e8, e9⟩
  have hfin : ∀ d3 : Array Key, d3 = Sort.insInner lt a k d1 → Sort.insOuter lt a b (k + 1) d3 = Sort.insertionSort lt d a b := fun d3 h3 => by rw [h3]; exact q1
  by_cases hja : a < m
  rotate_left
  · have hja' : ¬ (a : Int) < m := by omega
    have hd2 : d2 = Sort.insInner lt a k d1 := by
      rw [← q2]
      cases m with
      | zero => rfl
      | succ m => rw [Sort.insInner, if_neg (by simp; omega)]
    simp [e1, e2, e3, e8, e9, hja', hgi]
    exact NX.of ⟨b - (k + 1), by omega, k + 1, d2, rfl, by omega, by omega, z2, hfin _ hd2, s2, by simp [e0], by simp [e1], by simp [e2], by simp [e3], by simp⟩
  have hja' : (a : Int) < m := by omega
  have hw2 : IntKind.i64.wrap ((m : Int) - 1) = ((m - 1 : Nat) : Int) := by rw [i64_in (by omega) (by omega)]; omega
  have hm1 : m < d2.size := by omega
  have hm2 : m - 1 < d2.size := by omega
  have hobt := s2.two hm1 hm2
  obtain ⟨bb, c, cs, rfl, g1, hob, ⟨g2, g3⟩, ⟨g4, g5⟩, g6, g7⟩ := hobt
  rw [insInner_posK hja] at q2
  simp [-getElem!_pos, e0, e1, e2, e3, e8, e9, hja', hja, hw2, hm1, hm2, g1, g2, g3, g4, g5]
  refine CN.use (hc A2 s2.ko s2.nx _ _ (s2.q _ hm1) (s2.q _ hm2)) ?_
  rintro _ A3 hwC hnC ⟨r, rfl, hr, x3⟩
  have g1' := x3.get hwB g1
  have hbool := Bool.eq_false_or_eq_true (lt d2[m]! d2[m - 1]!)
  rcases hbool with hl | hl
  · rw [hl] at hr q2
    have hr' : r < 0 := of_decide_eq_true hr
    simp [-getElem!_pos, e0, e1, e2, e3, e8, e9, hja', hr', hw2, hm1, hm2, g1', g2, g3, g4, g5, g6]
    exact NX.of ⟨m - 1, by omega, m - 1, Sort.swp d2 m (m - 1), rfl, by omega, by rw [Sort.size_swp]; exact z2, by rw [← q2]; simp, g7 _ (by rw [AH.get_set, if_pos rfl]) (fun k hk hkb => by rw [AH.get_set, if_neg hkb, x3 k hk]) (by simpa using hnC), by simp [e0], by simp [e1], by simp [e2], by simp [e3], by simp [e8], by simp⟩
  · rw [hl] at hr q2
    have hr' : ¬ r < 0 := of_decide_eq_false hr
    simp [-getElem!_pos, e8, hr', hgi]
    exact NX.of ⟨b - (k + 1), by omega, k + 1, d2, rfl, by omega, by omega, z2, hfin _ (by simpa using q2), s2.ext hwB x3 hnC, by simp [e0], by simp [e1], by simp [e2], by simp [e3], by simp⟩
end
end Go.Proofs.Ytieehccjajhpfaa.AC
/- Sorting keys: the heap. -/
namespace Go.Proofs.Ytieehccjajhpfaa.AC
open Go Go.AI Go.Proofs Go.Proofs.Ytieehccjajhpfaa.AQ
set_option linter.unusedVariables false
section
variable {Q : Key → Prop} {A0 A A' : AH} {bb n c : Nat} {d : Array Key} {lt : Key → Key → Bool} {f : FuncId}
theorem sift_posK {hi F root : Nat} {d : Array Key} (h : 2 * root + 1 < hi) : ∃ ch, (ch = if 2 * root + 2 < hi ∧ lt d[F + (2 * root + 1)]! d[F + (2 * root + 1) + 1]! = true then 2 * root + 2 else 2 * root + 1) ∧ ch < hi ∧ root < ch ∧ Sort.siftDown lt hi F root d = if lt d[F + root]! d[F + ch]! then Sort.siftDown lt hi F ch (Sort.swp d (F + root) (F + ch)) else d := by
  rw [Sort.siftDown, dif_neg (by omega)]
  by_cases hc : 2 * root + 2 < hi ∧ lt d[F + (2 * root + 1)]! d[F + (2 * root + 1) + 1]! = true
  · refine ⟨2 * root + 2, by rw [if_pos hc], hc.1, by omega, ?_⟩
    rw [if_pos (by simp [hc.2]; omega)]
    have hbool := Bool.eq_false_or_eq_true (lt d[F + root]! d[F + (2 * root + 2)]!)
    rcases hbool with hl | hl
    · simp [hl, hc.1]
    · simp [hl]
  · refine ⟨2 * root + 1, by rw [if_neg hc], h, by omega, ?_⟩
    rw [if_neg (by simp only [Bool.and_eq_true, decide_eq_true_eq]; intro h2; exact hc ⟨by omega, h2.2⟩)]
    have hbool := Bool.eq_false_or_eq_true (lt d[F + root]! d[F + (2 * root + 1)]!)
    rcases hbool with hl | hl
    · simp [hl]
    · simp [hl]
set_option maxHeartbeats 1000000 in
theorem siftK_ok (h : SSK Q A0 A (some bb) (.slice (some ⟨bb, 0, none⟩) n c) d) (hz : d.size = n) (hc : CmpK A0 (some bb) Q lt f) {lo hi F : Nat} (hn : F + hi ≤ n) (hlo : lo ≤ n) :
    ACall Try.prog 102 [.slice (some ⟨bb, 0, none⟩) n c, .int .i64 lo, .int .i64 hi, .int .i64 F, .func (.func f) #[] #[]] A fun _ A' => SSK Q A0 A' (some bb) (.slice (some ⟨bb, 0, none⟩) n c) (Sort.siftDown lt hi F lo d) := by
  have hz5 := h.sz
  refine code102.call (by simp) fun hwf => ?_
  unfold c102
  simp
  refine LN.use (fun m E A' => ∃ (root : Nat) (d' : Array Key), m = hi - root ∧ root ≤ n ∧ d'.size = n ∧ Sort.siftDown lt hi F root d' = Sort.siftDown lt hi F lo d ∧ SSK Q A0 A' (some bb) (.slice (some ⟨bb, 0, none⟩) n c) d' ∧ E.get 0 = .slice (some ⟨bb, 0, none⟩) n c ∧ E.get 1 = .int .i64 lo ∧ E.get 2 = .int .i64 hi ∧ E.get 3 = .int .i64 F ∧ E.get 4 = .func (.func f) #[] #[] ∧ E.get 10 = .int .i64 root) (hi - lo)
    ⟨lo, d, rfl, hlo, hz, rfl, h, by simp, by simp, by simp, by simp, by simp, by simp⟩ ?_
  rintro m E A2 hwB hnB ⟨root, d2, rfl, hroot, z2, q2, s2, e0, e1, e2, e3, e4, e10⟩
  have hexq : ∃ x : Nat, x = 2 * root := ⟨_, rfl⟩
  obtain ⟨r2, hr2e⟩ := hexq
  have hexq : ∃ x : Nat, x = 2 * root + 1 := ⟨_, rfl⟩
  obtain ⟨c1, hc1e⟩ := hexq
  have hexq : ∃ x : Nat, x = 2 * root + 2 := ⟨_, rfl⟩
  obtain ⟨c2, hc2e⟩ := hexq
  have hw1 : IntKind.i64.wrap (2 * (root : Int)) = (r2 : Int) := by rw [i64_in (by omega) (by omega)]; omega
  have hw2 : IntKind.i64.wrap ((r2 : Int) + 1) = (c1 : Int) := by rw [i64_in (by omega) (by omega)]; omega
  have hw3 : IntKind.i64.wrap ((c1 : Int) + 1) = (c2 : Int) := by rw [i64_in (by omega) (by omega)]; omega
  by_cases hend : hi ≤ c1
  · have hend' : (hi : Int) ≤ c1 := by omega
    rw [Sort.siftDown, dif_pos (show 2 * root + 1 ≥ hi by omega)] at q2
    simp [e2, e10, hw1, hw2, hend']
    exact DN.of (by rw [← q2]; exact s2)
  have hend' : ¬ (hi : Int) ≤ c1 := by omega
  have hobt := sift_posK (lt := lt) (F := F) (d := d2) (hi := hi) (root := root) (by omega)
  obtain ⟨ch, hch, hchi, hrc, hq⟩ := hobt
  have hexq : ∃ x : Nat, x = F + root := ⟨_, rfl⟩
  obtain ⟨p0, hp0e⟩ := hexq
  have hexq : ∃ x : Nat, x = F + (2 * root + 1) := ⟨_, rfl⟩
  obtain ⟨p1, hp1e⟩ := hexq
  have hexq : ∃ x : Nat, x = F + (2 * root + 1) + 1 := ⟨_, rfl⟩
  obtain ⟨p2, hp2e⟩ := hexq
  have hexq : ∃ x : Nat, x = F + ch := ⟨_, rfl⟩
  obtain ⟨pc, hpce⟩ := hexq
  have hwp0 : IntKind.i64.wrap ((F : Int) + (root : Int)) = (p0 : Int) := by rw [i64_in (by omega) (by omega)]; omega
  have hwp1 : IntKind.i64.wrap ((F : Int) + (c1 : Int)) = (p1 : Int) := by rw [i64_in (by omega) (by omega)]; omega
  have hwp2 : IntKind.i64.wrap ((p1 : Int) + 1) = (p2 : Int) := by rw [i64_in (by omega) (by omega)]; omega
  have hwpc : IntKind.i64.wrap ((F : Int) + (ch : Int)) = (pc : Int) := by rw [i64_in (by omega) (by omega)]; omega
  have hp0 : p0 < d2.size := by omega
  have hpc : pc < d2.size := by omega
  have hp0n : p0 < n := by omega
  have hpcn : pc < n := by omega
  have hobt := s2.at2 hp0 hpc
  obtain ⟨cs, k1, ⟨k2, k3⟩, ⟨k4, k5⟩, k6, k7⟩ := hobt
  rw [← hp1e, show p1 + 1 = p2 from by omega, ← hc1e, ← hc2e] at hch
  by_cases hc2 : c2 < hi
  rotate_left
  · have hc2' : ¬ (c2 : Int) < hi := by omega
    obtain rfl : ch = c1 := by rw [hch, if_neg (fun h => hc2 h.1)]
    simp [-getElem!_pos, e0, e1, e2, e3, e4, e10, hw1, hw2, hw3, hend', hc2', hwp0, hwpc, hp0n, hpcn, k1, k2, k3, k4, k5]
    refine CN.use (hc A2 s2.ko s2.nx _ _ (s2.q _ hp0) (s2.q _ hpc)) ?_
    rintro _ A4 hwD hnD ⟨r2, rfl, hr2, x4⟩
    have k1' := x4.get hwB k1
    have hbool := Bool.eq_false_or_eq_true (lt d2[p0]! d2[pc]!)
    rcases hbool with hl2 | hl2
    · rw [hl2] at hr2
      have hr2' : r2 < 0 := of_decide_eq_true hr2
      simp [-getElem!_pos, e0, e1, e2, e3, e4, e10, hr2', hwp0, hwpc, hp0n, hpcn, k1', k2, k3, k4, k5, k6]
      refine NX.of ⟨hi - ch, by omega, ch, Sort.swp d2 p0 pc, rfl, by omega, by rw [Sort.size_swp]; exact z2, ?_, k7 _ (by rw [AH.get_set, if_pos rfl]) (fun k hk hkb => by rw [AH.get_set, if_neg hkb, x4 k hk]) (by simpa using hnD), by simp [e0], by simp [e1], by simp [e2], by simp [e3], by simp [e4], by simp⟩
      rw [← q2, hq, ← hp0e, ← hpce, hl2, if_pos rfl]
    · rw [hl2] at hr2
      have hr2' : ¬ r2 < 0 := of_decide_eq_false hr2
      simp [-getElem!_pos, hr2']
      refine DN.of ?_
      rw [← q2, hq, ← hp0e, ← hpce, hl2, if_neg (by simp)]
      exact s2.ext hwB x4 hnD
  have hc2' : (c2 : Int) < hi := by omega
  have hp1 : p1 < d2.size := by omega
  have hp2 : p2 < d2.size := by omega
  have hp1n : p1 < n := by omega
  have hp2n : p2 < n := by omega
  have hobt := s2.at2 hp1 hp2
  obtain ⟨cs', g1, ⟨g2, g3⟩, ⟨g4, g5⟩, -, -⟩ := hobt
  simp [-getElem!_pos, e0, e1, e2, e3, e4, e10, hw1, hw2, hw3, hend', hc2', hwp1, hwp2, hp1n, hp2n, g1, g2, g3, g4, g5]
  refine CN.use (hc A2 s2.ko s2.nx _ _ (s2.q _ hp1) (s2.q _ hp2)) ?_
  rintro _ A3 hwC hnC ⟨r, rfl, hr, x3⟩
  have s3 := s2.ext hwB x3 hnC
  clear k7
  have hobt := s3.at2 hp0 hpc
  obtain ⟨cs, k1, ⟨k2, k3⟩, ⟨k4, k5⟩, k6, k7⟩ := hobt
  have hbool := Bool.eq_false_or_eq_true (lt d2[p1]! d2[p2]!)
  rcases hbool with hl | hl
  · rw [hl] at hr
    have hr' : r < 0 := of_decide_eq_true hr
    obtain rfl : ch = c2 := by rw [hch, if_pos ⟨hc2, hl⟩]
    simp [-getElem!_pos, e0, e1, e2, e3, e4, e10, hw3, hr', hwp0, hwpc, hp0n, hpcn, k1, k2, k3, k4, k5]
    refine CN.use (hc A3 s3.ko s3.nx _ _ (s3.q _ hp0) (s3.q _ hpc)) ?_
    rintro _ A4 hwD hnD ⟨r2, rfl, hr2, x4⟩
    have k1' := x4.get hwC k1
    have hbool := Bool.eq_false_or_eq_true (lt d2[p0]! d2[pc]!)
    rcases hbool with hl2 | hl2
    · rw [hl2] at hr2
      have hr2' : r2 < 0 := of_decide_eq_true hr2
      simp [-getElem!_pos, e0, e1, e2, e3, e4, e10, hr2', hwp0, hwpc, hp0n, hpcn, k1', k2, k3, k4, k5, k6]
      refine NX.of ⟨hi - ch, by omega, ch, Sort.swp d2 p0 pc, rfl, by omega, by rw [Sort.size_swp]; exact z2, ?_, k7 _ (by rw [AH.get_set, if_pos rfl]) (fun k hk hkb => by rw [AH.get_set, if_neg hkb, x4 k hk]) (by simpa using hnD), by simp [e0], by simp [e1], by simp [e2], by simp [e3], by simp [e4], by simp⟩
      rw [← q2, hq, ← hp0e, ← hpce, hl2, if_pos rfl]
    · rw [hl2] at hr2
      have hr2' : ¬ r2 < 0 := of_decide_eq_false hr2
      simp [-getElem!_pos, hr2']
      refine DN.of ?_
      rw [← q2, hq, ← hp0e, ← hpce, hl2, if_neg (by simp)]
      exact s3.ext hwC x4 hnD
  · rw [hl] at hr
    have hr' : ¬ r < 0 := of_decide_eq_false hr
    obtain rfl : ch = c1 := by rw [hch, if_neg (fun h => by rw [hl] at h; cases h.2)]
    simp [-getElem!_pos, e0, e1, e2, e3, e4, e10, hr', hwp0, hwpc, hp0n, hpcn, k1, k2, k3, k4, k5]
    refine CN.use (hc A3 s3.ko s3.nx _ _ (s3.q _ hp0) (s3.q _ hpc)) ?_
    rintro _ A4 hwD hnD ⟨r2, rfl, hr2, x4⟩
    have k1' := x4.get hwC k1
    have hbool := Bool.eq_false_or_eq_true (lt d2[p0]! d2[pc]!)
    rcases hbool with hl2 | hl2
    · rw [hl2] at hr2
      have hr2' : r2 < 0 := of_decide_eq_true hr2
      simp [-getElem!_pos, e0, e1, e2, e3, e4, e10, hr2', hwp0, hwpc, hp0n, hpcn, k1', k2, k3, k4, k5, k6]
      refine NX.of ⟨hi - ch, by omega, ch, Sort.swp d2 p0 pc, rfl, by omega, by rw [Sort.size_swp]; exact z2, ?_, k7 _ (by rw [AH.get_set, if_pos rfl]) (fun k hk hkb => by rw [AH.get_set, if_neg hkb, x4 k hk]) (by simpa using hnD), by simp [e0], by simp [e1], by simp [e2], by simp [e3], by simp [e4], by simp⟩
      rw [← q2, hq, ← hp0e, ← hpce, hl2, if_pos rfl]
    · rw [hl2] at hr2
      have hr2' : ¬ r2 < 0 := of_decide_eq_false hr2
      simp [-getElem!_pos, hr2']
      refine DN.of ?_
      rw [← q2, hq, ← hp0e, ← hpce, hl2, if_neg (by simp)]
      exact s3.ext hwC x4 hnD
end
end Go.Proofs.Ytieehccjajhpfaa.AC
/- Sorting keys: by the heap; backwards. -/
namespace Go.Proofs.Ytieehccjajhpfaa.AC
open Go Go.AI Go.Proofs Go.Proofs.Ytieehccjajhpfaa.AQ
set_option linter.unusedVariables false
section
variable {Q : Key → Prop} {A0 A A' : AH} {bb n c : Nat} {d : Array Key} {lt : Key → Key → Bool} {f : FuncId}
theorem sift_sizeK {hi F : Nat} : ∀ (m root : Nat) (d : Array Key), hi - root = m → (Sort.siftDown lt hi F root d).size = d.size := by
  intro m
  induction m using Nat.strongRecOn with
  | ind m ih =>
    intro root d hm
    by_cases h : 2 * root + 1 < hi
    · obtain ⟨ch, -, h1, h2, h3⟩ := sift_posK (lt := lt) (F := F) (d := d) h
      rw [h3]
      split
      · rw [ih (hi - ch) (by omega) ch _ rfl, Sort.size_swp]
      · rfl
    · rw [Sort.siftDown, dif_pos (show 2 * root + 1 ≥ hi by omega)]
theorem heapsK_ok (h : SSK Q A0 A (some bb) (.slice (some ⟨bb, 0, none⟩) n c) d) (hz : d.size = n) (hc : CmpK A0 (some bb) Q lt f) {a b : Nat} (hab : a < b) (hb : b ≤ n) :
    ACall Try.prog 87 [.slice (some ⟨bb, 0, none⟩) n c, .int .i64 a, .int .i64 b, .func (.func f) #[] #[]] A fun _ A' => SSK Q A0 A' (some bb) (.slice (some ⟨bb, 0, none⟩) n c) (Sort.heapSort lt d a b) := by
  have hz5 := h.sz
  have hexq : ∃ x : Nat, x = b - a := ⟨_, rfl⟩
  obtain ⟨hi, hhi⟩ := hexq
  have hexq : ∃ x : Nat, x = hi - 1 := ⟨_, rfl⟩
  obtain ⟨h1, hh1⟩ := hexq
  have hexq : ∃ x : Nat, x = h1 / 2 := ⟨_, rfl⟩
  obtain ⟨q, hq⟩ := hexq
  have hw0 : IntKind.i64.wrap ((b : Int) - a) = (hi : Int) := by rw [i64_in (by omega) (by omega)]; omega
  have hw1 : IntKind.i64.wrap ((hi : Int) - 1) = (h1 : Int) := by rw [i64_in (by omega) (by omega)]; omega
  have hw2 : IntKind.i64.wrap ((h1 : Int) / 2) = (q : Int) := by rw [show (h1 : Int) / 2 = ((h1 / 2 : Nat) : Int) from by omega, i64_in (by omega) (by omega), hq]
  have hw3 : ∀ k : Nat, k ≤ n → IntKind.i64.wrap ((k : Int) - 1) = (k : Int) - 1 := fun k hk => i64_in (by omega) (by omega)
  refine code87.call (by simp) fun hwf => ?_
  unfold c87
  simp [hw0, hw1, hw2]
  refine LN.use (fun m E A' => ∃ (k : Nat) (x : Int) (d' : Array Key), m = k ∧ x = (k : Int) - 1 ∧ k ≤ n ∧ d'.size = n ∧ Sort.heapBuild lt hi a k d' = Sort.heapBuild lt hi a (q + 1) d ∧ SSK Q A0 A' (some bb) (.slice (some ⟨bb, 0, none⟩) n c) d' ∧ E.get 0 = .slice (some ⟨bb, 0, none⟩) n c ∧ E.get 3 = .func (.func f) #[] #[] ∧ E.get 8 = .int .i64 a ∧ E.get 9 = .int .i64 0 ∧ E.get 10 = .int .i64 hi ∧ E.get 11 = .int .i64 x) (q + 1)
    ⟨q + 1, q, d, rfl, by omega, by omega, hz, rfl, h, by simp, by simp, by simp, by simp, by simp, by simp⟩ ?_
  rintro m E A2 hwB hnB ⟨k, x, d2, rfl, hx, hkn, z2, q2, s2, e0, e3, e8, e9, e10, e11⟩
  by_cases hk0 : 0 < m
  · obtain ⟨j, rfl⟩ : ∃ j : Nat, x = j := ⟨m - 1, by omega⟩
    have hj : j + 1 = m := by omega
    simp [e0, e3, e8, e9, e10, e11]
    refine CN.use (siftK_ok s2 z2 hc (lo := j) (hi := hi) (F := a) (by omega) (by omega)) ?_
    rintro _ A3 hwC hnC s3
    simp [e11, hw3 j (by omega)]
    exact NX.of ⟨j, by omega, j, (j : Int) - 1, _, rfl, rfl, by omega, by rw [sift_sizeK _ _ _ rfl]; exact z2, by rw [← q2, ← hj, Sort.heapBuild], s3, by simp [e0], by simp [e3], by simp [e8], by simp [e9], by simp [e10], by simp⟩
  obtain rfl : m = 0 := by omega
  obtain rfl : x = -1 := by omega
  rw [Sort.heapBuild] at q2
  simp [e10, e11, hw1]
  refine LN.use (fun m E A' => ∃ (k : Nat) (x : Int) (d' : Array Key), m = k ∧ x = (k : Int) - 1 ∧ k ≤ hi ∧ d'.size = n ∧ Sort.heapPop lt a k d' = Sort.heapSort lt d a b ∧ SSK Q A0 A' (some bb) (.slice (some ⟨bb, 0, none⟩) n c) d' ∧ E.get 0 = .slice (some ⟨bb, 0, none⟩) n c ∧ E.get 3 = .func (.func f) #[] #[] ∧ E.get 8 = .int .i64 a ∧ E.get 9 = .int .i64 0 ∧ E.get 12 = .int .i64 x) hi
    ⟨hi, h1, d2, rfl, by omega, Nat.le_refl _, z2, by rw [q2, Sort.heapSort, ← hhi, ← hh1, ← hq], s2, by simp [e0], by simp [e3], by simp [e8], by simp [e9], by simp⟩ ?_
  clear e0 e3 e8 e9 e10 e11 s2 z2 q2
  rintro m E A4 hwD hnD ⟨k, x, d2, rfl, hx, hkn, z2, q2, s2, e0, e3, e8, e9, e12⟩
  by_cases hk0 : 0 < m
  · obtain ⟨j, rfl⟩ : ∃ j : Nat, x = j := ⟨m - 1, by omega⟩
    have hj : j + 1 = m := by omega
    have hexq : ∃ x : Nat, x = a + j := ⟨_, rfl⟩
    obtain ⟨p, hp⟩ := hexq
    have hwp : IntKind.i64.wrap ((a : Int) + (j : Int)) = (p : Int) := by rw [i64_in (by omega) (by omega)]; omega
    have ha1 : a < d2.size := by omega
    have hp1 : p < d2.size := by omega
    have ha2 : a < n := by omega
    have hp2 : p < n := by omega
    have hobt := s2.at2 ha1 hp1
    obtain ⟨cs, k1, ⟨k2, k3⟩, ⟨k4, k5⟩, k6, k7⟩ := hobt
    simp [-getElem!_pos, e0, e3, e8, e9, e12, hwp, ha2, hp2, k1, k2, k3, k4, k5, k6]
    have s3 := k7 (A4.set bb (.row (spl (spl cs (a * 4) (d2[p]!).enc) (p * 4) (d2[a]!).enc) 23 false)) (by rw [AH.get_set, if_pos rfl]) (fun k hk hkb => by rw [AH.get_set, if_neg hkb]) (by simp)
    refine CN.use (siftK_ok s3 (by rw [Sort.size_swp]; exact z2) hc (lo := 0) (hi := j) (F := a) (by omega) (by omega)) ?_
    rintro _ A5 hwE hnE s5
    simp [e12, hw3 j (by omega)]
    exact NX.of ⟨j, by omega, j, (j : Int) - 1, _, rfl, rfl, by omega, by rw [sift_sizeK _ _ _ rfl, Sort.size_swp]; exact z2, by rw [← q2, ← hj, Sort.heapPop, ← hp], s5, by simp [e0], by simp [e3], by simp [e8], by simp [e9], by simp⟩
  obtain rfl : m = 0 := by omega
  obtain rfl : x = -1 := by omega
  rw [Sort.heapPop] at q2
  simp [e12]
  exact DN.of (by rw [← q2]; exact s2)
theorem revK_ok (h : SSK Q A0 A (some bb) (.slice (some ⟨bb, 0, none⟩) n c) d) (hz : d.size = n) {a b : Nat} (hab : a < b) (hb : b ≤ n) (g : Value) :
    ACall Try.prog 90 [.slice (some ⟨bb, 0, none⟩) n c, .int .i64 a, .int .i64 b, g] A fun _ A' => ∃ d', Sort.PermIn a b d d' ∧ SSK Q A0 A' (some bb) (.slice (some ⟨bb, 0, none⟩) n c) d' := by
  have hz5 := h.sz
  have hw1 : IntKind.i64.wrap ((b : Int) - 1) = ((b - 1 : Nat) : Int) := by rw [i64_in (by omega) (by omega)]; omega
  refine code90.call (by simp) fun hwf => ?_
  unfold c90
  simp [hw1]
  refine LN.use (fun m E A' => ∃ (i j : Nat) (d' : Array Key), m = j + 1 - i ∧ a ≤ i ∧ j < b ∧ i ≤ n ∧ Sort.PermIn a b d d' ∧ SSK Q A0 A' (some bb) (.slice (some ⟨bb, 0, none⟩) n c) d' ∧ E.get 0 = .slice (some ⟨bb, 0, none⟩) n c ∧ E.get 8 = .int .i64 i ∧ E.get 9 = .int .i64 j) (b - a)
    ⟨a, b - 1, d, by omega, Nat.le_refl _, by omega, by omega, Sort.permIn_refl _ _ _, h, by simp, by simp, by simp⟩ ?_
  rintro m E A2 hwB hnB ⟨i, j, d2, rfl, hi, hj, hin, p2, s2, e0, e8, e9⟩
  have z2 : d2.size = n := by rw [p2.1]; exact hz
  by_cases hlt : i < j
  · have hlt' : (i : Int) < j := by omega
    have hwi : IntKind.i64.wrap ((i : Int) + 1) = ((i + 1 : Nat) : Int) := by rw [i64_in (by omega) (by omega)]; simp
    have hwj : IntKind.i64.wrap ((j : Int) - 1) = ((j - 1 : Nat) : Int) := by rw [i64_in (by omega) (by omega)]; omega
    have hi1 : i < d2.size := by omega
    have hj1 : j < d2.size := by omega
    have hi2 : i < n := by omega
    have hj2 : j < n := by omega
    have hobt := s2.at2 hi1 hj1
    obtain ⟨cs, k1, ⟨k2, k3⟩, ⟨k4, k5⟩, k6, k7⟩ := hobt
    simp [-getElem!_pos, e0, e8, e9, hlt', hlt, hi2, hj2, k1, k2, k3, k4, k5, k6, hwi, hwj]
    exact NX.of ⟨j - 1 + 1 - (i + 1), by omega, i + 1, j - 1, _, rfl, by omega, by omega, by omega, Sort.permIn_trans _ _ _ a b p2 (Sort.swp_permIn d2 a b i j hi (by omega) (by omega) hj (by omega)), k7 _ (by rw [AH.get_set, if_pos rfl]) (fun k hk hkb => by rw [AH.get_set, if_neg hkb]) (by simp), by simp [e0], by simp, by simp⟩
  · have hlt' : ¬ (i : Int) < j := by omega
    simp [e8, e9, hlt, hlt']
    exact DN.of ⟨d2, p2, s2⟩
end
end Go.Proofs.Ytieehccjajhpfaa.AC
/- Sorting keys: the pivot. -/
namespace Go.Proofs.Ytieehccjajhpfaa.AC
open Go Go.AI Go.Proofs Go.Proofs.Ytieehccjajhpfaa.AQ
set_option linter.unusedVariables false
section
variable {Q : Key → Prop} {A0 A A' : AH} {bb n c : Nat} {d : Array Key} {lt : Key → Key → Bool} {f : FuncId}
theorem SSK.off {v : Value} (h : SSK Q A0 A (some bb) v d) {sp : Nat} (h1 : sp ≠ bb) (h2 : A0.next ≤ sp) (x : Blk) : SSK Q A0 (A.set sp x) (some bb) v d :=
  ⟨h.lq.kept fun b hb => by injection hb with hb; subst hb; rw [AH.get_set, if_neg (Ne.symm h1)], fun b b1 b2 => by rw [AH.get_set, if_neg (by omega)]; exact h.ko b b1 b2, by simpa using h.nx, h.q, h.sz⟩
def SwpK (A : AH) (sp : Nat) : Prop := ∃ x, A.get sp = some (.row [.int .i64 x] 3 false)
theorem ord2K_ok (h : SSK Q A0 A (some bb) (.slice (some ⟨bb, 0, none⟩) n c) d) (hz : d.size = n) (hc : CmpK A0 (some bb) Q lt f) {a b sp : Nat} (ha : a < n) (hb : b < n) (hs : SwpK A sp) (hs1 : sp ≠ bb) (hs2 : A0.next ≤ sp) :
    ACall Try.prog 106 [.slice (some ⟨bb, 0, none⟩) n c, .int .i64 a, .int .i64 b, .pointer (some ⟨sp, 0, none⟩), .func (.func f) #[] #[]] A fun v A' => ∃ p q : Nat, ((p = a ∧ q = b) ∨ (p = b ∧ q = a)) ∧ v = .tuple #[.int .i64 p, .int .i64 q] ∧ SSK Q A0 A' (some bb) (.slice (some ⟨bb, 0, none⟩) n c) d ∧ SwpK A' sp := by
  have hz5 := h.sz
  have ha1 : a < d.size := by omega
  have hb1 : b < d.size := by omega
  have hobt := h.at2 hb1 ha1
  obtain ⟨cs, k1, ⟨k2, k3⟩, ⟨k4, k5⟩, -, -⟩ := hobt
  obtain ⟨x, hx⟩ := hs
  refine code106.call (by simp) fun hwf => ?_
  unfold c106
  simp [-getElem!_pos, ha, hb, k1, k2, k3, k4, k5]
  refine CN.use (hc A h.ko h.nx _ _ (h.q _ hb1) (h.q _ ha1)) ?_
  rintro _ A2 hw2 hn2 ⟨r, rfl, -, x2⟩
  have g1 := x2.get hwf hx
  have h2 := h.ext hwf x2 hn2
  by_cases hr : r < 0
  · simp [hr, g1]
    exact DN.of ⟨b, a, Or.inr ⟨rfl, rfl⟩, rfl, h2.off hs1 hs2 _, _, by rw [AH.get_set, if_pos rfl]⟩
  · simp [hr]
    exact DN.of ⟨a, b, Or.inl ⟨rfl, rfl⟩, rfl, h2, x, g1⟩
theorem medK_ok (h : SSK Q A0 A (some bb) (.slice (some ⟨bb, 0, none⟩) n c) d) (hz : d.size = n) (hc : CmpK A0 (some bb) Q lt f) {a b e sp : Nat} (ha : a < n) (hb : b < n) (he : e < n) (hs : SwpK A sp) (hs1 : sp ≠ bb) (hs2 : A0.next ≤ sp) :
    ACall Try.prog 104 [.slice (some ⟨bb, 0, none⟩) n c, .int .i64 a, .int .i64 b, .int .i64 e, .pointer (some ⟨sp, 0, none⟩), .func (.func f) #[] #[]] A fun v A' => ∃ p : Nat, (p = a ∨ p = b ∨ p = e) ∧ v = .int .i64 p ∧ SSK Q A0 A' (some bb) (.slice (some ⟨bb, 0, none⟩) n c) d ∧ SwpK A' sp := by
  refine code104.call (by simp) fun hwf => ?_
  unfold c104
  simp
  refine CN.use (ord2K_ok h hz hc ha hb hs hs1 hs2) ?_
  rintro _ A2 hw2 hn2 ⟨p, q, hpq, rfl, h2, s2⟩
  simp
  refine CN.use (ord2K_ok h2 hz hc (a := q) (b := e) (by omega) he s2 hs1 hs2) ?_
  rintro _ A3 hw3 hn3 ⟨p', q', hpq', rfl, h3, s3⟩
  simp
  refine CN.use (ord2K_ok h3 hz hc (a := p) (b := p') (by omega) (by omega) s3 hs1 hs2) ?_
  rintro _ A4 hw4 hn4 ⟨p'', q'', hpq'', rfl, h4, s4⟩
  simp
  exact DN.of ⟨q'', by omega, rfl, h4, s4⟩
theorem medaK_ok (h : SSK Q A0 A (some bb) (.slice (some ⟨bb, 0, none⟩) n c) d) (hz : d.size = n) (hc : CmpK A0 (some bb) Q lt f) {a sp : Nat} (ha0 : 0 < a) (ha : a + 1 < n) (hs : SwpK A sp) (hs1 : sp ≠ bb) (hs2 : A0.next ≤ sp) :
    ACall Try.prog 103 [.slice (some ⟨bb, 0, none⟩) n c, .int .i64 a, .pointer (some ⟨sp, 0, none⟩), .func (.func f) #[] #[]] A fun v A' => ∃ p : Nat, (p = a - 1 ∨ p = a ∨ p = a + 1) ∧ v = .int .i64 p ∧ SSK Q A0 A' (some bb) (.slice (some ⟨bb, 0, none⟩) n c) d ∧ SwpK A' sp := by
  have hz5 := h.sz
  have hexq : ∃ x : Nat, x = a - 1 := ⟨_, rfl⟩
  obtain ⟨a1, ha1⟩ := hexq
  have hexq : ∃ x : Nat, x = a + 1 := ⟨_, rfl⟩
  obtain ⟨a2, ha2⟩ := hexq
  have hw1 : IntKind.i64.wrap ((a : Int) - 1) = (a1 : Int) := by rw [i64_in (by omega) (by omega)]; omega
  have hw2 : IntKind.i64.wrap ((a : Int) + 1) = (a2 : Int) := by rw [i64_in (by omega) (by omega)]; omega
  refine code103.call (by simp) fun hwf => ?_
  unfold c103
  simp [hw1, hw2]
  refine CN.use (medK_ok h hz hc (a := a1) (b := a) (e := a2) (by omega) (by omega) (by omega) hs hs1 hs2) ?_
  rintro _ A2 hw2 hn2 ⟨p, hp, rfl, h2, s2⟩
  simp
  exact DN.of ⟨p, by omega, rfl, h2, s2⟩
set_option maxHeartbeats 1000000 in
theorem pivK_ok (h : SSK Q A0 A (some bb) (.slice (some ⟨bb, 0, none⟩) n c) d) (hz : d.size = n) (hc : CmpK A0 (some bb) Q lt f) {a b : Nat} (hab : a + 12 < b) (hb : b ≤ n) :
    ACall Try.prog 89 [.slice (some ⟨bb, 0, none⟩) n c, .int .i64 a, .int .i64 b, .func (.func f) #[] #[]] A fun v A' => ∃ (p : Nat) (x : Int), a ≤ p ∧ p < b ∧ v = .tuple #[.int .i64 p, .int .i64 x] ∧ SSK Q A0 A' (some bb) (.slice (some ⟨bb, 0, none⟩) n c) d := by
  have hz5 := h.sz
  have hexq : ∃ x : Nat, x = b - a := ⟨_, rfl⟩
  obtain ⟨L, hL⟩ := hexq
  have hexq : ∃ x : Nat, x = L / 4 := ⟨_, rfl⟩
  obtain ⟨q, hq⟩ := hexq
  have hexq : ∃ x : Nat, x = q * 2 := ⟨_, rfl⟩
  obtain ⟨m2, hm2⟩ := hexq
  have hexq : ∃ x : Nat, x = q * 3 := ⟨_, rfl⟩
  obtain ⟨m3, hm3⟩ := hexq
  have hexq : ∃ x : Nat, x = a + q := ⟨_, rfl⟩
  obtain ⟨i, hi⟩ := hexq
  have hexq : ∃ x : Nat, x = a + m2 := ⟨_, rfl⟩
  obtain ⟨j, hj⟩ := hexq
  have hexq : ∃ x : Nat, x = a + m3 := ⟨_, rfl⟩
  obtain ⟨k, hk⟩ := hexq
  have v0 : IntKind.i64.wrap ((b : Int) - a) = (L : Int) := by rw [i64_in (by omega) (by omega)]; omega
  have v1 : IntKind.i64.wrap ((L : Int) / 4) = (q : Int) := by rw [show (L : Int) / 4 = ((L / 4 : Nat) : Int) from by omega, i64_in (by omega) (by omega), hq]
  have v2 : IntKind.i64.wrap (q : Int) = (q : Int) := i64_in (by omega) (by omega)
  have v3 : IntKind.i64.wrap ((q : Int) * 2) = (m2 : Int) := by rw [i64_in (by omega) (by omega)]; omega
  have v4 : IntKind.i64.wrap ((q : Int) * 3) = (m3 : Int) := by rw [i64_in (by omega) (by omega)]; omega
  have v5 : IntKind.i64.wrap ((a : Int) + q) = (i : Int) := by rw [i64_in (by omega) (by omega)]; omega
  have v6 : IntKind.i64.wrap ((a : Int) + m2) = (j : Int) := by rw [i64_in (by omega) (by omega)]; omega
  have v7 : IntKind.i64.wrap ((a : Int) + m3) = (k : Int) := by rw [i64_in (by omega) (by omega)]; omega
  have fi : 0 < i ∧ i + 1 < n ∧ a + 1 ≤ i ∧ i + 1 < b := by omega
  have fj : 0 < j ∧ j + 1 < n ∧ a + 1 ≤ j ∧ j + 1 < b := by omega
  have fk : 0 < k ∧ k + 1 < n ∧ a + 1 ≤ k ∧ k + 1 < b := by omega
  have hL8 : (8 : Int) ≤ L := by omega
  refine ACall.wf fun hwf => ?_
  have hbb : bb < A.next := h.lq.lt hwf rfl
  have s0 : SSK Q A0 (A.alloc (.row [.int .i64 0] 3 false)) (some bb) (.slice (some ⟨bb, 0, none⟩) n c) d := h.ext hwf (Ext.alloc A _) (by simp)
  have w0 : SwpK (A.alloc (.row [.int .i64 0] 3 false)) A.next := ⟨0, AH.get_new _ _⟩
  have hs1 : A.next ≠ bb := by omega
  have hs2 := h.nx
  by_cases h50 : (50 : Int) ≤ L
  · refine code89.call (by simp) fun hwf => ?_
    unfold c89
    simp [v0, v1, v2, v3, v4, v5, v6, v7, hL8, h50]
    refine CN.use (medaK_ok s0 hz hc (a := i) fi.1 fi.2.1 w0 hs1 hs2) ?_
    rintro _ A1 hw1 hn1 ⟨i2, hi2, rfl, s1, w1⟩
    simp [v0, v1, v2, v3, v4, v5, v6, v7, hL8, h50]
    refine CN.use (medaK_ok s1 hz hc (a := j) fj.1 fj.2.1 w1 hs1 hs2) ?_
    rintro _ A2 hw2 hn2 ⟨j2, hj2, rfl, s2, w2⟩
    simp [v0, v1, v2, v3, v4, v5, v6, v7, hL8, h50]
    refine CN.use (medaK_ok s2 hz hc (a := k) fk.1 fk.2.1 w2 hs1 hs2) ?_
    rintro _ A3 hw3 hn3 ⟨k2, hk2, rfl, s3, w3⟩
    simp [v0, v1, v2, v3, v4, v5, v6, v7, hL8, h50]
    have gi : a ≤ i2 ∧ i2 < n ∧ i2 < b := by clear v0 v1 v2 v3 v4 v5 v6 v7; omega
    have gj : a ≤ j2 ∧ j2 < n ∧ j2 < b := by clear v0 v1 v2 v3 v4 v5 v6 v7; omega
    have gk : a ≤ k2 ∧ k2 < n ∧ k2 < b := by clear v0 v1 v2 v3 v4 v5 v6 v7; omega
    refine CN.use (medK_ok s3 hz hc (a := i2) (b := j2) (e := k2) gi.2.1 gj.2.1 gk.2.1 w3 hs1 hs2) ?_
    rintro _ A5 hw5 hn5 ⟨p, hp, rfl, h5, x, hx⟩
    have gp : a ≤ p ∧ p < b := by
      rcases hp with rfl | rfl | rfl
      · exact ⟨gi.1, gi.2.2⟩
      · exact ⟨gj.1, gj.2.2⟩
      · exact ⟨gk.1, gk.2.2⟩
    by_cases x0 : x = 0
    · simp [hx, x0]
      exact DN.of ⟨p, _, gp.1, gp.2, rfl, h5⟩
    by_cases x1 : x = 12
    · simp [hx, x0, x1]
      exact DN.of ⟨p, _, gp.1, gp.2, rfl, h5⟩
    · simp [hx, x0, x1]
      exact DN.of ⟨p, _, gp.1, gp.2, rfl, h5⟩
  · have w3 := w0
    have hexq : ∃ x : Nat, x = i := ⟨_, rfl⟩
    obtain ⟨i2, hi2⟩ := hexq
    have hexq : ∃ x : Nat, x = j := ⟨_, rfl⟩
    obtain ⟨j2, hj2⟩ := hexq
    have hexq : ∃ x : Nat, x = k := ⟨_, rfl⟩
    obtain ⟨k2, hk2⟩ := hexq
    have gi : a ≤ i2 ∧ i2 < n ∧ i2 < b := by clear v0 v1 v2 v3 v4 v5 v6 v7; omega
    have gj : a ≤ j2 ∧ j2 < n ∧ j2 < b := by clear v0 v1 v2 v3 v4 v5 v6 v7; omega
    have gk : a ≤ k2 ∧ k2 < n ∧ k2 < b := by clear v0 v1 v2 v3 v4 v5 v6 v7; omega
    rw [← hi2] at v5
    rw [← hj2] at v6
    rw [← hk2] at v7
    refine code89.call (by simp) fun hwf => ?_
    unfold c89
    simp [v0, v1, v2, v3, v4, v5, v6, v7, hL8, h50]
    refine CN.use (medK_ok s0 hz hc (a := i2) (b := j2) (e := k2) gi.2.1 gj.2.1 gk.2.1 w3 hs1 hs2) ?_
    rintro _ A5 hw5 hn5 ⟨p, hp, rfl, h5, x, hx⟩
    have gp : a ≤ p ∧ p < b := by
      rcases hp with rfl | rfl | rfl
      · exact ⟨gi.1, gi.2.2⟩
      · exact ⟨gj.1, gj.2.2⟩
      · exact ⟨gk.1, gk.2.2⟩
    by_cases x0 : x = 0
    · simp [hx, x0]
      exact DN.of ⟨p, _, gp.1, gp.2, rfl, h5⟩
    by_cases x1 : x = 12
    · simp [hx, x0, x1]
      exact DN.of ⟨p, _, gp.1, gp.2, rfl, h5⟩
    · simp [hx, x0, x1]
      exact DN.of ⟨p, _, gp.1, gp.2, rfl, h5⟩
end
end Go.Proofs.Ytieehccjajhpfaa.AC
/- Sorting keys: patterns broken. -/
namespace Go.Proofs.Ytieehccjajhpfaa.AC
open Go Go.AI Go.Proofs Go.Proofs.Ytieehccjajhpfaa.AQ
set_option linter.unusedVariables false
section
variable {Q : Key → Prop} {A0 A A' : AH} {bb n c : Nat} {d : Array Key} {lt : Key → Key → Bool} {f : FuncId}
set_option maxHeartbeats 1000000 in
theorem brkK_ok (h : SSK Q A0 A (some bb) (.slice (some ⟨bb, 0, none⟩) n c) d) (hz : d.size = n) (hn : n < 256) {a b : Nat} (hab : a + 12 < b) (hb : b ≤ n) (g : Value) :
    ACall Try.prog 88 [.slice (some ⟨bb, 0, none⟩) n c, .int .i64 a, .int .i64 b, g] A fun _ A' => ∃ d', Sort.PermIn a b d d' ∧ SSK Q A0 A' (some bb) (.slice (some ⟨bb, 0, none⟩) n c) d' := by
  have hexq : ∃ x : Nat, x = b - a := ⟨_, rfl⟩
  obtain ⟨L, hL⟩ := hexq
  have hexq : ∃ x : Nat, x = L / 4 := ⟨_, rfl⟩
  obtain ⟨q, hq⟩ := hexq
  have hexq : ∃ x : Nat, x = q * 2 := ⟨_, rfl⟩
  obtain ⟨m2, hm2⟩ := hexq
  have hexq : ∃ x : Nat, x = a + m2 := ⟨_, rfl⟩
  obtain ⟨j, hj⟩ := hexq
  have hexq : ∃ x : Nat, x = j - 1 := ⟨_, rfl⟩
  obtain ⟨j0, hj0⟩ := hexq
  have hexq : ∃ x : Nat, x = j + 1 := ⟨_, rfl⟩
  obtain ⟨j1, hj1⟩ := hexq
  have v0 : IntKind.i64.wrap ((b : Int) - a) = (L : Int) := by rw [i64_in (by omega) (by omega)]; omega
  have v1 : IntKind.i64.wrap ((L : Int) / 4) = (q : Int) := by rw [show (L : Int) / 4 = ((L / 4 : Nat) : Int) from by omega, i64_in (by omega) (by omega), hq]
  have v3 : IntKind.i64.wrap ((q : Int) * 2) = (m2 : Int) := by rw [i64_in (by omega) (by omega)]; omega
  have v6 : IntKind.i64.wrap ((a : Int) + m2) = (j : Int) := by rw [i64_in (by omega) (by omega)]; omega
  have v7 : IntKind.i64.wrap ((j : Int) - 1) = (j0 : Int) := by rw [i64_in (by omega) (by omega)]; omega
  have v8 : IntKind.i64.wrap ((j : Int) + 1) = (j1 : Int) := by rw [i64_in (by omega) (by omega)]; omega
  have v9 : IntKind.u64.wrap (L : Int) = (L : Int) := by rw [wrap64]; omega
  have fj : a + 5 ≤ j ∧ j + 3 ≤ b := by omega
  have hL8 : (8 : Int) ≤ L := by omega
  have hL256 : L < 256 := by omega
  have hL0 : 0 < L := by omega
  refine ACall.wf fun hwf => ?_
  have hbb : bb < A.next := h.lq.lt hwf rfl
  have s0 : SSK Q A0 (A.alloc (.row [.int .u64 L] 143 false)) (some bb) (.slice (some ⟨bb, 0, none⟩) n c) d := h.ext hwf (Ext.alloc A _) (by simp)
  have hnx := h.nx
  refine code88.call (by simp) fun hwf => ?_
  unfold c88
  simp [v0, v1, v3, v6, v7, v9, hL8]
  refine CN.use (npow_ok L hL256 _) ?_
  rintro _ A1 hw1 hn1 ⟨⟨M, l, rfl, hM, hM1, hM2, hl⟩, rfl⟩
  have hM2' := hM2 hL0
  have hexq : ∃ x : Nat, x = M - 1 := ⟨_, rfl⟩
  obtain ⟨M1, hM1e⟩ := hexq
  have v10 : IntKind.u64.wrap ((M : Int) - 1) = (M1 : Int) := by rw [wrap64]; omega
  simp [v0, v1, v3, v6, v7, v9, hL8]
  refine LN.use (fun m E A' => ∃ (t : Nat) (d' : Array Key) (x : Int), m = j1 + 1 - t ∧ j0 ≤ t ∧ t ≤ j1 + 1 ∧ Sort.PermIn a b d d' ∧ SSK Q A0 A' (some bb) (.slice (some ⟨bb, 0, none⟩) n c) d' ∧ A'.get A.next = some (.row [.int .u64 x] 143 false) ∧ E.get 0 = .slice (some ⟨bb, 0, none⟩) n c ∧ E.get 1 = .int .i64 a ∧ E.get 8 = .int .i64 L ∧ E.get 9 = .pointer (some ⟨A.next, 0, none⟩) ∧ E.get 10 = .int .u64 M ∧ E.get 11 = .int .i64 t) 3
    ⟨j0, d, L, by omega, Nat.le_refl _, by omega, Sort.permIn_refl _ _ _, s0, AH.get_new _ _, by simp, by simp, by simp, by simp, by simp, by simp⟩ ?_
  rintro m E A2 hw2 hn2 ⟨t, d2, x, rfl, ht0, ht1, p2, s2, g2, e0, e1, e8, e9, e10, e11⟩
  have z2 : d2.size = n := by rw [p2.1]; exact hz
  by_cases hlt : t ≤ j1
  rotate_left
  · have hlt' : ¬ (t : Int) ≤ j1 := by omega
    simp [e1, e8, e11, v1, v3, v6, v8, hlt, hlt']
    exact DN.of ⟨d2, p2, s2⟩
  have hlt' : (t : Int) ≤ j1 := by omega
  simp [e1, e8, e9, e11, v1, v3, v6, v8, hlt, hlt']
  refine CN.use (next_ok g2) ?_
  rintro _ A3 hw3 hn3 ⟨y, rfl, hy, g3, k3, n3⟩
  have s3 : SSK Q A0 A3 (some bb) (.slice (some ⟨bb, 0, none⟩) n c) d2 := ⟨s2.lq.kept fun b hb => by injection hb with hb; subst hb; exact k3 _ (by omega), fun b b1 b2 => by rw [k3 b (by omega)]; exact s2.ko b b1 b2, by have := s2.nx; omega, s2.q, s2.sz⟩
  have hobt := and_lowM hy hl hM hM1e
  obtain ⟨z, hz1, hz2⟩ := hobt
  have v11 : IntKind.i64.wrap (z : Int) = (z : Int) := i64_in (by omega) (by omega)
  have v12 : IntKind.i64.wrap ((t : Int) + 1) = ((t + 1 : Nat) : Int) := by rw [i64_in (by omega) (by omega)]; simp
  have hta : a ≤ t ∧ t < b := by omega
  have ht2 : t < d2.size := by omega
  have ht3 : t < n := by omega
  by_cases hzL : L ≤ z
  · have hzL' : (L : Int) ≤ z := by omega
    have hexq : ∃ x : Nat, x = z - L := ⟨_, rfl⟩
    obtain ⟨o, ho⟩ := hexq
    have hexq : ∃ x : Nat, x = a + o := ⟨_, rfl⟩
    obtain ⟨p, hp⟩ := hexq
    have v14 : IntKind.i64.wrap ((z : Int) - L) = (o : Int) := by rw [i64_in (by omega) (by omega)]; omega
    have v13 : IntKind.i64.wrap ((a : Int) + (o : Nat)) = (p : Int) := by rw [i64_in (by omega) (by omega)]; omega
    have hp2 : p < d2.size := by omega
    have hp3 : p < n := by omega
    have hobt := s3.at2 ht2 hp2
    obtain ⟨cs, k1, ⟨k2, k3'⟩, ⟨k4, k5⟩, k6, k7⟩ := hobt
    simp [-getElem!_pos, e0, e1, e8, e10, e11, v10, intBin_andJ, hz1, v11, v12, hzL, hzL', v14, v13, ht3, hp3, k1, k2, k3', k4, k5, k6]
    exact NX.of ⟨j1 + 1 - (t + 1), by omega, t + 1, _, _, rfl, by omega, by omega, Sort.permIn_trans _ _ _ a b p2 (Sort.swp_permIn d2 a b t p hta.1 hta.2 (by omega) (by omega) (by omega)), k7 _ (by rw [AH.get_set, if_pos rfl]) (fun k hk hkb => by rw [AH.get_set, if_neg hkb]) (by simp), by rw [AH.get_set, if_neg (by omega)]; exact g3, by simp [e0], by simp [e1], by simp [e8], by simp [e9], by simp [e10], by simp⟩
  · have hzL' : ¬ (L : Int) ≤ z := by omega
    have hexq : ∃ x : Nat, x = a + z := ⟨_, rfl⟩
    obtain ⟨p, hp⟩ := hexq
    have v14 : True := trivial
    have v13 : IntKind.i64.wrap ((a : Int) + (z : Nat)) = (p : Int) := by rw [i64_in (by omega) (by omega)]; omega
    have hp2 : p < d2.size := by omega
    have hp3 : p < n := by omega
    have hobt := s3.at2 ht2 hp2
    obtain ⟨cs, k1, ⟨k2, k3'⟩, ⟨k4, k5⟩, k6, k7⟩ := hobt
    simp [-getElem!_pos, e0, e1, e8, e10, e11, v10, intBin_andJ, hz1, v11, v12, hzL, hzL', v14, v13, ht3, hp3, k1, k2, k3', k4, k5, k6]
    exact NX.of ⟨j1 + 1 - (t + 1), by omega, t + 1, _, _, rfl, by omega, by omega, Sort.permIn_trans _ _ _ a b p2 (Sort.swp_permIn d2 a b t p hta.1 hta.2 (by omega) (by omega) (by omega)), k7 _ (by rw [AH.get_set, if_pos rfl]) (fun k hk hkb => by rw [AH.get_set, if_neg hkb]) (by simp), by rw [AH.get_set, if_neg (by omega)]; exact g3, by simp [e0], by simp [e1], by simp [e8], by simp [e9], by simp [e10], by simp⟩
end
end Go.Proofs.Ytieehccjajhpfaa.AC
/- Sorting keys: parted by equals. -/
namespace Go.Proofs.Ytieehccjajhpfaa.AC
open Go Go.AI Go.Proofs Go.Proofs.Ytieehccjajhpfaa.AQ
set_option linter.unusedVariables false
section
variable {Q : Key → Prop} {A0 A A' : AH} {bb n c : Nat} {d : Array Key} {lt : Key → Key → Bool} {f : FuncId}
theorem scanDown_posK {p : Key → Bool} {d : Array Key} {i j : Nat} (hi : 1 ≤ i) : Sort.scanDown p d i j = if i ≤ j ∧ p d[j]! = true then Sort.scanDown p d i (j - 1) else j := by
  cases j with
  | zero => rw [if_neg (by omega)]; rfl
  | succ j => rw [Sort.scanDown, Nat.add_sub_cancel]; simp
set_option maxHeartbeats 1000000 in
theorem pareqK_ok (h : SSK Q A0 A (some bb) (.slice (some ⟨bb, 0, none⟩) n c) d) (hz : d.size = n) (hc : CmpK A0 (some bb) Q lt f) {a b pv : Nat} (hap : a ≤ pv) (hpb : pv < b) (hb : b ≤ n) :
    ACall Try.prog 92 [.slice (some ⟨bb, 0, none⟩) n c, .int .i64 a, .int .i64 b, .int .i64 pv, .func (.func f) #[] #[]] A fun v A' => v = .int .i64 ((Sort.partitionEqual lt d a b pv).1 : Nat) ∧ SSK Q A0 A' (some bb) (.slice (some ⟨bb, 0, none⟩) n c) (Sort.partitionEqual lt d a b pv).2 := by
  have hz5 := h.sz
  have hw1 : IntKind.i64.wrap ((a : Int) + 1) = ((a + 1 : Nat) : Int) := by rw [i64_in (by omega) (by omega)]; simp
  have hw2 : IntKind.i64.wrap ((b : Int) - 1) = ((b - 1 : Nat) : Int) := by rw [i64_in (by omega) (by omega)]; omega
  have ha1 : a < d.size := by omega
  have hp1 : pv < d.size := by omega
  have ha2 : a < n := by omega
  have hp2 : pv < n := by omega
  have hobt := h.at2 ha1 hp1
  obtain ⟨cs, k1, ⟨k2, k3⟩, ⟨k4, k5⟩, k6, k7⟩ := hobt
  refine code92.call (by simp) fun hwf => ?_
  unfold c92
  simp [-getElem!_pos, ha2, hp2, k1, k2, k3, k4, k5, k6, hw1, hw2]
  refine LN.use (fun m E A' => ∃ (i j : Nat) (d' : Array Key), m = j + 1 - i ∧ a < i ∧ i ≤ j + 1 ∧ j < b ∧ d'.size = n ∧ Sort.partEqLoop lt a i j d' = Sort.partitionEqual lt d a b pv ∧ SSK Q A0 A' (some bb) (.slice (some ⟨bb, 0, none⟩) n c) d' ∧ E.get 0 = .slice (some ⟨bb, 0, none⟩) n c ∧ E.get 1 = .int .i64 a ∧ E.get 4 = .func (.func f) #[] #[] ∧ E.get 11 = .int .i64 i ∧ E.get 12 = .int .i64 j) (b - 1 + 1 - (a + 1))
    ⟨a + 1, b - 1, _, rfl, by omega, by omega, by omega, by rw [Sort.size_swp]; exact hz, rfl, k7 _ (by rw [AH.get_set, if_pos rfl]) (fun k hk hkb => by rw [AH.get_set, if_neg hkb]) (by simp), by simp, by simp, by simp, by simp [hw1], by simp [hw2]⟩ ?_
  clear k1 k2 k3 k4 k5 k6 k7
  rintro m E A2 hwB hnB ⟨i0, j0, d2, rfl, hai, hij0, hjb, z2, q2, s2, e0, e1, e4, ei, ej⟩
  simp
  have hexq : ∃ T, T = Sort.scanUp (fun x => !lt d2[a]! x) d2 j0 i0 := ⟨_, rfl⟩
  obtain ⟨T1, hT1⟩ := hexq
  refine LN.join 2 (fun m E A' => ∃ i : Nat, m = j0 + 1 - i ∧ i0 ≤ i ∧ i ≤ j0 + 1 ∧ Sort.scanUp (fun x => !lt d2[a]! x) d2 j0 i = T1 ∧ SSK Q A0 A' (some bb) (.slice (some ⟨bb, 0, none⟩) n c) d2 ∧ E.get 0 = .slice (some ⟨bb, 0, none⟩) n c ∧ E.get 1 = .int .i64 a ∧ E.get 4 = .func (.func f) #[] #[] ∧ E.get 11 = .int .i64 i ∧ E.get 12 = .int .i64 j0) (j0 + 1 - i0)
    (fun E A' => A'.wf ∧ SSK Q A0 A' (some bb) (.slice (some ⟨bb, 0, none⟩) n c) d2 ∧ E.get 0 = .slice (some ⟨bb, 0, none⟩) n c ∧ E.get 1 = .int .i64 a ∧ E.get 4 = .func (.func f) #[] #[] ∧ E.get 11 = .int .i64 T1 ∧ E.get 12 = .int .i64 j0)
    ⟨i0, rfl, Nat.le_refl _, by omega, hT1.symm, s2, by simp [e0], by simp [e1], by simp [e4], by simp [ei], by simp [ej]⟩ ?_ ?_
  · clear e0 e1 e4 ei ej
    rintro m E B hB hnB ⟨i, rfl, hi1, hi2, qi, sB, e0, e1, e4, ei, ej⟩
    by_cases hij : i ≤ j0
    rotate_left
    · have hij' : ¬ (i : Int) ≤ j0 := by omega
      rw [Sort.scanUp, if_neg (by simp [hij])] at qi
      simp [e0, e1, e4, ei, ej, hij, hij']
      exact NX.of ⟨hB, sB, by simp [e0], by simp [e1], by simp [e4], by simp [ei, qi], by simp [ej]⟩
    have hij' : (i : Int) ≤ j0 := by omega
    have hi3 : i < d2.size := by omega
    have ha3 : a < d2.size := by omega
    have hi4 : i < n := by omega
    have ha4 : a < n := by omega
    have hgi : IntKind.i64.wrap ((i : Int) + 1) = ((i + 1 : Nat) : Int) := by rw [i64_in (by omega) (by omega)]; simp
    have hobt := sB.at2 ha3 hi3
    obtain ⟨cs, k1, ⟨k2, k3⟩, ⟨k4, k5⟩, -, -⟩ := hobt
    simp [-getElem!_pos, e0, e1, e4, ei, ej, hij, hij', ha4, hi4, k1, k2, k3, k4, k5]
    refine CN.use (hc B sB.ko sB.nx _ _ (sB.q _ ha3) (sB.q _ hi3)) ?_
    rintro _ C hC hnC ⟨r, rfl, hr, x3⟩
    have sC := sB.ext hB x3 hnC
    have hbool := Bool.eq_false_or_eq_true (lt d2[a]! d2[i]!)
    have hr2 : r < 0 ↔ lt d2[a]! d2[i]! = true := by rw [← hr]; simp
    rcases hbool with hl | hl
    · have hr' : r < 0 := hr2.2 hl
      rw [Sort.scanUp, if_neg (by simp [hl])] at qi
      simp [e0, e1, e4, ei, ej, hij, hij', hr']
      exact NX.of ⟨hC, sC, by simp [e0], by simp [e1], by simp [e4], by simp [ei, qi], by simp [ej]⟩
    · have hr' : ¬ r < 0 := fun h => by rw [hr2, hl] at h; cases h
      rw [Sort.scanUp, if_pos (by simp [hij, hl])] at qi
      simp [e0, e1, e4, ei, ej, hij, hij', hr', hgi]
      exact NX.of ⟨j0 + 1 - (i + 1), by omega, i + 1, rfl, by omega, by omega, qi, sC, by simp [e0], by simp [e1], by simp [e4], by simp, by simp [ej]⟩
  rintro E B ⟨hB, sB, e0, e1, e4, ei, ej⟩
  have u1 := Sort.scanUp_spec (fun x => !lt d2[a]! x) d2 j0 _ i0 rfl
  rw [← hT1] at u1
  have u1a := u1.1
  have u1b := u1.2.1 hij0
  simp
  have hexq : ∃ T, T = Sort.scanDown (fun x => lt d2[a]! x) d2 T1 j0 := ⟨_, rfl⟩
  obtain ⟨T2, hT2⟩ := hexq
  refine LN.join 4 (fun m E A' => ∃ j : Nat, m = j ∧ j ≤ j0 ∧ T1 ≤ j + 1 ∧ Sort.scanDown (fun x => lt d2[a]! x) d2 T1 j = T2 ∧ SSK Q A0 A' (some bb) (.slice (some ⟨bb, 0, none⟩) n c) d2 ∧ E.get 0 = .slice (some ⟨bb, 0, none⟩) n c ∧ E.get 1 = .int .i64 a ∧ E.get 4 = .func (.func f) #[] #[] ∧ E.get 11 = .int .i64 T1 ∧ E.get 12 = .int .i64 j) j0
    (fun E A' => A'.wf ∧ SSK Q A0 A' (some bb) (.slice (some ⟨bb, 0, none⟩) n c) d2 ∧ E.get 0 = .slice (some ⟨bb, 0, none⟩) n c ∧ E.get 1 = .int .i64 a ∧ E.get 4 = .func (.func f) #[] #[] ∧ E.get 11 = .int .i64 T1 ∧ E.get 12 = .int .i64 T2)
    ⟨j0, rfl, Nat.le_refl _, by omega, hT2.symm, sB, by simp [e0], by simp [e1], by simp [e4], by simp [ei], by simp [ej]⟩ ?_ ?_
  · clear e0 e1 e4 ei ej
    rintro m E B hB hnB ⟨j, rfl, hj1, hj2, qj, sB, e0, e1, e4, ei, ej⟩
    rw [scanDown_posK (by omega)] at qj
    by_cases hij : T1 ≤ m
    rotate_left
    · have hij' : ¬ (T1 : Int) ≤ m := by omega
      rw [if_neg (fun h => hij h.1)] at qj
      simp [e0, e1, e4, ei, ej, hij, hij']
      exact NX.of ⟨hB, sB, by simp [e0], by simp [e1], by simp [e4], by simp [ei], by simp [ej, qj]⟩
    have hij' : (T1 : Int) ≤ m := by omega
    have hj3 : m < d2.size := by omega
    have ha3 : a < d2.size := by omega
    have hj4 : m < n := by omega
    have ha4 : a < n := by omega
    have hgj : IntKind.i64.wrap ((m : Int) - 1) = ((m - 1 : Nat) : Int) := by rw [i64_in (by omega) (by omega)]; omega
    have hobt := sB.at2 ha3 hj3
    obtain ⟨cs, k1, ⟨k2, k3⟩, ⟨k4, k5⟩, -, -⟩ := hobt
    simp [-getElem!_pos, e0, e1, e4, ei, ej, hij, hij', ha4, hj4, k1, k2, k3, k4, k5]
    refine CN.use (hc B sB.ko sB.nx _ _ (sB.q _ ha3) (sB.q _ hj3)) ?_
    rintro _ C hC hnC ⟨r, rfl, hr, x3⟩
    have sC := sB.ext hB x3 hnC
    have hbool := Bool.eq_false_or_eq_true (lt d2[a]! d2[m]!)
    have hr2 : r < 0 ↔ lt d2[a]! d2[m]! = true := by rw [← hr]; simp
    rcases hbool with hl | hl
    · have hr' : r < 0 := hr2.2 hl
      rw [if_pos ⟨hij, by simp [hl]⟩] at qj
      simp [e0, e1, e4, ei, ej, hij, hij', hr', hgj]
      exact NX.of ⟨m - 1, by omega, m - 1, rfl, by omega, by omega, qj, sC, by simp [e0], by simp [e1], by simp [e4], by simp [ei], by simp⟩
    · have hr' : ¬ r < 0 := fun h => by rw [hr2, hl] at h; cases h
      rw [if_neg (fun h => by simp [hl] at h)] at qj
      simp [e0, e1, e4, ei, ej, hij, hij', hr']
      exact NX.of ⟨hC, sC, by simp [e0], by simp [e1], by simp [e4], by simp [ei], by simp [ej, qj]⟩
  rintro E C ⟨hC, sC, e0, e1, e4, ei, ej⟩
  have u2 := Sort.scanDown_spec (fun x => lt d2[a]! x) d2 T1 j0
  rw [← hT2] at u2
  have u2a := u2.1
  have u2b := u2.2.1 u1b
  rw [Sort.partEqLoop_eq, ← hT1, ← hT2] at q2
  by_cases hend : T2 < T1
  · have hend' : (T2 : Int) < T1 := by omega
    rw [if_pos hend] at q2
    simp [e0, e1, e4, ei, ej, hend, hend']
    refine DN.of ⟨?_, ?_⟩
    · rw [← q2]
    · rw [← q2]; exact sC
  have hend' : ¬ (T2 : Int) < T1 := by omega
  rw [if_neg hend] at q2
  have hne : T1 ≠ T2 := fun e => by
    have x1 := u1.2.2.2 (by omega)
    have x2 := u2.2.2.2 (by omega) (by omega)
    rw [← e] at x2
    simp only [x2] at x1
    cases x1
  have t1 : T1 < d2.size := by omega
  have t2 : T2 < d2.size := by omega
  have t3 : T1 < n := by omega
  have t4 : T2 < n := by omega
  have hgi : IntKind.i64.wrap ((T1 : Int) + 1) = ((T1 + 1 : Nat) : Int) := by rw [i64_in (by omega) (by omega)]; simp
  have hgj : IntKind.i64.wrap ((T2 : Int) - 1) = ((T2 - 1 : Nat) : Int) := by rw [i64_in (by omega) (by omega)]; omega
  have hobt := sC.at2 t1 t2
  obtain ⟨cs', k1, ⟨k2, k3⟩, ⟨k4, k5⟩, k6, k7⟩ := hobt
  simp [-getElem!_pos, e0, e1, e4, ei, ej, hend, hend', t3, t4, k1, k2, k3, k4, k5, k6, hgi, hgj]
  exact NX.of ⟨T2 - 1 + 1 - (T1 + 1), by omega, T1 + 1, T2 - 1, _, rfl, by omega, by omega, by omega, by rw [Sort.size_swp]; exact z2, q2, k7 _ (by rw [AH.get_set, if_pos rfl]) (fun k hk hkb => by rw [AH.get_set, if_neg hkb]) (by simp), by simp [e0], by simp [e1], by simp [e4], by simp, by simp⟩
end
end Go.Proofs.Ytieehccjajhpfaa.AC
/- Sorting keys: parted. -/
namespace Go.Proofs.Ytieehccjajhpfaa.AC
open Go Go.AI Go.Proofs Go.Proofs.Ytieehccjajhpfaa.AQ
set_option linter.unusedVariables false
section
variable {Q : Key → Prop} {A0 A A' : AH} {bb n c : Nat} {d : Array Key} {lt : Key → Key → Bool} {f : FuncId}
set_option maxHeartbeats 2000000 in
theorem partK_ok (h : SSK Q A0 A (some bb) (.slice (some ⟨bb, 0, none⟩) n c) d) (hz : d.size = n) (hc : CmpK A0 (some bb) Q lt f) {a b pv : Nat} (hap : a ≤ pv) (hpb : pv < b) (hb : b ≤ n) :
    ACall Try.prog 93 [.slice (some ⟨bb, 0, none⟩) n c, .int .i64 a, .int .i64 b, .int .i64 pv, .func (.func f) #[] #[]] A fun v A' => v = .tuple #[.int .i64 ((Sort.partition lt d a b pv).1 : Nat), .bool (Sort.partition lt d a b pv).2.1] ∧ SSK Q A0 A' (some bb) (.slice (some ⟨bb, 0, none⟩) n c) (Sort.partition lt d a b pv).2.2 := by
  have hz5 := h.sz
  have hw1 : IntKind.i64.wrap ((a : Int) + 1) = ((a + 1 : Nat) : Int) := by rw [i64_in (by omega) (by omega)]; simp
  have hw2 : IntKind.i64.wrap ((b : Int) - 1) = ((b - 1 : Nat) : Int) := by rw [i64_in (by omega) (by omega)]; omega
  have ha1 : a < d.size := by omega
  have hp1 : pv < d.size := by omega
  have ha2 : a < n := by omega
  have hp2 : pv < n := by omega
  have hexq : ∃ x : Nat, x = a + 1 := ⟨_, rfl⟩
  obtain ⟨i0, hi0⟩ := hexq
  have hexq : ∃ x : Nat, x = b - 1 := ⟨_, rfl⟩
  obtain ⟨j0, hj0⟩ := hexq
  rw [← hi0] at hw1
  rw [← hj0] at hw2
  have hexq : ∃ x, x = Sort.swp d a pv := ⟨_, rfl⟩
  obtain ⟨d2, hd2⟩ := hexq
  have z2 : d2.size = n := by rw [hd2, Sort.size_swp]; exact hz
  have hobt := h.at2 ha1 hp1
  obtain ⟨cs, k1, ⟨k2, k3⟩, ⟨k4, k5⟩, k6, k7⟩ := hobt
  have hexq : ∃ x, x = Sort.partition lt d a b pv := ⟨_, rfl⟩
  obtain ⟨R, hR⟩ := hexq
  rw [← hR]
  unfold Sort.partition at hR
  simp only [← hd2, ← hi0, ← hj0] at hR
  refine code93.call (by simp) fun hwf => ?_
  unfold c93
  simp [-getElem!_pos, ha2, hp2, k1, k2, k3, k4, k5, k6, hw1, hw2]
  have s2 := k7 (A.set bb (.row (spl (spl cs (a * 4) (d[pv]!).enc) (pv * 4) (d[a]!).enc) 23 false)) (by rw [AH.get_set, if_pos rfl]) (fun k hk hkb => by rw [AH.get_set, if_neg hkb]) (by simp)
  rw [← hd2] at s2
  clear k1 k2 k3 k4 k5 k6 k7
  have e0 : True := trivial
  have e1 : True := trivial
  have e4 : True := trivial
  have ei : True := trivial
  have ej : True := trivial
  have hexq : ∃ T, T = Sort.scanUp (fun x => lt x d2[a]!) d2 j0 i0 := ⟨_, rfl⟩
  obtain ⟨T1, hT1⟩ := hexq
  refine LN.join 0 (fun m E A' => ∃ i : Nat, m = j0 + 1 - i ∧ i0 ≤ i ∧ i ≤ j0 + 1 ∧ Sort.scanUp (fun x => lt x d2[a]!) d2 j0 i = T1 ∧ SSK Q A0 A' (some bb) (.slice (some ⟨bb, 0, none⟩) n c) d2 ∧ E.get 0 = .slice (some ⟨bb, 0, none⟩) n c ∧ E.get 1 = .int .i64 a ∧ E.get 4 = .func (.func f) #[] #[] ∧ E.get 12 = .int .i64 i ∧ E.get 13 = .int .i64 j0) (j0 + 1 - i0)
    (fun E A' => A'.wf ∧ SSK Q A0 A' (some bb) (.slice (some ⟨bb, 0, none⟩) n c) d2 ∧ E.get 0 = .slice (some ⟨bb, 0, none⟩) n c ∧ E.get 1 = .int .i64 a ∧ E.get 4 = .func (.func f) #[] #[] ∧ E.get 12 = .int .i64 T1 ∧ E.get 13 = .int .i64 j0)
    ⟨i0, rfl, Nat.le_refl _, by omega, hT1.symm, s2, by simp [e0], by simp [e1], by simp [e4], by simp [ei], by simp [ej]⟩ ?_ ?_
  · clear e0 e1 e4 ei ej
    rintro m E B hB hnB ⟨i, rfl, hi1, hi2, qi, sB, e0, e1, e4, ei, ej⟩
    by_cases hij : i ≤ j0
    rotate_left
    · have hij' : ¬ (i : Int) ≤ j0 := by omega
      rw [Sort.scanUp, if_neg (by simp [hij])] at qi
      simp [e0, e1, e4, ei, ej, hij, hij']
      exact NX.of ⟨hB, sB, by simp [e0], by simp [e1], by simp [e4], by simp [ei, qi], by simp [ej]⟩
    have hij' : (i : Int) ≤ j0 := by omega
    have hi3 : i < d2.size := by omega
    have ha3 : a < d2.size := by omega
    have hi4 : i < n := by omega
    have ha4 : a < n := by omega
    have hgi : IntKind.i64.wrap ((i : Int) + 1) = ((i + 1 : Nat) : Int) := by rw [i64_in (by omega) (by omega)]; simp
    have hobt := sB.at2 ha3 hi3
    obtain ⟨cs, k1, ⟨k2, k3⟩, ⟨k4, k5⟩, -, -⟩ := hobt
    simp [-getElem!_pos, e0, e1, e4, ei, ej, hij, hij', ha4, hi4, k1, k2, k3, k4, k5]
    refine CN.use (hc B sB.ko sB.nx _ _ (sB.q _ hi3) (sB.q _ ha3)) ?_
    rintro _ C hC hnC ⟨r, rfl, hr, x3⟩
    have sC := sB.ext hB x3 hnC
    have hbool := Bool.eq_false_or_eq_true (lt d2[i]! d2[a]!)
    have hr2 : r < 0 ↔ lt d2[i]! d2[a]! = true := by rw [← hr]; simp
    rcases hbool with hl | hl
    · have hr' : r < 0 := hr2.2 hl
      rw [Sort.scanUp, if_pos (by simp [hij, hl])] at qi
      simp [e0, e1, e4, ei, ej, hij, hij', hr', hgi]
      exact NX.of ⟨j0 + 1 - (i + 1), by omega, i + 1, rfl, by omega, by omega, qi, sC, by simp [e0], by simp [e1], by simp [e4], by simp, by simp [ej]⟩
    · have hr' : ¬ r < 0 := fun h => by rw [hr2, hl] at h; cases h
      rw [Sort.scanUp, if_neg (by simp [hl])] at qi
      simp [e0, e1, e4, ei, ej, hij, hij', hr']
      exact NX.of ⟨hC, sC, by simp [e0], by simp [e1], by simp [e4], by simp [ei, qi], by simp [ej]⟩
  rintro E B ⟨hB, sB, e0, e1, e4, ei, ej⟩
  have u1 := Sort.scanUp_spec (fun x => lt x d2[a]!) d2 j0 _ i0 rfl
  rw [← hT1] at u1
  have u1a := u1.1
  have u1b := u1.2.1 (by omega)
  simp
  have hexq : ∃ T, T = Sort.scanDown (fun x => !lt x d2[a]!) d2 T1 j0 := ⟨_, rfl⟩
  obtain ⟨T2, hT2⟩ := hexq
  refine LN.join 2 (fun m E A' => ∃ j : Nat, m = j ∧ j ≤ j0 ∧ T1 ≤ j + 1 ∧ Sort.scanDown (fun x => !lt x d2[a]!) d2 T1 j = T2 ∧ SSK Q A0 A' (some bb) (.slice (some ⟨bb, 0, none⟩) n c) d2 ∧ E.get 0 = .slice (some ⟨bb, 0, none⟩) n c ∧ E.get 1 = .int .i64 a ∧ E.get 4 = .func (.func f) #[] #[] ∧ E.get 12 = .int .i64 T1 ∧ E.get 13 = .int .i64 j) j0
    (fun E A' => A'.wf ∧ SSK Q A0 A' (some bb) (.slice (some ⟨bb, 0, none⟩) n c) d2 ∧ E.get 0 = .slice (some ⟨bb, 0, none⟩) n c ∧ E.get 1 = .int .i64 a ∧ E.get 4 = .func (.func f) #[] #[] ∧ E.get 12 = .int .i64 T1 ∧ E.get 13 = .int .i64 T2)
    ⟨j0, rfl, Nat.le_refl _, by omega, hT2.symm, sB, by simp [e0], by simp [e1], by simp [e4], by simp [ei], by simp [ej]⟩ ?_ ?_
  · clear e0 e1 e4 ei ej
    rintro m E B hB hnB ⟨j, rfl, hj1, hj2, qj, sB, e0, e1, e4, ei, ej⟩
    rw [scanDown_posK (by omega)] at qj
    by_cases hij : T1 ≤ m
    rotate_left
    · have hij' : ¬ (T1 : Int) ≤ m := by omega
      rw [if_neg (fun h => hij h.1)] at qj
      simp [e0, e1, e4, ei, ej, hij, hij']
      exact NX.of ⟨hB, sB, by simp [e0], by simp [e1], by simp [e4], by simp [ei], by simp [ej, qj]⟩
    have hij' : (T1 : Int) ≤ m := by omega
    have hj3 : m < d2.size := by omega
    have ha3 : a < d2.size := by omega
    have hj4 : m < n := by omega
    have ha4 : a < n := by omega
    have hgj : IntKind.i64.wrap ((m : Int) - 1) = ((m - 1 : Nat) : Int) := by rw [i64_in (by omega) (by omega)]; omega
    have hobt := sB.at2 ha3 hj3
    obtain ⟨cs, k1, ⟨k2, k3⟩, ⟨k4, k5⟩, -, -⟩ := hobt
    simp [-getElem!_pos, e0, e1, e4, ei, ej, hij, hij', ha4, hj4, k1, k2, k3, k4, k5]
    refine CN.use (hc B sB.ko sB.nx _ _ (sB.q _ hj3) (sB.q _ ha3)) ?_
    rintro _ C hC hnC ⟨r, rfl, hr, x3⟩
    have sC := sB.ext hB x3 hnC
    have hbool := Bool.eq_false_or_eq_true (lt d2[m]! d2[a]!)
    have hr2 : r < 0 ↔ lt d2[m]! d2[a]! = true := by rw [← hr]; simp
    rcases hbool with hl | hl
    · have hr' : r < 0 := hr2.2 hl
      rw [if_neg (fun h => by simp [hl] at h)] at qj
      simp [e0, e1, e4, ei, ej, hij, hij', hr']
      exact NX.of ⟨hC, sC, by simp [e0], by simp [e1], by simp [e4], by simp [ei], by simp [ej, qj]⟩
    · have hr' : ¬ r < 0 := fun h => by rw [hr2, hl] at h; cases h
      rw [if_pos ⟨hij, by simp [hl]⟩] at qj
      simp [e0, e1, e4, ei, ej, hij, hij', hr', hgj]
      exact NX.of ⟨m - 1, by omega, m - 1, rfl, by omega, by omega, qj, sC, by simp [e0], by simp [e1], by simp [e4], by simp [ei], by simp⟩
  rintro E C ⟨hC, sC, e0, e1, e4, ei, ej⟩
  have u2 := Sort.scanDown_spec (fun x => !lt x d2[a]!) d2 T1 j0
  rw [← hT2] at u2
  have u2a := u2.1
  have u2b := u2.2.1 u1b
  rw [← hT1, ← hT2] at hR
  have t4 : T2 < n := by omega
  have t4' : T2 < d2.size := by omega
  have ha3 : a < d2.size := by omega
  by_cases hend : T2 < T1
  · have hend' : (T2 : Int) < T1 := by omega
    rw [if_pos hend] at hR
    have hobt := sC.at2 t4' ha3
    obtain ⟨cs', k1, ⟨k2, k3⟩, ⟨k4, k5⟩, k6, k7⟩ := hobt
    simp [-getElem!_pos, e0, e1, e4, ei, ej, hend, hend', ha2, t4, k1, k2, k3, k4, k5, k6]
    refine DN.of ⟨by rw [hR], ?_⟩
    rw [hR]
    exact k7 _ (by rw [AH.get_set, if_pos rfl]) (fun k hk hkb => by rw [AH.get_set, if_neg hkb]) (by simp)
  have hend' : ¬ (T2 : Int) < T1 := by omega
  rw [if_neg hend] at hR
  have hne : T1 ≠ T2 := fun e => by
    have x1 := u1.2.2.2 (by omega)
    have x2 := u2.2.2.2 (by omega) (by omega)
    rw [← e] at x2
    simp only [x1] at x2
    cases x2
  have t1 : T1 < d2.size := by omega
  have t3 : T1 < n := by omega
  have hgi : IntKind.i64.wrap ((T1 : Int) + 1) = ((T1 + 1 : Nat) : Int) := by rw [i64_in (by omega) (by omega)]; simp
  have hgj : IntKind.i64.wrap ((T2 : Int) - 1) = ((T2 - 1 : Nat) : Int) := by rw [i64_in (by omega) (by omega)]; omega
  have hobt := sC.at2 t1 t4'
  obtain ⟨cs', k1, ⟨k2, k3⟩, ⟨k4, k5⟩, k6, k7⟩ := hobt
  simp [-getElem!_pos, e0, e1, e4, ei, ej, hend, hend', t3, t4, k1, k2, k3, k4, k5, k6, hgi, hgj]
  have hexq : ∃ x, x = Sort.partLoop lt a (T1 + 1) (T2 - 1) (Sort.swp d2 T1 T2) := ⟨_, rfl⟩
  obtain ⟨r, hr⟩ := hexq
  rw [← hr] at hR
  refine LN.use (fun m E A' => ∃ (i j : Nat) (d' : Array Key), m = j + 1 - i ∧ a < i ∧ i ≤ j + 1 ∧ j < b ∧ d'.size = n ∧ Sort.partLoop lt a i j d' = r ∧ SSK Q A0 A' (some bb) (.slice (some ⟨bb, 0, none⟩) n c) d' ∧ E.get 0 = .slice (some ⟨bb, 0, none⟩) n c ∧ E.get 1 = .int .i64 a ∧ E.get 4 = .func (.func f) #[] #[] ∧ E.get 12 = .int .i64 i ∧ E.get 13 = .int .i64 j) (T2 - 1 + 1 - (T1 + 1))
    ⟨T1 + 1, T2 - 1, _, rfl, by omega, by omega, by omega, by rw [Sort.size_swp]; exact z2, hr.symm, k7 _ (by rw [AH.get_set, if_pos rfl]) (fun k hk hkb => by rw [AH.get_set, if_neg hkb]) (by simp), by simp [e0], by simp [e1], by simp [e4], by simp, by simp⟩ ?_
  clear k1 k2 k3 k4 k5 k6 k7 e0 e1 e4 ei ej hr u1 u2 hgi hgj t1 t3 t4 t4' hne hend hend' u1a u1b u2a u2b sB sC s2
  rintro m E A3 hw3 hn3 ⟨i1, j1, d3, rfl, hai, hij1, hjb, z3, q3, s3, e0, e1, e4, ei, ej⟩
  simp
  have hexq : ∃ T, T = Sort.scanUp (fun x => lt x d3[a]!) d3 j1 i1 := ⟨_, rfl⟩
  obtain ⟨T3, hT3⟩ := hexq
  refine LN.join 6 (fun m E A' => ∃ i : Nat, m = j1 + 1 - i ∧ i1 ≤ i ∧ i ≤ j1 + 1 ∧ Sort.scanUp (fun x => lt x d3[a]!) d3 j1 i = T3 ∧ SSK Q A0 A' (some bb) (.slice (some ⟨bb, 0, none⟩) n c) d3 ∧ E.get 0 = .slice (some ⟨bb, 0, none⟩) n c ∧ E.get 1 = .int .i64 a ∧ E.get 4 = .func (.func f) #[] #[] ∧ E.get 12 = .int .i64 i ∧ E.get 13 = .int .i64 j1) (j1 + 1 - i1)
    (fun E A' => A'.wf ∧ SSK Q A0 A' (some bb) (.slice (some ⟨bb, 0, none⟩) n c) d3 ∧ E.get 0 = .slice (some ⟨bb, 0, none⟩) n c ∧ E.get 1 = .int .i64 a ∧ E.get 4 = .func (.func f) #[] #[] ∧ E.get 12 = .int .i64 T3 ∧ E.get 13 = .int .i64 j1)
    ⟨i1, rfl, Nat.le_refl _, by omega, hT3.symm, s3, by simp [e0], by simp [e1], by simp [e4], by simp [ei], by simp [ej]⟩ ?_ ?_
  · clear e0 e1 e4 ei ej
    rintro m E B hB hnB ⟨i, rfl, hi1, hi2, qi, sB, e0, e1, e4, ei, ej⟩
    by_cases hij : i ≤ j1
    rotate_left
    · have hij' : ¬ (i : Int) ≤ j1 := by omega
      rw [Sort.scanUp, if_neg (by simp [hij])] at qi
      simp [e0, e1, e4, ei, ej, hij, hij']
      exact NX.of ⟨hB, sB, by simp [e0], by simp [e1], by simp [e4], by simp [ei, qi], by simp [ej]⟩
    have hij' : (i : Int) ≤ j1 := by omega
    have hi3 : i < d3.size := by omega
    have ha3 : a < d3.size := by omega
    have hi4 : i < n := by omega
    have ha4 : a < n := by omega
    have hgi : IntKind.i64.wrap ((i : Int) + 1) = ((i + 1 : Nat) : Int) := by rw [i64_in (by omega) (by omega)]; simp
    have hobt := sB.at2 ha3 hi3
    obtain ⟨cs, k1, ⟨k2, k3⟩, ⟨k4, k5⟩, -, -⟩ := hobt
    simp [-getElem!_pos, e0, e1, e4, ei, ej, hij, hij', ha4, hi4, k1, k2, k3, k4, k5]
    refine CN.use (hc B sB.ko sB.nx _ _ (sB.q _ hi3) (sB.q _ ha3)) ?_
    rintro _ C hC hnC ⟨r, rfl, hr, x3⟩
    have sC := sB.ext hB x3 hnC
    have hbool := Bool.eq_false_or_eq_true (lt d3[i]! d3[a]!)
    have hr2 : r < 0 ↔ lt d3[i]! d3[a]! = true := by rw [← hr]; simp
    rcases hbool with hl | hl
    · have hr' : r < 0 := hr2.2 hl
      rw [Sort.scanUp, if_pos (by simp [hij, hl])] at qi
      simp [e0, e1, e4, ei, ej, hij, hij', hr', hgi]
      exact NX.of ⟨j1 + 1 - (i + 1), by omega, i + 1, rfl, by omega, by omega, qi, sC, by simp [e0], by simp [e1], by simp [e4], by simp, by simp [ej]⟩
    · have hr' : ¬ r < 0 := fun h => by rw [hr2, hl] at h; cases h
      rw [Sort.scanUp, if_neg (by simp [hl])] at qi
      simp [e0, e1, e4, ei, ej, hij, hij', hr']
      exact NX.of ⟨hC, sC, by simp [e0], by simp [e1], by simp [e4], by simp [ei, qi], by simp [ej]⟩
  rintro E B ⟨hB, sB, e0, e1, e4, ei, ej⟩
  have u1 := Sort.scanUp_spec (fun x => lt x d3[a]!) d3 j1 _ i1 rfl
  rw [← hT3] at u1
  have u1a := u1.1
  have u1b := u1.2.1 hij1
  simp
  have hexq : ∃ T, T = Sort.scanDown (fun x => !lt x d3[a]!) d3 T3 j1 := ⟨_, rfl⟩
  obtain ⟨T4, hT4⟩ := hexq
  refine LN.join 8 (fun m E A' => ∃ j : Nat, m = j ∧ j ≤ j1 ∧ T3 ≤ j + 1 ∧ Sort.scanDown (fun x => !lt x d3[a]!) d3 T3 j = T4 ∧ SSK Q A0 A' (some bb) (.slice (some ⟨bb, 0, none⟩) n c) d3 ∧ E.get 0 = .slice (some ⟨bb, 0, none⟩) n c ∧ E.get 1 = .int .i64 a ∧ E.get 4 = .func (.func f) #[] #[] ∧ E.get 12 = .int .i64 T3 ∧ E.get 13 = .int .i64 j) j1
    (fun E A' => A'.wf ∧ SSK Q A0 A' (some bb) (.slice (some ⟨bb, 0, none⟩) n c) d3 ∧ E.get 0 = .slice (some ⟨bb, 0, none⟩) n c ∧ E.get 1 = .int .i64 a ∧ E.get 4 = .func (.func f) #[] #[] ∧ E.get 12 = .int .i64 T3 ∧ E.get 13 = .int .i64 T4)
    ⟨j1, rfl, Nat.le_refl _, by omega, hT4.symm, sB, by simp [e0], by simp [e1], by simp [e4], by simp [ei], by simp [ej]⟩ ?_ ?_
  · clear e0 e1 e4 ei ej
    rintro m E B hB hnB ⟨j, rfl, hj1, hj2, qj, sB, e0, e1, e4, ei, ej⟩
    rw [scanDown_posK (by omega)] at qj
    by_cases hij : T3 ≤ m
    rotate_left
    · have hij' : ¬ (T3 : Int) ≤ m := by omega
      rw [if_neg (fun h => hij h.1)] at qj
      simp [e0, e1, e4, ei, ej, hij, hij']
      exact NX.of ⟨hB, sB, by simp [e0], by simp [e1], by simp [e4], by simp [ei], by simp [ej, qj]⟩
    have hij' : (T3 : Int) ≤ m := by omega
    have hj3 : m < d3.size := by omega
    have ha3 : a < d3.size := by omega
    have hj4 : m < n := by omega
    have ha4 : a < n := by omega
    have hgj : IntKind.i64.wrap ((m : Int) - 1) = ((m - 1 : Nat) : Int) := by rw [i64_in (by omega) (by omega)]; omega
    have hobt := sB.at2 ha3 hj3
    obtain ⟨cs, k1, ⟨k2, k3⟩, ⟨k4, k5⟩, -, -⟩ := hobt
    simp [-getElem!_pos, e0, e1, e4, ei, ej, hij, hij', ha4, hj4, k1, k2, k3, k4, k5]
    refine CN.use (hc B sB.ko sB.nx _ _ (sB.q _ hj3) (sB.q _ ha3)) ?_
    rintro _ C hC hnC ⟨r, rfl, hr, x3⟩
    have sC := sB.ext hB x3 hnC
    have hbool := Bool.eq_false_or_eq_true (lt d3[m]! d3[a]!)
    have hr2 : r < 0 ↔ lt d3[m]! d3[a]! = true := by rw [← hr]; simp
    rcases hbool with hl | hl
    · have hr' : r < 0 := hr2.2 hl
      rw [if_neg (fun h => by simp [hl] at h)] at qj
      simp [e0, e1, e4, ei, ej, hij, hij', hr']
      exact NX.of ⟨hC, sC, by simp [e0], by simp [e1], by simp [e4], by simp [ei], by simp [ej, qj]⟩
    · have hr' : ¬ r < 0 := fun h => by rw [hr2, hl] at h; cases h
      rw [if_pos ⟨hij, by simp [hl]⟩] at qj
      simp [e0, e1, e4, ei, ej, hij, hij', hr', hgj]
      exact NX.of ⟨m - 1, by omega, m - 1, rfl, by omega, by omega, qj, sC, by simp [e0], by simp [e1], by simp [e4], by simp [ei], by simp⟩
  rintro E C ⟨hC, sC, e0, e1, e4, ei, ej⟩
  have u2 := Sort.scanDown_spec (fun x => !lt x d3[a]!) d3 T3 j1
  rw [← hT4] at u2
  have u2a := u2.1
  have u2b := u2.2.1 u1b
  rw [Sort.partLoop_eq, ← hT3, ← hT4] at q3
  have t4 : T4 < n := by omega
  have t4' : T4 < d3.size := by omega
  have ha3 : a < d3.size := by omega
  by_cases hend : T4 < T3
  · have hend' : (T4 : Int) < T3 := by omega
    rw [if_pos hend] at q3
    subst q3
    simp only [] at hR
    have hobt := sC.at2 t4' ha3
    obtain ⟨cs', k1, ⟨k2, k3⟩, ⟨k4, k5⟩, k6, k7⟩ := hobt
    simp [-getElem!_pos, e0, e1, e4, ei, ej, hend, hend', ha2, t4, k1, k2, k3, k4, k5, k6]
    refine DN.of ⟨by rw [hR], ?_⟩
    rw [hR]
    exact k7 _ (by rw [AH.get_set, if_pos rfl]) (fun k hk hkb => by rw [AH.get_set, if_neg hkb]) (by simp)
  have hend' : ¬ (T4 : Int) < T3 := by omega
  rw [if_neg hend] at q3
  have hne : T3 ≠ T4 := fun e => by
    have x1 := u1.2.2.2 (by omega)
    have x2 := u2.2.2.2 (by omega) (by omega)
    rw [← e] at x2
    simp only [x1] at x2
    cases x2
  have t1 : T3 < d3.size := by omega
  have t3 : T3 < n := by omega
  have hgi : IntKind.i64.wrap ((T3 : Int) + 1) = ((T3 + 1 : Nat) : Int) := by rw [i64_in (by omega) (by omega)]; simp
  have hgj : IntKind.i64.wrap ((T4 : Int) - 1) = ((T4 - 1 : Nat) : Int) := by rw [i64_in (by omega) (by omega)]; omega
  have hobt := sC.at2 t1 t4'
  obtain ⟨cs', k1, ⟨k2, k3⟩, ⟨k4, k5⟩, k6, k7⟩ := hobt
  simp [-getElem!_pos, e0, e1, e4, ei, ej, hend, hend', t3, t4, k1, k2, k3, k4, k5, k6, hgi, hgj]
  exact NX.of ⟨T4 - 1 + 1 - (T3 + 1), by omega, T3 + 1, T4 - 1, _, rfl, by omega, by omega, by omega, by rw [Sort.size_swp]; exact z3, q3, k7 _ (by rw [AH.get_set, if_pos rfl]) (fun k hk hkb => by rw [AH.get_set, if_neg hkb]) (by simp), by simp [e0], by simp [e1], by simp [e4], by simp, by simp⟩
end
end Go.Proofs.Ytieehccjajhpfaa.AC
/- Sorting keys: a few insertions. -/
namespace Go.Proofs.Ytieehccjajhpfaa.AC
open Go Go.AI Go.Proofs Go.Proofs.Ytieehccjajhpfaa.AQ
set_option linter.unusedVariables false
section
variable {Q : Key → Prop} {A0 A A' : AH} {bb n c : Nat} {d : Array Key} {lt : Key → Key → Bool} {f : FuncId}
set_option maxHeartbeats 2000000 in
theorem pinsK_ok (h : SSK Q A0 A (some bb) (.slice (some ⟨bb, 0, none⟩) n c) d) (hz : d.size = n) (hc : CmpK A0 (some bb) Q lt f) {a b : Nat} (hab : a < b) (hb : b ≤ n) :
    ACall Try.prog 91 [.slice (some ⟨bb, 0, none⟩) n c, .int .i64 a, .int .i64 b, .func (.func f) #[] #[]] A fun v A' => v = .bool (Sort.partialInsertionSort lt d a b).2 ∧ SSK Q A0 A' (some bb) (.slice (some ⟨bb, 0, none⟩) n c) (Sort.partialInsertionSort lt d a b).1 := by
  have hz5 := h.sz
  have hexq : ∃ x : Nat, x = a + 1 := ⟨_, rfl⟩
  obtain ⟨i0, hi0⟩ := hexq
  have hw1 : IntKind.i64.wrap ((a : Int) + 1) = (i0 : Int) := by rw [i64_in (by omega) (by omega)]; omega
  have hexq : ∃ x, x = Sort.partialInsertionSort lt d a b := ⟨_, rfl⟩
  obtain ⟨P, hP⟩ := hexq
  rw [← hP]
  unfold Sort.partialInsertionSort at hP
  rw [← hi0] at hP
  refine code91.call (by simp) fun hwf => ?_
  unfold c91
  simp [hw1]
  refine LN.use (fun m E A' => ∃ (t i : Nat) (d' : Array Key), m = 5 - t ∧ t ≤ 5 ∧ a < i ∧ i ≤ b ∧ d'.size = n ∧ Sort.partialIns lt a b (5 - t) i d' = P ∧ SSK Q A0 A' (some bb) (.slice (some ⟨bb, 0, none⟩) n c) d' ∧ E.get 0 = .slice (some ⟨bb, 0, none⟩) n c ∧ E.get 1 = .int .i64 a ∧ E.get 2 = .int .i64 b ∧ E.get 3 = .func (.func f) #[] #[] ∧ E.get 9 = .int .i64 i ∧ E.get 10 = .int .i64 t) 5
    ⟨0, i0, d, rfl, by omega, by omega, by omega, hz, hP.symm, h, by simp, by simp, by simp, by simp, by simp [hw1], by simp⟩ ?_
  rintro m E A2 hw2 hn2 ⟨t, i1, d2, rfl, ht, hai, hib, z2, q2, s2, e0, e1, e2, e3, e9, e10⟩
  by_cases ht5 : t < 5
  rotate_left
  · have ht5' : ¬ (t : Int) < 5 := by omega
    rw [show 5 - t = 0 from by omega, Sort.partialIns] at q2
    simp [e10, ht5']
    refine DN.of ⟨by rw [← q2], ?_⟩
    rw [← q2]; exact s2
  have ht5' : (t : Int) < 5 := by omega
  obtain ⟨s, hs⟩ : ∃ s, 5 - t = s + 1 := ⟨4 - t, by omega⟩
  rw [hs, Sort.partialIns] at q2
  have hgt : IntKind.i64.wrap ((t : Int) + 1) = ((t + 1 : Nat) : Int) := by rw [i64_in (by omega) (by omega)]; simp
  have hexq : ∃ x, x = Sort.scanSorted lt d2 b i1 := ⟨_, rfl⟩
  obtain ⟨T, hT⟩ := hexq
  rw [← hT] at q2
  simp [e10, ht5']
  refine LN.join 2 (fun m E A' => ∃ i : Nat, m = b - i ∧ i1 ≤ i ∧ i ≤ b ∧ Sort.scanSorted lt d2 b i = T ∧ SSK Q A0 A' (some bb) (.slice (some ⟨bb, 0, none⟩) n c) d2 ∧ E.get 0 = .slice (some ⟨bb, 0, none⟩) n c ∧ E.get 1 = .int .i64 a ∧ E.get 2 = .int .i64 b ∧ E.get 3 = .func (.func f) #[] #[] ∧ E.get 9 = .int .i64 i ∧ E.get 10 = .int .i64 t) (b - i1)
    (fun E A' => A'.wf ∧ i1 ≤ T ∧ T ≤ b ∧ SSK Q A0 A' (some bb) (.slice (some ⟨bb, 0, none⟩) n c) d2 ∧ E.get 0 = .slice (some ⟨bb, 0, none⟩) n c ∧ E.get 1 = .int .i64 a ∧ E.get 2 = .int .i64 b ∧ E.get 3 = .func (.func f) #[] #[] ∧ E.get 9 = .int .i64 T ∧ E.get 10 = .int .i64 t)
    ⟨i1, rfl, Nat.le_refl _, hib, hT.symm, s2, by simp [e0], by simp [e1], by simp [e2], by simp [e3], by simp [e9], by simp [e10]⟩ ?_ ?_
  · clear e0 e1 e2 e3 e9 e10
    rintro m E B hB hnB ⟨i, rfl, hi1, hi2, qi, sB, e0, e1, e2, e3, e9, e10⟩
    by_cases hij : i < b
    rotate_left
    · have hij' : ¬ (i : Int) < b := by omega
      rw [Sort.scanSorted, if_neg (by simp [hij])] at qi
      subst qi
      simp [e0, e1, e2, e3, e9, hij, hij']
      exact NX.of ⟨hB, hi1, hi2, sB, by simp [e0], by simp [e1], by simp [e2], by simp [e3], by simp [e9], by simp [e10]⟩
    have hij' : (i : Int) < b := by omega
    have hexq : ∃ x : Nat, x = i - 1 := ⟨_, rfl⟩
    obtain ⟨p, hp⟩ := hexq
    have hwp : IntKind.i64.wrap ((i : Int) - 1) = (p : Int) := by rw [i64_in (by omega) (by omega)]; omega
    have hi3 : i < d2.size := by omega
    have hp3 : p < d2.size := by omega
    have hi4 : i < n := by omega
    have hp4 : p < n := by omega
    have hgi : IntKind.i64.wrap ((i : Int) + 1) = ((i + 1 : Nat) : Int) := by rw [i64_in (by omega) (by omega)]; simp
    have hobt := sB.at2 hi3 hp3
    obtain ⟨cs, k1, ⟨k2, k3⟩, ⟨k4, k5⟩, -, -⟩ := hobt
    simp [-getElem!_pos, e0, e1, e2, e3, e9, hij, hij', hwp, hi4, hp4, k1, k2, k3, k4, k5]
    refine CN.use (hc B sB.ko sB.nx _ _ (sB.q _ hi3) (sB.q _ hp3)) ?_
    rintro _ C hC hnC ⟨r, rfl, hr, x3⟩
    have sC := sB.ext hB x3 hnC
    have hbool := Bool.eq_false_or_eq_true (lt d2[i]! d2[p]!)
    have hr2 : r < 0 ↔ lt d2[i]! d2[p]! = true := by rw [← hr]; simp
    rw [hp] at hbool hr2
    rcases hbool with hl | hl
    · have hr' : r < 0 := hr2.2 hl
      rw [Sort.scanSorted, if_neg (by simp [hl])] at qi
      subst qi
      simp [e0, e1, e2, e3, e9, hr']
      exact NX.of ⟨hC, hi1, hi2, sC, by simp [e0], by simp [e1], by simp [e2], by simp [e3], by simp [e9], by simp [e10]⟩
    · have hr' : ¬ r < 0 := fun h => by rw [hr2, hl] at h; cases h
      rw [Sort.scanSorted, if_pos (by simp [hij, hl])] at qi
      simp [e0, e1, e2, e3, e9, hr', hgi]
      exact NX.of ⟨b - (i + 1), by omega, i + 1, rfl, by omega, by omega, qi, sC, by simp [e0], by simp [e1], by simp [e2], by simp [e3], by simp, by simp [e10]⟩
  clear e0 e1 e2 e3 e9 e10
  rintro E B ⟨hB, hT1, hT2, sB, e0, e1, e2, e3, e9, e10⟩
  by_cases hTb : T = b
  · have hTb' : (T : Int) = b := by omega
    rw [if_pos hTb] at q2
    simp [e2, e9, hTb']
    refine DN.of ⟨by rw [← q2], ?_⟩
    rw [← q2]; exact sB
  have hTb' : ¬ (T : Int) = b := by omega
  rw [if_neg hTb] at q2
  have hexq : ∃ x : Nat, x = b - a := ⟨_, rfl⟩
  obtain ⟨ba, hba⟩ := hexq
  have hwba : IntKind.i64.wrap ((b : Int) - a) = (ba : Int) := by rw [i64_in (by omega) (by omega)]; omega
  by_cases h50 : ba < 50
  · have h50' : (ba : Int) < 50 := by omega
    rw [if_pos (by omega)] at q2
    simp [e1, e2, e9, hTb', hwba, h50']
    refine DN.of ⟨by rw [← q2], ?_⟩
    rw [← q2]; exact sB
  have h50' : ¬ (ba : Int) < 50 := by omega
  rw [if_neg (by omega)] at q2
  have hexq : ∃ x : Nat, x = T - 1 := ⟨_, rfl⟩
  obtain ⟨p, hp⟩ := hexq
  have hexq : ∃ x : Nat, x = T - a := ⟨_, rfl⟩
  obtain ⟨it, hit⟩ := hexq
  have hexq : ∃ x : Nat, x = b - T := ⟨_, rfl⟩
  obtain ⟨bt, hbt⟩ := hexq
  have hwp : IntKind.i64.wrap ((T : Int) - 1) = (p : Int) := by rw [i64_in (by omega) (by omega)]; omega
  have hwit : IntKind.i64.wrap ((T : Int) - a) = (it : Int) := by rw [i64_in (by omega) (by omega)]; omega
  have hwbt : IntKind.i64.wrap ((b : Int) - T) = (bt : Int) := by rw [i64_in (by omega) (by omega)]; omega
  have hwT : IntKind.i64.wrap ((T : Int) + 1) = ((T + 1 : Nat) : Int) := by rw [i64_in (by omega) (by omega)]; simp
  rw [← hp, ← hit, ← hbt] at q2
  have t1 : T < d2.size := by omega
  have p1 : p < d2.size := by omega
  have t2 : T < n := by omega
  have p2 : p < n := by omega
  have hobt := sB.at2 t1 p1
  obtain ⟨cs, k1, ⟨k2, k3⟩, ⟨k4, k5⟩, k6, k7⟩ := hobt
  have hexq : ∃ x, x = Sort.swp d2 T p := ⟨_, rfl⟩
  obtain ⟨D1, hD1⟩ := hexq
  have z3 : D1.size = n := by rw [hD1, Sort.size_swp]; exact z2
  rw [← hD1] at q2
  simp only [ge_iff_le] at q2
  have s3 := k7 (B.set bb (.row (spl (spl cs (T * 4) (d2[p]!).enc) (p * 4) (d2[T]!).enc) 23 false)) (by rw [AH.get_set, if_pos rfl]) (fun k hk hkb => by rw [AH.get_set, if_neg hkb]) (by simp)
  rw [← hD1] at s3
  clear k7
  by_cases hi2 : 2 ≤ it
  · have hi2' : (2 : Int) ≤ it := by omega
    rw [if_pos hi2] at q2
    have hexq : ∃ x, x = Sort.shiftDown lt p D1 := ⟨_, rfl⟩
    obtain ⟨D2, hD2⟩ := hexq
    rw [← hD2] at q2
    by_cases hb2 : 2 ≤ bt
    · have hb2' : (2 : Int) ≤ bt := by omega
      rw [if_pos hb2] at q2
      have hexq : ∃ x, x = Sort.shiftUp lt b (T + 1) D2 := ⟨_, rfl⟩
      obtain ⟨D3, hD3⟩ := hexq
      rw [← hD3] at q2
      simp [-getElem!_pos, e0, e1, e2, e3, e9, e10, hTb', hwba, h50', hwp, hwit, hi2', t2, p2, k1, k2, k3, k4, k5, k6]
      refine LN.join 4 (fun m E A' => ∃ (j : Nat) (d' : Array Key), m = j ∧ j ≤ p ∧ d'.size = n ∧ Sort.shiftDown lt j d' = D2 ∧ SSK Q A0 A' (some bb) (.slice (some ⟨bb, 0, none⟩) n c) d' ∧ E.get 0 = .slice (some ⟨bb, 0, none⟩) n c ∧ E.get 1 = .int .i64 a ∧ E.get 2 = .int .i64 b ∧ E.get 3 = .func (.func f) #[] #[] ∧ E.get 9 = .int .i64 T ∧ E.get 10 = .int .i64 t ∧ E.get 11 = .int .i64 j) p
        (fun E A' => A'.wf ∧ D2.size = n ∧ SSK Q A0 A' (some bb) (.slice (some ⟨bb, 0, none⟩) n c) D2 ∧ E.get 0 = .slice (some ⟨bb, 0, none⟩) n c ∧ E.get 1 = .int .i64 a ∧ E.get 2 = .int .i64 b ∧ E.get 3 = .func (.func f) #[] #[] ∧ E.get 9 = .int .i64 T ∧ E.get 10 = .int .i64 t)
        ⟨p, D1, rfl, Nat.le_refl _, z3, hD2.symm, s3, by simp [e0], by simp [e1], by simp [e2], by simp [e3], by simp [e9], by simp [e10], by simp⟩ ?_ ?_
      · clear e0 e1 e2 e3 e9 e10
        rintro m E B hB hnB ⟨j, d4, rfl, hj1, z4, qj, sB, e0, e1, e2, e3, e9, e10, e11⟩
        by_cases hj0 : 1 ≤ m
        rotate_left
        · have hj0' : ¬ (1 : Int) ≤ m := by omega
          obtain rfl : m = 0 := by omega
          rw [Sort.shiftDown] at qj
          subst qj
          simp [e0, e1, e2, e3, e9, e10, e11]
          exact NX.of ⟨hB, z4, sB, by simp [e0], by simp [e1], by simp [e2], by simp [e3], by simp [e9], by simp [e10]⟩
        have hj0' : (1 : Int) ≤ m := by omega
        have hexq : ∃ x : Nat, x = m - 1 := ⟨_, rfl⟩
        obtain ⟨w, hw⟩ := hexq
        have hww : IntKind.i64.wrap ((m : Int) - 1) = (w : Int) := by rw [i64_in (by omega) (by omega)]; omega
        have hm3 : m < d4.size := by omega
        have hw3 : w < d4.size := by omega
        have hm4 : m < n := by omega
        have hw4 : w < n := by omega
        rw [show m = w + 1 from by omega, Sort.shiftDown, show w + 1 = m from by omega] at qj
        have hobt := sB.at2 hm3 hw3
        obtain ⟨cs, k1, ⟨k2, k3⟩, ⟨k4, k5⟩, k6, k7⟩ := hobt
        simp [-getElem!_pos, e0, e1, e2, e3, e9, e10, e11, hj0, hj0', hww, hm4, hw4, k1, k2, k3, k4, k5]
        refine CN.use (hc B sB.ko sB.nx _ _ (sB.q _ hm3) (sB.q _ hw3)) ?_
        rintro _ C hC hnC ⟨r, rfl, hr, x3⟩
        have sC := sB.ext hB x3 hnC
        have k1' := x3.get hB k1
        have hbool := Bool.eq_false_or_eq_true (lt d4[m]! d4[w]!)
        have hr2 : r < 0 ↔ lt d4[m]! d4[w]! = true := by rw [← hr]; simp
        rcases hbool with hl | hl
        · have hr' : r < 0 := hr2.2 hl
          rw [if_neg (by simp [hl])] at qj
          simp [-getElem!_pos, e0, e1, e2, e3, e9, e10, e11, hr', hww, hm4, hw4, k1', k2, k3, k4, k5, k6]
          exact NX.of ⟨w, by omega, w, _, rfl, by omega, by rw [Sort.size_swp]; exact z4, qj, k7 _ (by rw [AH.get_set, if_pos rfl]) (fun k hk hkb => by rw [AH.get_set, if_neg hkb, x3 k hk]) (by simpa using hnC), by simp [e0], by simp [e1], by simp [e2], by simp [e3], by simp [e9], by simp [e10], by simp⟩
        · have hr' : ¬ r < 0 := fun h => by rw [hr2, hl] at h; cases h
          rw [if_pos (by simp [hl])] at qj
          subst qj
          simp [e0, e1, e2, e3, e9, e10, e11, hr']
          exact NX.of ⟨hC, z4, sC, by simp [e0], by simp [e1], by simp [e2], by simp [e3], by simp [e9], by simp [e10]⟩
      clear e0 e1 e2 e3 e9 e10
      rintro E B4 ⟨hB4, z4, s4, e0, e1, e2, e3, e9, e10⟩
      simp [e2, e9, hwbt, hb2']
      refine LN.join 6 (fun m E A' => ∃ (j : Nat) (d' : Array Key), m = b - j ∧ T < j ∧ j ≤ b ∧ d'.size = n ∧ Sort.shiftUp lt b j d' = D3 ∧ SSK Q A0 A' (some bb) (.slice (some ⟨bb, 0, none⟩) n c) d' ∧ E.get 0 = .slice (some ⟨bb, 0, none⟩) n c ∧ E.get 1 = .int .i64 a ∧ E.get 2 = .int .i64 b ∧ E.get 3 = .func (.func f) #[] #[] ∧ E.get 9 = .int .i64 T ∧ E.get 10 = .int .i64 t ∧ E.get 12 = .int .i64 j) (b - (T + 1))
        (fun E A' => A'.wf ∧ D3.size = n ∧ SSK Q A0 A' (some bb) (.slice (some ⟨bb, 0, none⟩) n c) D3 ∧ E.get 0 = .slice (some ⟨bb, 0, none⟩) n c ∧ E.get 1 = .int .i64 a ∧ E.get 2 = .int .i64 b ∧ E.get 3 = .func (.func f) #[] #[] ∧ E.get 9 = .int .i64 T ∧ E.get 10 = .int .i64 t)
        ⟨T + 1, D2, rfl, by omega, by omega, z4, hD3.symm, s4, by simp [e0], by simp [e1], by simp [e2], by simp [e3], by simp [e9], by simp [e10], by simp [hwT]⟩ ?_ ?_
      · clear e0 e1 e2 e3 e9 e10
        rintro m E B hB hnB ⟨j, d4, rfl, hj1, hj2, z4, qj, sB, e0, e1, e2, e3, e9, e10, e12⟩
        rw [Sort.shiftUp] at qj
        by_cases hj0 : j < b
        rotate_left
        · have hj0' : ¬ (j : Int) < b := by omega
          rw [if_neg hj0] at qj
          subst qj
          simp [e0, e1, e2, e3, e9, e10, e12, hj0, hj0']
          exact NX.of ⟨hB, z4, sB, by simp [e0], by simp [e1], by simp [e2], by simp [e3], by simp [e9], by simp [e10]⟩
        have hj0' : (j : Int) < b := by omega
        rw [if_pos hj0] at qj
        have hexq : ∃ x : Nat, x = j - 1 := ⟨_, rfl⟩
        obtain ⟨w, hw⟩ := hexq
        have hww : IntKind.i64.wrap ((j : Int) - 1) = (w : Int) := by rw [i64_in (by omega) (by omega)]; omega
        have hgj : IntKind.i64.wrap ((j : Int) + 1) = ((j + 1 : Nat) : Int) := by rw [i64_in (by omega) (by omega)]; simp
        have hm3 : j < d4.size := by omega
        have hw3 : w < d4.size := by omega
        have hm4 : j < n := by omega
        have hw4 : w < n := by omega
        rw [← hw] at qj
        have hobt := sB.at2 hm3 hw3
        obtain ⟨cs, k1, ⟨k2, k3⟩, ⟨k4, k5⟩, k6, k7⟩ := hobt
        simp [-getElem!_pos, e0, e1, e2, e3, e9, e10, e12, hj0, hj0', hww, hm4, hw4, k1, k2, k3, k4, k5]
        refine CN.use (hc B sB.ko sB.nx _ _ (sB.q _ hm3) (sB.q _ hw3)) ?_
        rintro _ C hC hnC ⟨r, rfl, hr, x3⟩
        have sC := sB.ext hB x3 hnC
        have k1' := x3.get hB k1
        have hbool := Bool.eq_false_or_eq_true (lt d4[j]! d4[w]!)
        have hr2 : r < 0 ↔ lt d4[j]! d4[w]! = true := by rw [← hr]; simp
        rcases hbool with hl | hl
        · have hr' : r < 0 := hr2.2 hl
          rw [if_neg (by simp [hl])] at qj
          simp [-getElem!_pos, e0, e1, e2, e3, e9, e10, e12, hr', hww, hgj, hm4, hw4, k1', k2, k3, k4, k5, k6]
          exact NX.of ⟨b - (j + 1), by omega, j + 1, _, rfl, by omega, by omega, by rw [Sort.size_swp]; exact z4, qj, k7 _ (by rw [AH.get_set, if_pos rfl]) (fun k hk hkb => by rw [AH.get_set, if_neg hkb, x3 k hk]) (by simpa using hnC), by simp [e0], by simp [e1], by simp [e2], by simp [e3], by simp [e9], by simp [e10], by simp⟩
        · have hr' : ¬ r < 0 := fun h => by rw [hr2, hl] at h; cases h
          rw [if_pos (by simp [hl])] at qj
          subst qj
          simp [e0, e1, e2, e3, e9, e10, e12, hr']
          exact NX.of ⟨hC, z4, sC, by simp [e0], by simp [e1], by simp [e2], by simp [e3], by simp [e9], by simp [e10]⟩
      clear e0 e1 e2 e3 e9 e10
      rintro E B6 ⟨hB6, z6, s6, e0, e1, e2, e3, e9, e10⟩
      simp [e10, hgt]
      exact NX.of ⟨5 - (t + 1), by omega, t + 1, T, D3, rfl, by omega, by omega, by omega, z6, by rw [show 5 - (t + 1) = s from by omega]; exact q2, s6, by simp [e0], by simp [e1], by simp [e2], by simp [e3], by simp [e9], by simp⟩
    · have hb2' : ¬ (2 : Int) ≤ bt := by omega
      rw [if_neg hb2] at q2
      have hexq : ∃ x, x = D2 := ⟨_, rfl⟩
      obtain ⟨D3, hD3⟩ := hexq
      rw [← hD3] at q2
      simp [-getElem!_pos, e0, e1, e2, e3, e9, e10, hTb', hwba, h50', hwp, hwit, hi2', t2, p2, k1, k2, k3, k4, k5, k6]
      refine LN.join 4 (fun m E A' => ∃ (j : Nat) (d' : Array Key), m = j ∧ j ≤ p ∧ d'.size = n ∧ Sort.shiftDown lt j d' = D2 ∧ SSK Q A0 A' (some bb) (.slice (some ⟨bb, 0, none⟩) n c) d' ∧ E.get 0 = .slice (some ⟨bb, 0, none⟩) n c ∧ E.get 1 = .int .i64 a ∧ E.get 2 = .int .i64 b ∧ E.get 3 = .func (.func f) #[] #[] ∧ E.get 9 = .int .i64 T ∧ E.get 10 = .int .i64 t ∧ E.get 11 = .int .i64 j) p
        (fun E A' => A'.wf ∧ D2.size = n ∧ SSK Q A0 A' (some bb) (.slice (some ⟨bb, 0, none⟩) n c) D2 ∧ E.get 0 = .slice (some ⟨bb, 0, none⟩) n c ∧ E.get 1 = .int .i64 a ∧ E.get 2 = .int .i64 b ∧ E.get 3 = .func (.func f) #[] #[] ∧ E.get 9 = .int .i64 T ∧ E.get 10 = .int .i64 t)
        ⟨p, D1, rfl, Nat.le_refl _, z3, hD2.symm, s3, by simp [e0], by simp [e1], by simp [e2], by simp [e3], by simp [e9], by simp [e10], by simp⟩ ?_ ?_
      · clear e0 e1 e2 e3 e9 e10
        rintro m E B hB hnB ⟨j, d4, rfl, hj1, z4, qj, sB, e0, e1, e2, e3, e9, e10, e11⟩
        by_cases hj0 : 1 ≤ m
        rotate_left
        · have hj0' : ¬ (1 : Int) ≤ m := by omega
          obtain rfl : m = 0 := by omega
          rw [Sort.shiftDown] at qj
          subst qj
          simp [e0, e1, e2, e3, e9, e10, e11]
          exact NX.of ⟨hB, z4, sB, by simp [e0], by simp [e1], by simp [e2], by simp [e3], by simp [e9], by simp [e10]⟩
        have hj0' : (1 : Int) ≤ m := by omega
        have hexq : ∃ x : Nat, x = m - 1 := ⟨_, rfl⟩
        obtain ⟨w, hw⟩ := hexq
        have hww : IntKind.i64.wrap ((m : Int) - 1) = (w : Int) := by rw [i64_in (by omega) (by omega)]; omega
        have hm3 : m < d4.size := by omega
        have hw3 : w < d4.size := by omega
        have hm4 : m < n := by omega
        have hw4 : w < n := by omega
        rw [show m = w + 1 from by omega, Sort.shiftDown, show w + 1 = m from by omega] at qj
        have hobt := sB.at2 hm3 hw3
        obtain ⟨cs, k1, ⟨k2, k3⟩, ⟨k4, k5⟩, k6, k7⟩ := hobt
        simp [-getElem!_pos, e0, e1, e2, e3, e9, e10, e11, hj0, hj0', hww, hm4, hw4, k1, k2, k3, k4, k5]
        refine CN.use (hc B sB.ko sB.nx _ _ (sB.q _ hm3) (sB.q _ hw3)) ?_
        rintro _ C hC hnC ⟨r, rfl, hr, x3⟩
        have sC := sB.ext hB x3 hnC
        have k1' := x3.get hB k1
        have hbool := Bool.eq_false_or_eq_true (lt d4[m]! d4[w]!)
        have hr2 : r < 0 ↔ lt d4[m]! d4[w]! = true := by rw [← hr]; simp
        rcases hbool with hl | hl
        · have hr' : r < 0 := hr2.2 hl
          rw [if_neg (by simp [hl])] at qj
          simp [-getElem!_pos, e0, e1, e2, e3, e9, e10, e11, hr', hww, hm4, hw4, k1', k2, k3, k4, k5, k6]
          exact NX.of ⟨w, by omega, w, _, rfl, by omega, by rw [Sort.size_swp]; exact z4, qj, k7 _ (by rw [AH.get_set, if_pos rfl]) (fun k hk hkb => by rw [AH.get_set, if_neg hkb, x3 k hk]) (by simpa using hnC), by simp [e0], by simp [e1], by simp [e2], by simp [e3], by simp [e9], by simp [e10], by simp⟩
        · have hr' : ¬ r < 0 := fun h => by rw [hr2, hl] at h; cases h
          rw [if_pos (by simp [hl])] at qj
          subst qj
          simp [e0, e1, e2, e3, e9, e10, e11, hr']
          exact NX.of ⟨hC, z4, sC, by simp [e0], by simp [e1], by simp [e2], by simp [e3], by simp [e9], by simp [e10]⟩
      clear e0 e1 e2 e3 e9 e10
      rintro E B4 ⟨hB4, z4, s4, e0, e1, e2, e3, e9, e10⟩
      simp [e2, e9, e10, hwbt, hb2', hgt]
      rw [← hD3] at s4 z4
      exact NX.of ⟨5 - (t + 1), by omega, t + 1, T, D3, rfl, by omega, by omega, by omega, z4, by rw [show 5 - (t + 1) = s from by omega]; exact q2, s4, by simp [e0], by simp [e1], by simp [e2], by simp [e3], by simp [e9], by simp⟩
  · have hi2' : ¬ (2 : Int) ≤ it := by omega
    rw [if_neg hi2] at q2
    have hexq : ∃ x, x = D1 := ⟨_, rfl⟩
    obtain ⟨D2, hD2⟩ := hexq
    rw [← hD2] at q2 s3 z3
    by_cases hb2 : 2 ≤ bt
    · have hb2' : (2 : Int) ≤ bt := by omega
      rw [if_pos hb2] at q2
      have hexq : ∃ x, x = Sort.shiftUp lt b (T + 1) D2 := ⟨_, rfl⟩
      obtain ⟨D3, hD3⟩ := hexq
      rw [← hD3] at q2
      simp [-getElem!_pos, e0, e1, e2, e3, e9, e10, hTb', hwba, h50', hwp, hwit, hi2', hwbt, hb2', t2, p2, k1, k2, k3, k4, k5, k6]
      refine LN.join 6 (fun m E A' => ∃ (j : Nat) (d' : Array Key), m = b - j ∧ T < j ∧ j ≤ b ∧ d'.size = n ∧ Sort.shiftUp lt b j d' = D3 ∧ SSK Q A0 A' (some bb) (.slice (some ⟨bb, 0, none⟩) n c) d' ∧ E.get 0 = .slice (some ⟨bb, 0, none⟩) n c ∧ E.get 1 = .int .i64 a ∧ E.get 2 = .int .i64 b ∧ E.get 3 = .func (.func f) #[] #[] ∧ E.get 9 = .int .i64 T ∧ E.get 10 = .int .i64 t ∧ E.get 12 = .int .i64 j) (b - (T + 1))
        (fun E A' => A'.wf ∧ D3.size = n ∧ SSK Q A0 A' (some bb) (.slice (some ⟨bb, 0, none⟩) n c) D3 ∧ E.get 0 = .slice (some ⟨bb, 0, none⟩) n c ∧ E.get 1 = .int .i64 a ∧ E.get 2 = .int .i64 b ∧ E.get 3 = .func (.func f) #[] #[] ∧ E.get 9 = .int .i64 T ∧ E.get 10 = .int .i64 t)
        ⟨T + 1, D2, rfl, by omega, by omega, z3, hD3.symm, s3, by simp [e0], by simp [e1], by simp [e2], by simp [e3], by simp [e9], by simp [e10], by simp [hwT]⟩ ?_ ?_
      · clear e0 e1 e2 e3 e9 e10
        rintro m E B hB hnB ⟨j, d4, rfl, hj1, hj2, z4, qj, sB, e0, e1, e2, e3, e9, e10, e12⟩
        rw [Sort.shiftUp] at qj
        by_cases hj0 : j < b
        rotate_left
        · have hj0' : ¬ (j : Int) < b := by omega
          rw [if_neg hj0] at qj
          subst qj
          simp [e0, e1, e2, e3, e9, e10, e12, hj0, hj0']
          exact NX.of ⟨hB, z4, sB, by simp [e0], by simp [e1], by simp [e2], by simp [e3], by simp [e9], by simp [e10]⟩
        have hj0' : (j : Int) < b := by omega
        rw [if_pos hj0] at qj
        have hexq : ∃ x : Nat, x = j - 1 := ⟨_, rfl⟩
        obtain ⟨w, hw⟩ := hexq
        have hww : IntKind.i64.wrap ((j : Int) - 1) = (w : Int) := by rw [i64_in (by omega) (by omega)]; omega
        have hgj : IntKind.i64.wrap ((j : Int) + 1) = ((j + 1 : Nat) : Int) := by rw [i64_in (by omega) (by omega)]; simp
        have hm3 : j < d4.size := by omega
        have hw3 : w < d4.size := by omega
        have hm4 : j < n := by omega
        have hw4 : w < n := by omega
        rw [← hw] at qj
        have hobt := sB.at2 hm3 hw3
        obtain ⟨cs, k1, ⟨k2, k3⟩, ⟨k4, k5⟩, k6, k7⟩ := hobt
        simp [-getElem!_pos, e0, e1, e2, e3, e9, e10, e12, hj0, hj0', hww, hm4, hw4, k1, k2, k3, k4, k5]
        refine CN.use (hc B sB.ko sB.nx _ _ (sB.q _ hm3) (sB.q _ hw3)) ?_
        rintro _ C hC hnC ⟨r, rfl, hr, x3⟩
        have sC := sB.ext hB x3 hnC
        have k1' := x3.get hB k1
        have hbool := Bool.eq_false_or_eq_true (lt d4[j]! d4[w]!)
        have hr2 : r < 0 ↔ lt d4[j]! d4[w]! = true := by rw [← hr]; simp
        rcases hbool with hl | hl
        · have hr' : r < 0 := hr2.2 hl
          rw [if_neg (by simp [hl])] at qj
          simp [-getElem!_pos, e0, e1, e2, e3, e9, e10, e12, hr', hww, hgj, hm4, hw4, k1', k2, k3, k4, k5, k6]
          exact NX.of ⟨b - (j + 1), by omega, j + 1, _, rfl, by omega, by omega, by rw [Sort.size_swp]; exact z4, qj, k7 _ (by rw [AH.get_set, if_pos rfl]) (fun k hk hkb => by rw [AH.get_set, if_neg hkb, x3 k hk]) (by simpa using hnC), by simp [e0], by simp [e1], by simp [e2], by simp [e3], by simp [e9], by simp [e10], by simp⟩
        · have hr' : ¬ r < 0 := fun h => by rw [hr2, hl] at h; cases h
          rw [if_pos (by simp [hl])] at qj
          subst qj
          simp [e0, e1, e2, e3, e9, e10, e12, hr']
          exact NX.of ⟨hC, z4, sC, by simp [e0], by simp [e1], by simp [e2], by simp [e3], by simp [e9], by simp [e10]⟩
      clear e0 e1 e2 e3 e9 e10
      rintro E B6 ⟨hB6, z6, s6, e0, e1, e2, e3, e9, e10⟩
      simp [e10, hgt]
      exact NX.of ⟨5 - (t + 1), by omega, t + 1, T, D3, rfl, by omega, by omega, by omega, z6, by rw [show 5 - (t + 1) = s from by omega]; exact q2, s6, by simp [e0], by simp [e1], by simp [e2], by simp [e3], by simp [e9], by simp⟩
    · have hb2' : ¬ (2 : Int) ≤ bt := by omega
      rw [if_neg hb2] at q2
      have hexq : ∃ x, x = D2 := ⟨_, rfl⟩
      obtain ⟨D3, hD3⟩ := hexq
      rw [← hD3] at q2 s3 z3
      simp [-getElem!_pos, e0, e1, e2, e3, e9, e10, hTb', hwba, h50', hwp, hwit, hi2', hwbt, hb2', hgt, t2, p2, k1, k2, k3, k4, k5, k6]
      exact NX.of ⟨5 - (t + 1), by omega, t + 1, T, D3, rfl, by omega, by omega, by omega, z3, by rw [show 5 - (t + 1) = s from by omega]; exact q2, s3, by simp [e0], by simp [e1], by simp [e2], by simp [e3], by simp [e9], by simp⟩
end
end Go.Proofs.Ytieehccjajhpfaa.AC
/- Sorting keys: the whole. -/
namespace Go.Proofs.Ytieehccjajhpfaa.AC
open Go Go.AI Go.Proofs Go.Proofs.Ytieehccjajhpfaa.AQ
set_option linter.unusedVariables false
section
variable {Q : Key → Prop} {A0 A A' : AH} {bb n c : Nat} {d : Array Key} {lt : Key → Key → Bool} {f : FuncId}
set_option maxHeartbeats 4000000 in
theorem pdqK_ok (hO : Sort.SWO lt) (hn : n < 256) (hc : CmpK A0 (some bb) Q lt f) : ∀ (k : Nat) (A : AH) (d : Array Key) (a b : Nat) (lim : Int), b - a = k → a ≤ b → b ≤ n → Sort.Below lt a b d → SSK Q A0 A (some bb) (.slice (some ⟨bb, 0, none⟩) n c) d → d.size = n →
    ACall Try.prog 67 [.slice (some ⟨bb, 0, none⟩) n c, .int .i64 a, .int .i64 b, .int .i64 lim, .func (.func f) #[] #[]] A fun _ A' => ∃ d', Sort.PermIn a b d d' ∧ Sort.SortedIn lt a b d' ∧ SSK Q A0 A' (some bb) (.slice (some ⟨bb, 0, none⟩) n c) d' := by
  intro k
  induction k using Nat.strongRecOn with
  | ind k ih =>
  intro A d a b lim hk hab hbn hBel h hz
  refine code67.call (by simp) fun hwf => ?_
  unfold c67
  simp
  refine LN.use (fun m E A' => ∃ (a1 b1 : Nat) (lim : Int) (wb wp : Bool) (d' : Array Key), m = b1 - a1 ∧ a ≤ a1 ∧ a1 ≤ b1 ∧ b1 ≤ b ∧ d'.size = n ∧ Sort.Below lt a1 b1 d' ∧ (∀ R, Sort.PermIn a1 b1 d' R → Sort.SortedIn lt a1 b1 R → Sort.PermIn a b d R ∧ Sort.SortedIn lt a b R) ∧ SSK Q A0 A' (some bb) (.slice (some ⟨bb, 0, none⟩) n c) d' ∧ E.get 0 = .slice (some ⟨bb, 0, none⟩) n c ∧ E.get 1 = .int .i64 a1 ∧ E.get 2 = .int .i64 b1 ∧ E.get 3 = .int .i64 lim ∧ E.get 4 = .func (.func f) #[] #[] ∧ E.get 10 = .bool wb ∧ E.get 11 = .bool wp) (b - a)
    ⟨a, b, lim, true, true, d, rfl, Nat.le_refl _, hab, Nat.le_refl _, hz, hBel, fun R h1 h2 => ⟨h1, h2⟩, h, by simp, by simp, by simp, by simp, by simp, by simp, by simp⟩ ?_
  clear h hz hBel lim
  rintro m E A1 hw1 hn1 ⟨a1, b1, lim, wb, wp, d1, rfl, ha1, hab1, hb1, z1, bel1, R1, s1, e0, e1, e2, e3, e4, e10, e11⟩
  have hexq : ∃ x : Nat, x = b1 - a1 := ⟨_, rfl⟩
  obtain ⟨L, hL⟩ := hexq
  have vL : IntKind.i64.wrap ((b1 : Int) - a1) = (L : Int) := by rw [i64_in (by omega) (by omega)]; omega
  by_cases h12 : L ≤ 12
  · have h12' : (L : Int) ≤ 12 := by omega
    simp [e0, e1, e2, e3, e4, e10, e11, vL, h12, h12']
    have hins := inssK_ok s1 hc (a := a1) (b := b1) (by omega) (by omega)
    refine CN.use hins ?_
    rintro _ A2 hw2 hn2 s2
    simp
    have hobt := Sort.insertionSort_holds hO d1 a1 b1 hab1 (by omega)
    obtain ⟨p1, p2⟩ := hobt
    have hobt := R1 _ p1 p2
    obtain ⟨p3, p4⟩ := hobt
    exact DN.of ⟨_, p3, p4, s2⟩
  have h12' : ¬ (L : Int) ≤ 12 := by omega
  by_cases hl0 : lim = 0
  · subst hl0
    simp [e0, e1, e2, e3, e4, e10, e11, vL, h12, h12']
    refine CN.use (heapsK_ok s1 z1 hc (a := a1) (b := b1) (by omega) (by omega)) ?_
    rintro _ A2 hw2 hn2 s2
    simp
    have hobt := Sort.heapSort_holds hO d1 a1 b1 hab1 (by omega)
    obtain ⟨p1, p2⟩ := hobt
    have hobt := R1 _ p1 p2
    obtain ⟨p3, p4⟩ := hobt
    exact DN.of ⟨_, p3, p4, s2⟩
  have R0 := R1
  cases wb with
  | false =>
    simp [e0, e1, e2, e3, e4, e10, e11, vL, h12, h12', hl0]
    refine CN.use (brkK_ok s1 z1 hn (a := a1) (b := b1) (by omega) (by omega) _) ?_
    rintro _ A2 hw2 hn2 ⟨D2, p2, s2⟩
    have z2 : D2.size = n := by rw [p2.1]; exact z1
    have bel2 := Sort.Below.permA Sort.permIn_all (by omega) bel1 p2
    have R2 := fun R h1 h2 => R1 R (Sort.permIn_trans _ _ _ _ _ p2 h1) h2
    simp [e0, e1, e2, e3, e4, e10, e11]
    refine CN.use (pivK_ok s2 z2 hc (a := a1) (b := b1) (by omega) (by omega)) ?_
    rintro _ A3 hw3 hn3 ⟨pv, x, hpv1, hpv2, rfl, s3⟩
    by_cases x2 : x = 2
    · simp [e0, e1, e2, e3, e4, e10, e11, x2]
      refine CN.use (revK_ok s3 z2 (a := a1) (b := b1) (by omega) (by omega) _) ?_
      rintro _ A4 hw4 hn4 ⟨D4, p4, s4⟩
      have z4 : D4.size = n := by rw [p4.1]; exact z2
      have bel4 := Sort.Below.permA Sort.permIn_all (by omega) bel2 p4
      have R4 := fun R h1 h2 => R2 R (Sort.permIn_trans _ _ _ _ _ p4 h1) h2
      have hexq : ∃ x : Nat, x = b1 - 1 := ⟨_, rfl⟩
      obtain ⟨bm, hbm⟩ := hexq
      have hexq : ∃ x : Nat, x = pv - a1 := ⟨_, rfl⟩
      obtain ⟨pa, hpa⟩ := hexq
      have hexq : ∃ x : Nat, x = bm - pa := ⟨_, rfl⟩
      obtain ⟨pr, hpr⟩ := hexq
      have y1 : IntKind.i64.wrap ((b1 : Int) - 1) = (bm : Int) := by rw [i64_in (by omega) (by omega)]; omega
      have y2 : IntKind.i64.wrap ((pv : Int) - a1) = (pa : Int) := by rw [i64_in (by omega) (by omega)]; omega
      have y3 : IntKind.i64.wrap ((bm : Int) - pa) = (pr : Int) := by rw [i64_in (by omega) (by omega)]; omega
      have hpr1 : a1 ≤ pr := by omega
      have hpr2 : pr < b1 := by omega
      by_cases ha0 : 0 < a1
      · have ha0' : (0 : Int) < a1 := by omega
        have hexq : ∃ x : Nat, x = a1 - 1 := ⟨_, rfl⟩
        obtain ⟨w, hw⟩ := hexq
        have hww : IntKind.i64.wrap ((a1 : Int) - 1) = (w : Int) := by rw [i64_in (by omega) (by omega)]; omega
        have w1 : w < D4.size := by omega
        have w2 : w < n := by omega
        have q1 : pr < D4.size := by omega
        have q2 : pr < n := by omega
        have hobt := s4.at2 w1 q1
        obtain ⟨cs, k1, ⟨k2, k3⟩, ⟨k4, k5⟩, -, -⟩ := hobt
        simp [-getElem!_pos, e0, e1, e2, e3, e4, e10, e11, y1, y2, y3, ha0, ha0', hww, w2, q2, k1, k2, k3, k4, k5]
        refine CN.use (hc _ s4.ko s4.nx _ _ (s4.q _ w1) (s4.q _ q1)) ?_
        rintro _ A6 hw6 hn6 ⟨r, rfl, hr, x6⟩
        have s6 := s4.ext hw4 x6 hn6
        have hbool := Bool.eq_false_or_eq_true (lt D4[w]! D4[pr]!)
        have hr2 : r < 0 ↔ lt D4[w]! D4[pr]! = true := by rw [← hr]; simp
        rcases hbool with hl | hl
        · have hr' : r < 0 := hr2.2 hl
          simp [e0, e1, e2, e3, e4, e10, e11, y1, y2, y3, hr']
          refine CN.use (partK_ok s6 z4 hc (a := a1) (b := b1) (pv := pr) hpr1 hpr2 (by omega)) ?_
          rintro _ A7 hw7 hn7 ⟨rfl, s7⟩
          have hexq : ∃ x, x = Sort.partition lt D4 a1 b1 pr := ⟨_, rfl⟩
          obtain ⟨⟨mid, ap, D7⟩, hD7⟩ := hexq
          rw [← hD7] at s7
          simp only [] at s7
          have hobt := Sort.round_part hO (Sort.partition_holds lt) hpr1 hpr2 (by omega) bel4 hD7.symm
          obtain ⟨rp1, rp2, rp3, rp4, rp5, rp6, rp7⟩ := hobt
          have z7 : D7.size = n := by rw [rp3]; exact z4
          have hexq : ∃ x : Nat, x = mid - a1 := ⟨_, rfl⟩
          obtain ⟨ll, hll⟩ := hexq
          have hexq : ∃ x : Nat, x = b1 - mid := ⟨_, rfl⟩
          obtain ⟨rl, hrl⟩ := hexq
          have hexq : ∃ x : Nat, x = mid + 1 := ⟨_, rfl⟩
          obtain ⟨m1, hm1⟩ := hexq
          have vll : IntKind.i64.wrap ((mid : Int) - a1) = (ll : Int) := by rw [i64_in (by omega) (by omega)]; omega
          have vrl : IntKind.i64.wrap ((b1 : Int) - mid) = (rl : Int) := by rw [i64_in (by omega) (by omega)]; omega
          have vm1 : IntKind.i64.wrap ((mid : Int) + 1) = (m1 : Int) := by rw [i64_in (by omega) (by omega)]; omega
          by_cases hside : ll < rl
          · have hside' : (ll : Int) < rl := by omega
            simp [← hD7, e0, e1, e2, e3, e4, e10, e11, vll, vrl, hside']
            refine CN.use (ih (mid - a1) (by omega) A7 D7 a1 mid _ rfl rp1 (by omega) rp4 s7 z7) ?_
            rintro _ A8 hw8 hn8 ⟨L8, g1, g2, s8⟩
            have hobt := rp6 L8 g1 g2
            obtain ⟨g3, g4⟩ := hobt
            simp [e0, e1, e2, e3, e4, e10, e11, vm1]
            exact NX.of ⟨b1 - m1, by omega, m1, b1, _, _, _, L8, rfl, by omega, by omega, by omega, by rw [g1.1]; exact z7, by rw [hm1]; exact g3, fun R h1 h2 => by rw [hm1] at h1 h2; obtain ⟨h3, h4⟩ := g4 R h1 h2; exact R4 R h3 h4, s8, by simp [e0], by simp, by simp [e2], by simp [e3] <;> rfl, by simp [e4], by simp <;> rfl, by simp <;> rfl⟩
          · have hside' : ¬ (ll : Int) < rl := by omega
            simp [← hD7, e0, e1, e2, e3, e4, e10, e11, vll, vrl, vm1, hside']
            refine CN.use (ih (b1 - m1) (by omega) A7 D7 m1 b1 _ rfl (by omega) (by omega) (by rw [hm1]; exact rp5) s7 z7) ?_
            rintro _ A8 hw8 hn8 ⟨L8, g1, g2, s8⟩
            rw [hm1] at g1 g2
            have hobt := rp7 L8 g1 g2
            obtain ⟨g3, g4⟩ := hobt
            simp [e0, e1, e2, e3, e4, e10, e11]
            exact NX.of ⟨mid - a1, by omega, a1, mid, _, _, _, L8, rfl, by omega, by omega, by omega, by rw [g1.1]; exact z7, g3, fun R h1 h2 => by obtain ⟨h3, h4⟩ := g4 R h1 h2; exact R4 R h3 h4, s8, by simp [e0], by simp [e1], by simp, by simp [e3] <;> rfl, by simp [e4], by simp <;> rfl, by simp <;> rfl⟩
        · have hr' : ¬ r < 0 := fun h => by rw [hr2, hl] at h; cases h
          simp [e0, e1, e2, e3, e4, e10, e11, y1, y2, y3, hr']
          refine CN.use (pareqK_ok s6 z4 hc (a := a1) (b := b1) (pv := pr) hpr1 hpr2 (by omega)) ?_
          rintro _ A7 hw7 hn7 ⟨rfl, s7⟩
          have hexq : ∃ x, x = Sort.partitionEqual lt D4 a1 b1 pr := ⟨_, rfl⟩
          obtain ⟨⟨mid, D7⟩, hD7⟩ := hexq
          rw [← hD7] at s7
          simp only [] at s7
          rw [hw] at hl
          have hobt := Sort.round_eq hO (Sort.partitionEqual_holds lt) ha0 hpr1 hpr2 (by omega) bel4 hl hD7.symm
          obtain ⟨rp1, rp2, rp3, rp4, rp5⟩ := hobt
          simp [← hD7, e0, e1, e2, e3, e4, e10, e11]
          exact NX.of ⟨b1 - mid, by omega, mid, b1, _, _, _, D7, rfl, by omega, by omega, by omega, by rw [rp3]; exact z4, rp4, fun R h1 h2 => by obtain ⟨h3, h4⟩ := rp5 R h1 h2; exact R4 R h3 h4, s7, by simp [e0], by simp, by simp [e2], by simp [e3] <;> rfl, by simp [e4], by simp [e10] <;> rfl, by simp [e11] <;> rfl⟩
      · have ha0' : ¬ (0 : Int) < a1 := by omega
        simp [e0, e1, e2, e3, e4, e10, e11, y1, y2, y3, ha0, ha0']
        refine CN.use (partK_ok s4 z4 hc (a := a1) (b := b1) (pv := pr) hpr1 hpr2 (by omega)) ?_
        rintro _ A7 hw7 hn7 ⟨rfl, s7⟩
        have hexq : ∃ x, x = Sort.partition lt D4 a1 b1 pr := ⟨_, rfl⟩
        obtain ⟨⟨mid, ap, D7⟩, hD7⟩ := hexq
        rw [← hD7] at s7
        simp only [] at s7
        have hobt := Sort.round_part hO (Sort.partition_holds lt) hpr1 hpr2 (by omega) bel4 hD7.symm
        obtain ⟨rp1, rp2, rp3, rp4, rp5, rp6, rp7⟩ := hobt
        have z7 : D7.size = n := by rw [rp3]; exact z4
        have hexq : ∃ x : Nat, x = mid - a1 := ⟨_, rfl⟩
        obtain ⟨ll, hll⟩ := hexq
        have hexq : ∃ x : Nat, x = b1 - mid := ⟨_, rfl⟩
        obtain ⟨rl, hrl⟩ := hexq
        have hexq : ∃ x : Nat, x = mid + 1 := ⟨_, rfl⟩
        obtain ⟨m1, hm1⟩ := hexq
        have vll : IntKind.i64.wrap ((mid : Int) - a1) = (ll : Int) := by rw [i64_in (by omega) (by omega)]; omega
        have vrl : IntKind.i64.wrap ((b1 : Int) - mid) = (rl : Int) := by rw [i64_in (by omega) (by omega)]; omega
        have vm1 : IntKind.i64.wrap ((mid : Int) + 1) = (m1 : Int) := by rw [i64_in (by omega) (by omega)]; omega
        by_cases hside : ll < rl
        · have hside' : (ll : Int) < rl := by omega
          simp [← hD7, e0, e1, e2, e3, e4, e10, e11, vll, vrl, hside']
          refine CN.use (ih (mid - a1) (by omega) A7 D7 a1 mid _ rfl rp1 (by omega) rp4 s7 z7) ?_
          rintro _ A8 hw8 hn8 ⟨L8, g1, g2, s8⟩
          have hobt := rp6 L8 g1 g2
          obtain ⟨g3, g4⟩ := hobt
          simp [e0, e1, e2, e3, e4, e10, e11, vm1]
          exact NX.of ⟨b1 - m1, by omega, m1, b1, _, _, _, L8, rfl, by omega, by omega, by omega, by rw [g1.1]; exact z7, by rw [hm1]; exact g3, fun R h1 h2 => by rw [hm1] at h1 h2; obtain ⟨h3, h4⟩ := g4 R h1 h2; exact R4 R h3 h4, s8, by simp [e0], by simp, by simp [e2], by simp [e3] <;> rfl, by simp [e4], by simp <;> rfl, by simp <;> rfl⟩
        · have hside' : ¬ (ll : Int) < rl := by omega
          simp [← hD7, e0, e1, e2, e3, e4, e10, e11, vll, vrl, vm1, hside']
          refine CN.use (ih (b1 - m1) (by omega) A7 D7 m1 b1 _ rfl (by omega) (by omega) (by rw [hm1]; exact rp5) s7 z7) ?_
          rintro _ A8 hw8 hn8 ⟨L8, g1, g2, s8⟩
          rw [hm1] at g1 g2
          have hobt := rp7 L8 g1 g2
          obtain ⟨g3, g4⟩ := hobt
          simp [e0, e1, e2, e3, e4, e10, e11]
          exact NX.of ⟨mid - a1, by omega, a1, mid, _, _, _, L8, rfl, by omega, by omega, by omega, by rw [g1.1]; exact z7, g3, fun R h1 h2 => by obtain ⟨h3, h4⟩ := g4 R h1 h2; exact R4 R h3 h4, s8, by simp [e0], by simp [e1], by simp, by simp [e3] <;> rfl, by simp [e4], by simp <;> rfl, by simp <;> rfl⟩
    · have y1 : True := trivial
      by_cases ha0 : 0 < a1
      · have ha0' : (0 : Int) < a1 := by omega
        have hexq : ∃ x : Nat, x = a1 - 1 := ⟨_, rfl⟩
        obtain ⟨w, hw⟩ := hexq
        have hww : IntKind.i64.wrap ((a1 : Int) - 1) = (w : Int) := by rw [i64_in (by omega) (by omega)]; omega
        have w1 : w < D2.size := by omega
        have w2 : w < n := by omega
        have q1 : pv < D2.size := by omega
        have q2 : pv < n := by omega
        have hobt := s3.at2 w1 q1
        obtain ⟨cs, k1, ⟨k2, k3⟩, ⟨k4, k5⟩, -, -⟩ := hobt
        simp [-getElem!_pos, e0, e1, e2, e3, e4, e10, e11, x2, ha0, ha0', hww, w2, q2, k1, k2, k3, k4, k5]
        refine CN.use (hc _ s3.ko s3.nx _ _ (s3.q _ w1) (s3.q _ q1)) ?_
        rintro _ A6 hw6 hn6 ⟨r, rfl, hr, x6⟩
        have s6 := s3.ext hw3 x6 hn6
        have hbool := Bool.eq_false_or_eq_true (lt D2[w]! D2[pv]!)
        have hr2 : r < 0 ↔ lt D2[w]! D2[pv]! = true := by rw [← hr]; simp
        rcases hbool with hl | hl
        · have hr' : r < 0 := hr2.2 hl
          simp [e0, e1, e2, e3, e4, e10, e11, x2, hr']
          refine CN.use (partK_ok s6 z2 hc (a := a1) (b := b1) (pv := pv) hpv1 hpv2 (by omega)) ?_
          rintro _ A7 hw7 hn7 ⟨rfl, s7⟩
          have hexq : ∃ x, x = Sort.partition lt D2 a1 b1 pv := ⟨_, rfl⟩
          obtain ⟨⟨mid, ap, D7⟩, hD7⟩ := hexq
          rw [← hD7] at s7
          simp only [] at s7
          have hobt := Sort.round_part hO (Sort.partition_holds lt) hpv1 hpv2 (by omega) bel2 hD7.symm
          obtain ⟨rp1, rp2, rp3, rp4, rp5, rp6, rp7⟩ := hobt
          have z7 : D7.size = n := by rw [rp3]; exact z2
          have hexq : ∃ x : Nat, x = mid - a1 := ⟨_, rfl⟩
          obtain ⟨ll, hll⟩ := hexq
          have hexq : ∃ x : Nat, x = b1 - mid := ⟨_, rfl⟩
          obtain ⟨rl, hrl⟩ := hexq
          have hexq : ∃ x : Nat, x = mid + 1 := ⟨_, rfl⟩
          obtain ⟨m1, hm1⟩ := hexq
          have vll : IntKind.i64.wrap ((mid : Int) - a1) = (ll : Int) := by rw [i64_in (by omega) (by omega)]; omega
          have vrl : IntKind.i64.wrap ((b1 : Int) - mid) = (rl : Int) := by rw [i64_in (by omega) (by omega)]; omega
          have vm1 : IntKind.i64.wrap ((mid : Int) + 1) = (m1 : Int) := by rw [i64_in (by omega) (by omega)]; omega
          by_cases hside : ll < rl
          · have hside' : (ll : Int) < rl := by omega
            simp [← hD7, e0, e1, e2, e3, e4, e10, e11, vll, vrl, hside']
            refine CN.use (ih (mid - a1) (by omega) A7 D7 a1 mid _ rfl rp1 (by omega) rp4 s7 z7) ?_
            rintro _ A8 hw8 hn8 ⟨L8, g1, g2, s8⟩
            have hobt := rp6 L8 g1 g2
            obtain ⟨g3, g4⟩ := hobt
            simp [e0, e1, e2, e3, e4, e10, e11, vm1]
            exact NX.of ⟨b1 - m1, by omega, m1, b1, _, _, _, L8, rfl, by omega, by omega, by omega, by rw [g1.1]; exact z7, by rw [hm1]; exact g3, fun R h1 h2 => by rw [hm1] at h1 h2; obtain ⟨h3, h4⟩ := g4 R h1 h2; exact R2 R h3 h4, s8, by simp [e0], by simp, by simp [e2], by simp [e3] <;> rfl, by simp [e4], by simp <;> rfl, by simp <;> rfl⟩
          · have hside' : ¬ (ll : Int) < rl := by omega
            simp [← hD7, e0, e1, e2, e3, e4, e10, e11, vll, vrl, vm1, hside']
            refine CN.use (ih (b1 - m1) (by omega) A7 D7 m1 b1 _ rfl (by omega) (by omega) (by rw [hm1]; exact rp5) s7 z7) ?_
            rintro _ A8 hw8 hn8 ⟨L8, g1, g2, s8⟩
            rw [hm1] at g1 g2
            have hobt := rp7 L8 g1 g2
            obtain ⟨g3, g4⟩ := hobt
            simp [e0, e1, e2, e3, e4, e10, e11]
            exact NX.of ⟨mid - a1, by omega, a1, mid, _, _, _, L8, rfl, by omega, by omega, by omega, by rw [g1.1]; exact z7, g3, fun R h1 h2 => by obtain ⟨h3, h4⟩ := g4 R h1 h2; exact R2 R h3 h4, s8, by simp [e0], by simp [e1], by simp, by simp [e3] <;> rfl, by simp [e4], by simp <;> rfl, by simp <;> rfl⟩
        · have hr' : ¬ r < 0 := fun h => by rw [hr2, hl] at h; cases h
          simp [e0, e1, e2, e3, e4, e10, e11, x2, hr']
          refine CN.use (pareqK_ok s6 z2 hc (a := a1) (b := b1) (pv := pv) hpv1 hpv2 (by omega)) ?_
          rintro _ A7 hw7 hn7 ⟨rfl, s7⟩
          have hexq : ∃ x, x = Sort.partitionEqual lt D2 a1 b1 pv := ⟨_, rfl⟩
          obtain ⟨⟨mid, D7⟩, hD7⟩ := hexq
          rw [← hD7] at s7
          simp only [] at s7
          rw [hw] at hl
          have hobt := Sort.round_eq hO (Sort.partitionEqual_holds lt) ha0 hpv1 hpv2 (by omega) bel2 hl hD7.symm
          obtain ⟨rp1, rp2, rp3, rp4, rp5⟩ := hobt
          simp [← hD7, e0, e1, e2, e3, e4, e10, e11]
          exact NX.of ⟨b1 - mid, by omega, mid, b1, _, _, _, D7, rfl, by omega, by omega, by omega, by rw [rp3]; exact z2, rp4, fun R h1 h2 => by obtain ⟨h3, h4⟩ := rp5 R h1 h2; exact R2 R h3 h4, s7, by simp [e0], by simp, by simp [e2], by simp [e3] <;> rfl, by simp [e4], by simp [e10] <;> rfl, by simp [e11] <;> rfl⟩
      · have ha0' : ¬ (0 : Int) < a1 := by omega
        simp [e0, e1, e2, e3, e4, e10, e11, x2, ha0, ha0']
        refine CN.use (partK_ok s3 z2 hc (a := a1) (b := b1) (pv := pv) hpv1 hpv2 (by omega)) ?_
        rintro _ A7 hw7 hn7 ⟨rfl, s7⟩
        have hexq : ∃ x, x = Sort.partition lt D2 a1 b1 pv := ⟨_, rfl⟩
        obtain ⟨⟨mid, ap, D7⟩, hD7⟩ := hexq
        rw [← hD7] at s7
        simp only [] at s7
        have hobt := Sort.round_part hO (Sort.partition_holds lt) hpv1 hpv2 (by omega) bel2 hD7.symm
        obtain ⟨rp1, rp2, rp3, rp4, rp5, rp6, rp7⟩ := hobt
        have z7 : D7.size = n := by rw [rp3]; exact z2
        have hexq : ∃ x : Nat, x = mid - a1 := ⟨_, rfl⟩
        obtain ⟨ll, hll⟩ := hexq
        have hexq : ∃ x : Nat, x = b1 - mid := ⟨_, rfl⟩
        obtain ⟨rl, hrl⟩ := hexq
        have hexq : ∃ x : Nat, x = mid + 1 := ⟨_, rfl⟩
        obtain ⟨m1, hm1⟩ := hexq
        have vll : IntKind.i64.wrap ((mid : Int) - a1) = (ll : Int) := by rw [i64_in (by omega) (by omega)]; omega
        have vrl : IntKind.i64.wrap ((b1 : Int) - mid) = (rl : Int) := by rw [i64_in (by omega) (by omega)]; omega
        have vm1 : IntKind.i64.wrap ((mid : Int) + 1) = (m1 : Int) := by rw [i64_in (by omega) (by omega)]; omega
        by_cases hside : ll < rl
        · have hside' : (ll : Int) < rl := by omega
          simp [← hD7, e0, e1, e2, e3, e4, e10, e11, vll, vrl, hside']
          refine CN.use (ih (mid - a1) (by omega) A7 D7 a1 mid _ rfl rp1 (by omega) rp4 s7 z7) ?_
          rintro _ A8 hw8 hn8 ⟨L8, g1, g2, s8⟩
          have hobt := rp6 L8 g1 g2
          obtain ⟨g3, g4⟩ := hobt
          simp [e0, e1, e2, e3, e4, e10, e11, vm1]
          exact NX.of ⟨b1 - m1, by omega, m1, b1, _, _, _, L8, rfl, by omega, by omega, by omega, by rw [g1.1]; exact z7, by rw [hm1]; exact g3, fun R h1 h2 => by rw [hm1] at h1 h2; obtain ⟨h3, h4⟩ := g4 R h1 h2; exact R2 R h3 h4, s8, by simp [e0], by simp, by simp [e2], by simp [e3] <;> rfl, by simp [e4], by simp <;> rfl, by simp <;> rfl⟩
        · have hside' : ¬ (ll : Int) < rl := by omega
          simp [← hD7, e0, e1, e2, e3, e4, e10, e11, vll, vrl, vm1, hside']
          refine CN.use (ih (b1 - m1) (by omega) A7 D7 m1 b1 _ rfl (by omega) (by omega) (by rw [hm1]; exact rp5) s7 z7) ?_
          rintro _ A8 hw8 hn8 ⟨L8, g1, g2, s8⟩
          rw [hm1] at g1 g2
          have hobt := rp7 L8 g1 g2
          obtain ⟨g3, g4⟩ := hobt
          simp [e0, e1, e2, e3, e4, e10, e11]
          exact NX.of ⟨mid - a1, by omega, a1, mid, _, _, _, L8, rfl, by omega, by omega, by omega, by rw [g1.1]; exact z7, g3, fun R h1 h2 => by obtain ⟨h3, h4⟩ := g4 R h1 h2; exact R2 R h3 h4, s8, by simp [e0], by simp [e1], by simp, by simp [e3] <;> rfl, by simp [e4], by simp <;> rfl, by simp <;> rfl⟩
  | true =>
    simp [e0, e1, e2, e3, e4, e10, e11, vL, h12, h12', hl0]
    refine CN.use (pivK_ok s1 z1 hc (a := a1) (b := b1) (by omega) (by omega)) ?_
    rintro _ A3 hw3 hn3 ⟨pv, x, hpv1, hpv2, rfl, s3⟩
    by_cases x2 : x = 2
    · simp [e0, e1, e2, e3, e4, e10, e11, x2]
      refine CN.use (revK_ok s3 z1 (a := a1) (b := b1) (by omega) (by omega) _) ?_
      rintro _ A4 hw4 hn4 ⟨D4, p4, s4⟩
      have z4 : D4.size = n := by rw [p4.1]; exact z1
      have bel4 := Sort.Below.permA Sort.permIn_all (by omega) bel1 p4
      have R4 := fun R h1 h2 => R1 R (Sort.permIn_trans _ _ _ _ _ p4 h1) h2
      have hexq : ∃ x : Nat, x = b1 - 1 := ⟨_, rfl⟩
      obtain ⟨bm, hbm⟩ := hexq
      have hexq : ∃ x : Nat, x = pv - a1 := ⟨_, rfl⟩
      obtain ⟨pa, hpa⟩ := hexq
      have hexq : ∃ x : Nat, x = bm - pa := ⟨_, rfl⟩
      obtain ⟨pr, hpr⟩ := hexq
      have y1 : IntKind.i64.wrap ((b1 : Int) - 1) = (bm : Int) := by rw [i64_in (by omega) (by omega)]; omega
      have y2 : IntKind.i64.wrap ((pv : Int) - a1) = (pa : Int) := by rw [i64_in (by omega) (by omega)]; omega
      have y3 : IntKind.i64.wrap ((bm : Int) - pa) = (pr : Int) := by rw [i64_in (by omega) (by omega)]; omega
      have hpr1 : a1 ≤ pr := by omega
      have hpr2 : pr < b1 := by omega
      cases wp with
      | false =>
        by_cases ha0 : 0 < a1
        · have ha0' : (0 : Int) < a1 := by omega
          have hexq : ∃ x : Nat, x = a1 - 1 := ⟨_, rfl⟩
          obtain ⟨w, hw⟩ := hexq
          have hww : IntKind.i64.wrap ((a1 : Int) - 1) = (w : Int) := by rw [i64_in (by omega) (by omega)]; omega
          have w1 : w < D4.size := by omega
          have w2 : w < n := by omega
          have q1 : pr < D4.size := by omega
          have q2 : pr < n := by omega
          have hobt := s4.at2 w1 q1
          obtain ⟨cs, k1, ⟨k2, k3⟩, ⟨k4, k5⟩, -, -⟩ := hobt
          simp [-getElem!_pos, e0, e1, e2, e3, e4, e10, e11, y1, y2, y3, ha0, ha0', hww, w2, q2, k1, k2, k3, k4, k5]
          refine CN.use (hc _ s4.ko s4.nx _ _ (s4.q _ w1) (s4.q _ q1)) ?_
          rintro _ A6 hw6 hn6 ⟨r, rfl, hr, x6⟩
          have s6 := s4.ext hw4 x6 hn6
          have hbool := Bool.eq_false_or_eq_true (lt D4[w]! D4[pr]!)
          have hr2 : r < 0 ↔ lt D4[w]! D4[pr]! = true := by rw [← hr]; simp
          rcases hbool with hl | hl
          · have hr' : r < 0 := hr2.2 hl
            simp [e0, e1, e2, e3, e4, e10, e11, y1, y2, y3, hr']
            refine CN.use (partK_ok s6 z4 hc (a := a1) (b := b1) (pv := pr) hpr1 hpr2 (by omega)) ?_
            rintro _ A7 hw7 hn7 ⟨rfl, s7⟩
            have hexq : ∃ x, x = Sort.partition lt D4 a1 b1 pr := ⟨_, rfl⟩
            obtain ⟨⟨mid, ap, D7⟩, hD7⟩ := hexq
            rw [← hD7] at s7
            simp only [] at s7
            have hobt := Sort.round_part hO (Sort.partition_holds lt) hpr1 hpr2 (by omega) bel4 hD7.symm
            obtain ⟨rp1, rp2, rp3, rp4, rp5, rp6, rp7⟩ := hobt
            have z7 : D7.size = n := by rw [rp3]; exact z4
            have hexq : ∃ x : Nat, x = mid - a1 := ⟨_, rfl⟩
            obtain ⟨ll, hll⟩ := hexq
            have hexq : ∃ x : Nat, x = b1 - mid := ⟨_, rfl⟩
            obtain ⟨rl, hrl⟩ := hexq
            have hexq : ∃ x : Nat, x = mid + 1 := ⟨_, rfl⟩
            obtain ⟨m1, hm1⟩ := hexq
            have vll : IntKind.i64.wrap ((mid : Int) - a1) = (ll : Int) := by rw [i64_in (by omega) (by omega)]; omega
            have vrl : IntKind.i64.wrap ((b1 : Int) - mid) = (rl : Int) := by rw [i64_in (by omega) (by omega)]; omega
            have vm1 : IntKind.i64.wrap ((mid : Int) + 1) = (m1 : Int) := by rw [i64_in (by omega) (by omega)]; omega
            by_cases hside : ll < rl
            · have hside' : (ll : Int) < rl := by omega
              simp [← hD7, e0, e1, e2, e3, e4, e10, e11, vll, vrl, hside']
              refine CN.use (ih (mid - a1) (by omega) A7 D7 a1 mid _ rfl rp1 (by omega) rp4 s7 z7) ?_
              rintro _ A8 hw8 hn8 ⟨L8, g1, g2, s8⟩
              have hobt := rp6 L8 g1 g2
              obtain ⟨g3, g4⟩ := hobt
              simp [e0, e1, e2, e3, e4, e10, e11, vm1]
              exact NX.of ⟨b1 - m1, by omega, m1, b1, _, _, _, L8, rfl, by omega, by omega, by omega, by rw [g1.1]; exact z7, by rw [hm1]; exact g3, fun R h1 h2 => by rw [hm1] at h1 h2; obtain ⟨h3, h4⟩ := g4 R h1 h2; exact R4 R h3 h4, s8, by simp [e0], by simp, by simp [e2], by simp [e3] <;> rfl, by simp [e4], by simp <;> rfl, by simp <;> rfl⟩
            · have hside' : ¬ (ll : Int) < rl := by omega
              simp [← hD7, e0, e1, e2, e3, e4, e10, e11, vll, vrl, vm1, hside']
              refine CN.use (ih (b1 - m1) (by omega) A7 D7 m1 b1 _ rfl (by omega) (by omega) (by rw [hm1]; exact rp5) s7 z7) ?_
              rintro _ A8 hw8 hn8 ⟨L8, g1, g2, s8⟩
              rw [hm1] at g1 g2
              have hobt := rp7 L8 g1 g2
              obtain ⟨g3, g4⟩ := hobt
              simp [e0, e1, e2, e3, e4, e10, e11]
              exact NX.of ⟨mid - a1, by omega, a1, mid, _, _, _, L8, rfl, by omega, by omega, by omega, by rw [g1.1]; exact z7, g3, fun R h1 h2 => by obtain ⟨h3, h4⟩ := g4 R h1 h2; exact R4 R h3 h4, s8, by simp [e0], by simp [e1], by simp, by simp [e3] <;> rfl, by simp [e4], by simp <;> rfl, by simp <;> rfl⟩
          · have hr' : ¬ r < 0 := fun h => by rw [hr2, hl] at h; cases h
            simp [e0, e1, e2, e3, e4, e10, e11, y1, y2, y3, hr']
            refine CN.use (pareqK_ok s6 z4 hc (a := a1) (b := b1) (pv := pr) hpr1 hpr2 (by omega)) ?_
            rintro _ A7 hw7 hn7 ⟨rfl, s7⟩
            have hexq : ∃ x, x = Sort.partitionEqual lt D4 a1 b1 pr := ⟨_, rfl⟩
            obtain ⟨⟨mid, D7⟩, hD7⟩ := hexq
            rw [← hD7] at s7
            simp only [] at s7
            rw [hw] at hl
            have hobt := Sort.round_eq hO (Sort.partitionEqual_holds lt) ha0 hpr1 hpr2 (by omega) bel4 hl hD7.symm
            obtain ⟨rp1, rp2, rp3, rp4, rp5⟩ := hobt
            simp [← hD7, e0, e1, e2, e3, e4, e10, e11]
            exact NX.of ⟨b1 - mid, by omega, mid, b1, _, _, _, D7, rfl, by omega, by omega, by omega, by rw [rp3]; exact z4, rp4, fun R h1 h2 => by obtain ⟨h3, h4⟩ := rp5 R h1 h2; exact R4 R h3 h4, s7, by simp [e0], by simp, by simp [e2], by simp [e3] <;> rfl, by simp [e4], by simp [e10] <;> rfl, by simp [e11] <;> rfl⟩
        · have ha0' : ¬ (0 : Int) < a1 := by omega
          simp [e0, e1, e2, e3, e4, e10, e11, y1, y2, y3, ha0, ha0']
          refine CN.use (partK_ok s4 z4 hc (a := a1) (b := b1) (pv := pr) hpr1 hpr2 (by omega)) ?_
          rintro _ A7 hw7 hn7 ⟨rfl, s7⟩
          have hexq : ∃ x, x = Sort.partition lt D4 a1 b1 pr := ⟨_, rfl⟩
          obtain ⟨⟨mid, ap, D7⟩, hD7⟩ := hexq
          rw [← hD7] at s7
          simp only [] at s7
          have hobt := Sort.round_part hO (Sort.partition_holds lt) hpr1 hpr2 (by omega) bel4 hD7.symm
          obtain ⟨rp1, rp2, rp3, rp4, rp5, rp6, rp7⟩ := hobt
          have z7 : D7.size = n := by rw [rp3]; exact z4
          have hexq : ∃ x : Nat, x = mid - a1 := ⟨_, rfl⟩
          obtain ⟨ll, hll⟩ := hexq
          have hexq : ∃ x : Nat, x = b1 - mid := ⟨_, rfl⟩
          obtain ⟨rl, hrl⟩ := hexq
          have hexq : ∃ x : Nat, x = mid + 1 := ⟨_, rfl⟩
          obtain ⟨m1, hm1⟩ := hexq
          have vll : IntKind.i64.wrap ((mid : Int) - a1) = (ll : Int) := by rw [i64_in (by omega) (by omega)]; omega
          have vrl : IntKind.i64.wrap ((b1 : Int) - mid) = (rl : Int) := by rw [i64_in (by omega) (by omega)]; omega
          have vm1 : IntKind.i64.wrap ((mid : Int) + 1) = (m1 : Int) := by rw [i64_in (by omega) (by omega)]; omega
          by_cases hside : ll < rl
          · have hside' : (ll : Int) < rl := by omega
            simp [← hD7, e0, e1, e2, e3, e4, e10, e11, vll, vrl, hside']
            refine CN.use (ih (mid - a1) (by omega) A7 D7 a1 mid _ rfl rp1 (by omega) rp4 s7 z7) ?_
            rintro _ A8 hw8 hn8 ⟨L8, g1, g2, s8⟩
            have hobt := rp6 L8 g1 g2
            obtain ⟨g3, g4⟩ := hobt
            simp [e0, e1, e2, e3, e4, e10, e11, vm1]
            exact NX.of ⟨b1 - m1, by omega, m1, b1, _, _, _, L8, rfl, by omega, by omega, by omega, by rw [g1.1]; exact z7, by rw [hm1]; exact g3, fun R h1 h2 => by rw [hm1] at h1 h2; obtain ⟨h3, h4⟩ := g4 R h1 h2; exact R4 R h3 h4, s8, by simp [e0], by simp, by simp [e2], by simp [e3] <;> rfl, by simp [e4], by simp <;> rfl, by simp <;> rfl⟩
          · have hside' : ¬ (ll : Int) < rl := by omega
            simp [← hD7, e0, e1, e2, e3, e4, e10, e11, vll, vrl, vm1, hside']
            refine CN.use (ih (b1 - m1) (by omega) A7 D7 m1 b1 _ rfl (by omega) (by omega) (by rw [hm1]; exact rp5) s7 z7) ?_
            rintro _ A8 hw8 hn8 ⟨L8, g1, g2, s8⟩
            rw [hm1] at g1 g2
            have hobt := rp7 L8 g1 g2
            obtain ⟨g3, g4⟩ := hobt
            simp [e0, e1, e2, e3, e4, e10, e11]
            exact NX.of ⟨mid - a1, by omega, a1, mid, _, _, _, L8, rfl, by omega, by omega, by omega, by rw [g1.1]; exact z7, g3, fun R h1 h2 => by obtain ⟨h3, h4⟩ := g4 R h1 h2; exact R4 R h3 h4, s8, by simp [e0], by simp [e1], by simp, by simp [e3] <;> rfl, by simp [e4], by simp <;> rfl, by simp <;> rfl⟩
      | true =>
        simp [e0, e1, e2, e3, e4, e10, e11, y1, y2, y3]
        refine CN.use (pinsK_ok s4 z4 hc (a := a1) (b := b1) (by omega) (by omega)) ?_
        rintro _ A5 hw5 hn5 ⟨rfl, s5⟩
        have hpi := Sort.partialInsertionSort_holds hO _ a1 b1 (by omega) (by rw [z4]; omega) bel4
        have hexD : ∃ x, x = Sort.partialInsertionSort lt D4 a1 b1 := ⟨_, rfl⟩
        obtain ⟨⟨D5, ok5⟩, hD5⟩ := hexD
        rw [← hD5] at s5 hpi
        simp only [] at s5 hpi
        obtain ⟨p5, p6⟩ := hpi
        have z5 : D5.size = n := by rw [p5.1]; exact z4
        cases ok5 with
        | true =>
          simp [← hD5]
          have hobt := R4 _ p5 (p6 rfl)
          obtain ⟨g1, g2⟩ := hobt
          exact DN.of ⟨_, g1, g2, s5⟩
        | false =>
          have bel5 := Sort.Below.permA Sort.permIn_all (by rw [z4]; omega) bel4 p5
          have R5 := fun R h1 h2 => R4 R (Sort.permIn_trans _ _ _ _ _ p5 h1) h2
          have x9 : True := trivial
          by_cases ha0 : 0 < a1
          · have ha0' : (0 : Int) < a1 := by omega
            have hexq : ∃ x : Nat, x = a1 - 1 := ⟨_, rfl⟩
            obtain ⟨w, hw⟩ := hexq
            have hww : IntKind.i64.wrap ((a1 : Int) - 1) = (w : Int) := by rw [i64_in (by omega) (by omega)]; omega
            have w1 : w < D5.size := by omega
            have w2 : w < n := by omega
            have q1 : pr < D5.size := by omega
            have q2 : pr < n := by omega
            have hobt := s5.at2 w1 q1
            obtain ⟨cs, k1, ⟨k2, k3⟩, ⟨k4, k5⟩, -, -⟩ := hobt
            simp [-getElem!_pos, e0, e1, e2, e3, e4, e10, e11, ← hD5, ha0, ha0', hww, w2, q2, k1, k2, k3, k4, k5]
            refine CN.use (hc _ s5.ko s5.nx _ _ (s5.q _ w1) (s5.q _ q1)) ?_
            rintro _ A6 hw6 hn6 ⟨r, rfl, hr, x6⟩
            have s6 := s5.ext hw5 x6 hn6
            have hbool := Bool.eq_false_or_eq_true (lt D5[w]! D5[pr]!)
            have hr2 : r < 0 ↔ lt D5[w]! D5[pr]! = true := by rw [← hr]; simp
            rcases hbool with hl | hl
            · have hr' : r < 0 := hr2.2 hl
              simp [e0, e1, e2, e3, e4, e10, e11, ← hD5, hr']
              refine CN.use (partK_ok s6 z5 hc (a := a1) (b := b1) (pv := pr) hpr1 hpr2 (by omega)) ?_
              rintro _ A7 hw7 hn7 ⟨rfl, s7⟩
              have hexq : ∃ x, x = Sort.partition lt D5 a1 b1 pr := ⟨_, rfl⟩
              obtain ⟨⟨mid, ap, D7⟩, hD7⟩ := hexq
              rw [← hD7] at s7
              simp only [] at s7
              have hobt := Sort.round_part hO (Sort.partition_holds lt) hpr1 hpr2 (by omega) bel5 hD7.symm
              obtain ⟨rp1, rp2, rp3, rp4, rp5, rp6, rp7⟩ := hobt
              have z7 : D7.size = n := by rw [rp3]; exact z5
              have hexq : ∃ x : Nat, x = mid - a1 := ⟨_, rfl⟩
              obtain ⟨ll, hll⟩ := hexq
              have hexq : ∃ x : Nat, x = b1 - mid := ⟨_, rfl⟩
              obtain ⟨rl, hrl⟩ := hexq
              have hexq : ∃ x : Nat, x = mid + 1 := ⟨_, rfl⟩
              obtain ⟨m1, hm1⟩ := hexq
              have vll : IntKind.i64.wrap ((mid : Int) - a1) = (ll : Int) := by rw [i64_in (by omega) (by omega)]; omega
              have vrl : IntKind.i64.wrap ((b1 : Int) - mid) = (rl : Int) := by rw [i64_in (by omega) (by omega)]; omega
              have vm1 : IntKind.i64.wrap ((mid : Int) + 1) = (m1 : Int) := by rw [i64_in (by omega) (by omega)]; omega
              by_cases hside : ll < rl
              · have hside' : (ll : Int) < rl := by omega
                simp [← hD7, e0, e1, e2, e3, e4, e10, e11, vll, vrl, hside']
                refine CN.use (ih (mid - a1) (by omega) A7 D7 a1 mid _ rfl rp1 (by omega) rp4 s7 z7) ?_
                rintro _ A8 hw8 hn8 ⟨L8, g1, g2, s8⟩
                have hobt := rp6 L8 g1 g2
                obtain ⟨g3, g4⟩ := hobt
                simp [e0, e1, e2, e3, e4, e10, e11, vm1]
                exact NX.of ⟨b1 - m1, by omega, m1, b1, _, _, _, L8, rfl, by omega, by omega, by omega, by rw [g1.1]; exact z7, by rw [hm1]; exact g3, fun R h1 h2 => by rw [hm1] at h1 h2; obtain ⟨h3, h4⟩ := g4 R h1 h2; exact R5 R h3 h4, s8, by simp [e0], by simp, by simp [e2], by simp [e3] <;> rfl, by simp [e4], by simp <;> rfl, by simp <;> rfl⟩
              · have hside' : ¬ (ll : Int) < rl := by omega
                simp [← hD7, e0, e1, e2, e3, e4, e10, e11, vll, vrl, vm1, hside']
                refine CN.use (ih (b1 - m1) (by omega) A7 D7 m1 b1 _ rfl (by omega) (by omega) (by rw [hm1]; exact rp5) s7 z7) ?_
                rintro _ A8 hw8 hn8 ⟨L8, g1, g2, s8⟩
                rw [hm1] at g1 g2
                have hobt := rp7 L8 g1 g2
                obtain ⟨g3, g4⟩ := hobt
                simp [e0, e1, e2, e3, e4, e10, e11]
                exact NX.of ⟨mid - a1, by omega, a1, mid, _, _, _, L8, rfl, by omega, by omega, by omega, by rw [g1.1]; exact z7, g3, fun R h1 h2 => by obtain ⟨h3, h4⟩ := g4 R h1 h2; exact R5 R h3 h4, s8, by simp [e0], by simp [e1], by simp, by simp [e3] <;> rfl, by simp [e4], by simp <;> rfl, by simp <;> rfl⟩
            · have hr' : ¬ r < 0 := fun h => by rw [hr2, hl] at h; cases h
              simp [e0, e1, e2, e3, e4, e10, e11, ← hD5, hr']
              refine CN.use (pareqK_ok s6 z5 hc (a := a1) (b := b1) (pv := pr) hpr1 hpr2 (by omega)) ?_
              rintro _ A7 hw7 hn7 ⟨rfl, s7⟩
              have hexq : ∃ x, x = Sort.partitionEqual lt D5 a1 b1 pr := ⟨_, rfl⟩
              obtain ⟨⟨mid, D7⟩, hD7⟩ := hexq
              rw [← hD7] at s7
              simp only [] at s7
              rw [hw] at hl
              have hobt := Sort.round_eq hO (Sort.partitionEqual_holds lt) ha0 hpr1 hpr2 (by omega) bel5 hl hD7.symm
              obtain ⟨rp1, rp2, rp3, rp4, rp5⟩ := hobt
              simp [← hD7, e0, e1, e2, e3, e4, e10, e11]
              exact NX.of ⟨b1 - mid, by omega, mid, b1, _, _, _, D7, rfl, by omega, by omega, by omega, by rw [rp3]; exact z5, rp4, fun R h1 h2 => by obtain ⟨h3, h4⟩ := rp5 R h1 h2; exact R5 R h3 h4, s7, by simp [e0], by simp, by simp [e2], by simp [e3] <;> rfl, by simp [e4], by simp [e10] <;> rfl, by simp [e11] <;> rfl⟩
          · have ha0' : ¬ (0 : Int) < a1 := by omega
            simp [e0, e1, e2, e3, e4, e10, e11, ← hD5, ha0, ha0']
            refine CN.use (partK_ok s5 z5 hc (a := a1) (b := b1) (pv := pr) hpr1 hpr2 (by omega)) ?_
            rintro _ A7 hw7 hn7 ⟨rfl, s7⟩
            have hexq : ∃ x, x = Sort.partition lt D5 a1 b1 pr := ⟨_, rfl⟩
            obtain ⟨⟨mid, ap, D7⟩, hD7⟩ := hexq
            rw [← hD7] at s7
            simp only [] at s7
            have hobt := Sort.round_part hO (Sort.partition_holds lt) hpr1 hpr2 (by omega) bel5 hD7.symm
            obtain ⟨rp1, rp2, rp3, rp4, rp5, rp6, rp7⟩ := hobt
            have z7 : D7.size = n := by rw [rp3]; exact z5
            have hexq : ∃ x : Nat, x = mid - a1 := ⟨_, rfl⟩
            obtain ⟨ll, hll⟩ := hexq
            have hexq : ∃ x : Nat, x = b1 - mid := ⟨_, rfl⟩
            obtain ⟨rl, hrl⟩ := hexq
            have hexq : ∃ x : Nat, x = mid + 1 := ⟨_, rfl⟩
            obtain ⟨m1, hm1⟩ := hexq
            have vll : IntKind.i64.wrap ((mid : Int) - a1) = (ll : Int) := by rw [i64_in (by omega) (by omega)]; omega
            have vrl : IntKind.i64.wrap ((b1 : Int) - mid) = (rl : Int) := by rw [i64_in (by omega) (by omega)]; omega
            have vm1 : IntKind.i64.wrap ((mid : Int) + 1) = (m1 : Int) := by rw [i64_in (by omega) (by omega)]; omega
            by_cases hside : ll < rl
            · have hside' : (ll : Int) < rl := by omega
              simp [← hD7, e0, e1, e2, e3, e4, e10, e11, vll, vrl, hside']
              refine CN.use (ih (mid - a1) (by omega) A7 D7 a1 mid _ rfl rp1 (by omega) rp4 s7 z7) ?_
              rintro _ A8 hw8 hn8 ⟨L8, g1, g2, s8⟩
              have hobt := rp6 L8 g1 g2
              obtain ⟨g3, g4⟩ := hobt
              simp [e0, e1, e2, e3, e4, e10, e11, vm1]
              exact NX.of ⟨b1 - m1, by omega, m1, b1, _, _, _, L8, rfl, by omega, by omega, by omega, by rw [g1.1]; exact z7, by rw [hm1]; exact g3, fun R h1 h2 => by rw [hm1] at h1 h2; obtain ⟨h3, h4⟩ := g4 R h1 h2; exact R5 R h3 h4, s8, by simp [e0], by simp, by simp [e2], by simp [e3] <;> rfl, by simp [e4], by simp <;> rfl, by simp <;> rfl⟩
            · have hside' : ¬ (ll : Int) < rl := by omega
              simp [← hD7, e0, e1, e2, e3, e4, e10, e11, vll, vrl, vm1, hside']
              refine CN.use (ih (b1 - m1) (by omega) A7 D7 m1 b1 _ rfl (by omega) (by omega) (by rw [hm1]; exact rp5) s7 z7) ?_
              rintro _ A8 hw8 hn8 ⟨L8, g1, g2, s8⟩
              rw [hm1] at g1 g2
              have hobt := rp7 L8 g1 g2
              obtain ⟨g3, g4⟩ := hobt
              simp [e0, e1, e2, e3, e4, e10, e11]
              exact NX.of ⟨mid - a1, by omega, a1, mid, _, _, _, L8, rfl, by omega, by omega, by omega, by rw [g1.1]; exact z7, g3, fun R h1 h2 => by obtain ⟨h3, h4⟩ := g4 R h1 h2; exact R5 R h3 h4, s8, by simp [e0], by simp [e1], by simp, by simp [e3] <;> rfl, by simp [e4], by simp <;> rfl, by simp <;> rfl⟩
    · cases wp with
      | false =>
        by_cases ha0 : 0 < a1
        · have ha0' : (0 : Int) < a1 := by omega
          have hexq : ∃ x : Nat, x = a1 - 1 := ⟨_, rfl⟩
          obtain ⟨w, hw⟩ := hexq
          have hww : IntKind.i64.wrap ((a1 : Int) - 1) = (w : Int) := by rw [i64_in (by omega) (by omega)]; omega
          have w1 : w < d1.size := by omega
          have w2 : w < n := by omega
          have q1 : pv < d1.size := by omega
          have q2 : pv < n := by omega
          have hobt := s3.at2 w1 q1
          obtain ⟨cs, k1, ⟨k2, k3⟩, ⟨k4, k5⟩, -, -⟩ := hobt
          simp [-getElem!_pos, e0, e1, e2, e3, e4, e10, e11, x2, ha0, ha0', hww, w2, q2, k1, k2, k3, k4, k5]
          refine CN.use (hc _ s3.ko s3.nx _ _ (s3.q _ w1) (s3.q _ q1)) ?_
          rintro _ A6 hw6 hn6 ⟨r, rfl, hr, x6⟩
          have s6 := s3.ext hw3 x6 hn6
          have hbool := Bool.eq_false_or_eq_true (lt d1[w]! d1[pv]!)
          have hr2 : r < 0 ↔ lt d1[w]! d1[pv]! = true := by rw [← hr]; simp
          rcases hbool with hl | hl
          · have hr' : r < 0 := hr2.2 hl
            simp [e0, e1, e2, e3, e4, e10, e11, x2, hr']
            refine CN.use (partK_ok s6 z1 hc (a := a1) (b := b1) (pv := pv) hpv1 hpv2 (by omega)) ?_
            rintro _ A7 hw7 hn7 ⟨rfl, s7⟩
            have hexq : ∃ x, x = Sort.partition lt d1 a1 b1 pv := ⟨_, rfl⟩
            obtain ⟨⟨mid, ap, D7⟩, hD7⟩ := hexq
            rw [← hD7] at s7
            simp only [] at s7
            have hobt := Sort.round_part hO (Sort.partition_holds lt) hpv1 hpv2 (by omega) bel1 hD7.symm
            obtain ⟨rp1, rp2, rp3, rp4, rp5, rp6, rp7⟩ := hobt
            have z7 : D7.size = n := by rw [rp3]; exact z1
            have hexq : ∃ x : Nat, x = mid - a1 := ⟨_, rfl⟩
            obtain ⟨ll, hll⟩ := hexq
            have hexq : ∃ x : Nat, x = b1 - mid := ⟨_, rfl⟩
            obtain ⟨rl, hrl⟩ := hexq
            have hexq : ∃ x : Nat, x = mid + 1 := ⟨_, rfl⟩
            obtain ⟨m1, hm1⟩ := hexq
            have vll : IntKind.i64.wrap ((mid : Int) - a1) = (ll : Int) := by rw [i64_in (by omega) (by omega)]; omega
            have vrl : IntKind.i64.wrap ((b1 : Int) - mid) = (rl : Int) := by rw [i64_in (by omega) (by omega)]; omega
            have vm1 : IntKind.i64.wrap ((mid : Int) + 1) = (m1 : Int) := by rw [i64_in (by omega) (by omega)]; omega
            by_cases hside : ll < rl
            · have hside' : (ll : Int) < rl := by omega
              simp [← hD7, e0, e1, e2, e3, e4, e10, e11, vll, vrl, hside']
              refine CN.use (ih (mid - a1) (by omega) A7 D7 a1 mid _ rfl rp1 (by omega) rp4 s7 z7) ?_
              rintro _ A8 hw8 hn8 ⟨L8, g1, g2, s8⟩
              have hobt := rp6 L8 g1 g2
              obtain ⟨g3, g4⟩ := hobt
              simp [e0, e1, e2, e3, e4, e10, e11, vm1]
              exact NX.of ⟨b1 - m1, by omega, m1, b1, _, _, _, L8, rfl, by omega, by omega, by omega, by rw [g1.1]; exact z7, by rw [hm1]; exact g3, fun R h1 h2 => by rw [hm1] at h1 h2; obtain ⟨h3, h4⟩ := g4 R h1 h2; exact R1 R h3 h4, s8, by simp [e0], by simp, by simp [e2], by simp [e3] <;> rfl, by simp [e4], by simp <;> rfl, by simp <;> rfl⟩
            · have hside' : ¬ (ll : Int) < rl := by omega
              simp [← hD7, e0, e1, e2, e3, e4, e10, e11, vll, vrl, vm1, hside']
              refine CN.use (ih (b1 - m1) (by omega) A7 D7 m1 b1 _ rfl (by omega) (by omega) (by rw [hm1]; exact rp5) s7 z7) ?_
              rintro _ A8 hw8 hn8 ⟨L8, g1, g2, s8⟩
              rw [hm1] at g1 g2
              have hobt := rp7 L8 g1 g2
              obtain ⟨g3, g4⟩ := hobt
              simp [e0, e1, e2, e3, e4, e10, e11]
              exact NX.of ⟨mid - a1, by omega, a1, mid, _, _, _, L8, rfl, by omega, by omega, by omega, by rw [g1.1]; exact z7, g3, fun R h1 h2 => by obtain ⟨h3, h4⟩ := g4 R h1 h2; exact R1 R h3 h4, s8, by simp [e0], by simp [e1], by simp, by simp [e3] <;> rfl, by simp [e4], by simp <;> rfl, by simp <;> rfl⟩
          · have hr' : ¬ r < 0 := fun h => by rw [hr2, hl] at h; cases h
            simp [e0, e1, e2, e3, e4, e10, e11, x2, hr']
            refine CN.use (pareqK_ok s6 z1 hc (a := a1) (b := b1) (pv := pv) hpv1 hpv2 (by omega)) ?_
            rintro _ A7 hw7 hn7 ⟨rfl, s7⟩
            have hexq : ∃ x, x = Sort.partitionEqual lt d1 a1 b1 pv := ⟨_, rfl⟩
            obtain ⟨⟨mid, D7⟩, hD7⟩ := hexq
            rw [← hD7] at s7
            simp only [] at s7
            rw [hw] at hl
            have hobt := Sort.round_eq hO (Sort.partitionEqual_holds lt) ha0 hpv1 hpv2 (by omega) bel1 hl hD7.symm
            obtain ⟨rp1, rp2, rp3, rp4, rp5⟩ := hobt
            simp [← hD7, e0, e1, e2, e3, e4, e10, e11]
            exact NX.of ⟨b1 - mid, by omega, mid, b1, _, _, _, D7, rfl, by omega, by omega, by omega, by rw [rp3]; exact z1, rp4, fun R h1 h2 => by obtain ⟨h3, h4⟩ := rp5 R h1 h2; exact R1 R h3 h4, s7, by simp [e0], by simp, by simp [e2], by simp [e3] <;> rfl, by simp [e4], by simp [e10] <;> rfl, by simp [e11] <;> rfl⟩
        · have ha0' : ¬ (0 : Int) < a1 := by omega
          simp [e0, e1, e2, e3, e4, e10, e11, x2, ha0, ha0']
          refine CN.use (partK_ok s3 z1 hc (a := a1) (b := b1) (pv := pv) hpv1 hpv2 (by omega)) ?_
          rintro _ A7 hw7 hn7 ⟨rfl, s7⟩
          have hexq : ∃ x, x = Sort.partition lt d1 a1 b1 pv := ⟨_, rfl⟩
          obtain ⟨⟨mid, ap, D7⟩, hD7⟩ := hexq
          rw [← hD7] at s7
          simp only [] at s7
          have hobt := Sort.round_part hO (Sort.partition_holds lt) hpv1 hpv2 (by omega) bel1 hD7.symm
          obtain ⟨rp1, rp2, rp3, rp4, rp5, rp6, rp7⟩ := hobt
          have z7 : D7.size = n := by rw [rp3]; exact z1
          have hexq : ∃ x : Nat, x = mid - a1 := ⟨_, rfl⟩
          obtain ⟨ll, hll⟩ := hexq
          have hexq : ∃ x : Nat, x = b1 - mid := ⟨_, rfl⟩
          obtain ⟨rl, hrl⟩ := hexq
          have hexq : ∃ x : Nat, x = mid + 1 := ⟨_, rfl⟩
          obtain ⟨m1, hm1⟩ := hexq
          have vll : IntKind.i64.wrap ((mid : Int) - a1) = (ll : Int) := by rw [i64_in (by omega) (by omega)]; omega
          have vrl : IntKind.i64.wrap ((b1 : Int) - mid) = (rl : Int) := by rw [i64_in (by omega) (by omega)]; omega
          have vm1 : IntKind.i64.wrap ((mid : Int) + 1) = (m1 : Int) := by rw [i64_in (by omega) (by omega)]; omega
          by_cases hside : ll < rl
          · have hside' : (ll : Int) < rl := by omega
            simp [← hD7, e0, e1, e2, e3, e4, e10, e11, vll, vrl, hside']
            refine CN.use (ih (mid - a1) (by omega) A7 D7 a1 mid _ rfl rp1 (by omega) rp4 s7 z7) ?_
            rintro _ A8 hw8 hn8 ⟨L8, g1, g2, s8⟩
            have hobt := rp6 L8 g1 g2
            obtain ⟨g3, g4⟩ := hobt
            simp [e0, e1, e2, e3, e4, e10, e11, vm1]
            exact NX.of ⟨b1 - m1, by omega, m1, b1, _, _, _, L8, rfl, by omega, by omega, by omega, by rw [g1.1]; exact z7, by rw [hm1]; exact g3, fun R h1 h2 => by rw [hm1] at h1 h2; obtain ⟨h3, h4⟩ := g4 R h1 h2; exact R1 R h3 h4, s8, by simp [e0], by simp, by simp [e2], by simp [e3] <;> rfl, by simp [e4], by simp <;> rfl, by simp <;> rfl⟩
          · have hside' : ¬ (ll : Int) < rl := by omega
            simp [← hD7, e0, e1, e2, e3, e4, e10, e11, vll, vrl, vm1, hside']
            refine CN.use (ih (b1 - m1) (by omega) A7 D7 m1 b1 _ rfl (by omega) (by omega) (by rw [hm1]; exact rp5) s7 z7) ?_
            rintro _ A8 hw8 hn8 ⟨L8, g1, g2, s8⟩
            rw [hm1] at g1 g2
            have hobt := rp7 L8 g1 g2
            obtain ⟨g3, g4⟩ := hobt
            simp [e0, e1, e2, e3, e4, e10, e11]
            exact NX.of ⟨mid - a1, by omega, a1, mid, _, _, _, L8, rfl, by omega, by omega, by omega, by rw [g1.1]; exact z7, g3, fun R h1 h2 => by obtain ⟨h3, h4⟩ := g4 R h1 h2; exact R1 R h3 h4, s8, by simp [e0], by simp [e1], by simp, by simp [e3] <;> rfl, by simp [e4], by simp <;> rfl, by simp <;> rfl⟩
      | true =>
        by_cases x1 : x = 1
        · simp [e0, e1, e2, e3, e4, e10, e11, x2, x1]
          refine CN.use (pinsK_ok s3 z1 hc (a := a1) (b := b1) (by omega) (by omega)) ?_
          rintro _ A5 hw5 hn5 ⟨rfl, s5⟩
          have hpi := Sort.partialInsertionSort_holds hO _ a1 b1 (by omega) (by rw [z1]; omega) bel1
          have hexD : ∃ x, x = Sort.partialInsertionSort lt d1 a1 b1 := ⟨_, rfl⟩
          obtain ⟨⟨D5, ok5⟩, hD5⟩ := hexD
          rw [← hD5] at s5 hpi
          simp only [] at s5 hpi
          obtain ⟨p5, p6⟩ := hpi
          have z5 : D5.size = n := by rw [p5.1]; exact z1
          cases ok5 with
          | true =>
            simp [← hD5]
            have hobt := R1 _ p5 (p6 rfl)
            obtain ⟨g1, g2⟩ := hobt
            exact DN.of ⟨_, g1, g2, s5⟩
          | false =>
            have bel5 := Sort.Below.permA Sort.permIn_all (by rw [z1]; omega) bel1 p5
            have R5 := fun R h1 h2 => R1 R (Sort.permIn_trans _ _ _ _ _ p5 h1) h2
            have x9 : True := trivial
            by_cases ha0 : 0 < a1
            · have ha0' : (0 : Int) < a1 := by omega
              have hexq : ∃ x : Nat, x = a1 - 1 := ⟨_, rfl⟩
              obtain ⟨w, hw⟩ := hexq
              have hww : IntKind.i64.wrap ((a1 : Int) - 1) = (w : Int) := by rw [i64_in (by omega) (by omega)]; omega
              have w1 : w < D5.size := by omega
              have w2 : w < n := by omega
              have q1 : pv < D5.size := by omega
              have q2 : pv < n := by omega
              have hobt := s5.at2 w1 q1
              obtain ⟨cs, k1, ⟨k2, k3⟩, ⟨k4, k5⟩, -, -⟩ := hobt
              simp [-getElem!_pos, e0, e1, e2, e3, e4, e10, e11, ← hD5, ha0, ha0', hww, w2, q2, k1, k2, k3, k4, k5]
              refine CN.use (hc _ s5.ko s5.nx _ _ (s5.q _ w1) (s5.q _ q1)) ?_
              rintro _ A6 hw6 hn6 ⟨r, rfl, hr, x6⟩
              have s6 := s5.ext hw5 x6 hn6
              have hbool := Bool.eq_false_or_eq_true (lt D5[w]! D5[pv]!)
              have hr2 : r < 0 ↔ lt D5[w]! D5[pv]! = true := by rw [← hr]; simp
              rcases hbool with hl | hl
              · have hr' : r < 0 := hr2.2 hl
                simp [e0, e1, e2, e3, e4, e10, e11, ← hD5, hr']
                refine CN.use (partK_ok s6 z5 hc (a := a1) (b := b1) (pv := pv) hpv1 hpv2 (by omega)) ?_
                rintro _ A7 hw7 hn7 ⟨rfl, s7⟩
                have hexq : ∃ x, x = Sort.partition lt D5 a1 b1 pv := ⟨_, rfl⟩
                obtain ⟨⟨mid, ap, D7⟩, hD7⟩ := hexq
                rw [← hD7] at s7
                simp only [] at s7
                have hobt := Sort.round_part hO (Sort.partition_holds lt) hpv1 hpv2 (by omega) bel5 hD7.symm
                obtain ⟨rp1, rp2, rp3, rp4, rp5, rp6, rp7⟩ := hobt
                have z7 : D7.size = n := by rw [rp3]; exact z5
                have hexq : ∃ x : Nat, x = mid - a1 := ⟨_, rfl⟩
                obtain ⟨ll, hll⟩ := hexq
                have hexq : ∃ x : Nat, x = b1 - mid := ⟨_, rfl⟩
                obtain ⟨rl, hrl⟩ := hexq
                have hexq : ∃ x : Nat, x = mid + 1 := ⟨_, rfl⟩
                obtain ⟨m1, hm1⟩ := hexq
                have vll : IntKind.i64.wrap ((mid : Int) - a1) = (ll : Int) := by rw [i64_in (by omega) (by omega)]; omega
                have vrl : IntKind.i64.wrap ((b1 : Int) - mid) = (rl : Int) := by rw [i64_in (by omega) (by omega)]; omega
                have vm1 : IntKind.i64.wrap ((mid : Int) + 1) = (m1 : Int) := by rw [i64_in (by omega) (by omega)]; omega
                by_cases hside : ll < rl
                · have hside' : (ll : Int) < rl := by omega
                  simp [← hD7, e0, e1, e2, e3, e4, e10, e11, vll, vrl, hside']
                  refine CN.use (ih (mid - a1) (by omega) A7 D7 a1 mid _ rfl rp1 (by omega) rp4 s7 z7) ?_
                  rintro _ A8 hw8 hn8 ⟨L8, g1, g2, s8⟩
                  have hobt := rp6 L8 g1 g2
                  obtain ⟨g3, g4⟩ := hobt
                  simp [e0, e1, e2, e3, e4, e10, e11, vm1]
                  exact NX.of ⟨b1 - m1, by omega, m1, b1, _, _, _, L8, rfl, by omega, by omega, by omega, by rw [g1.1]; exact z7, by rw [hm1]; exact g3, fun R h1 h2 => by rw [hm1] at h1 h2; obtain ⟨h3, h4⟩ := g4 R h1 h2; exact R5 R h3 h4, s8, by simp [e0], by simp, by simp [e2], by simp [e3] <;> rfl, by simp [e4], by simp <;> rfl, by simp <;> rfl⟩
                · have hside' : ¬ (ll : Int) < rl := by omega
                  simp [← hD7, e0, e1, e2, e3, e4, e10, e11, vll, vrl, vm1, hside']
                  refine CN.use (ih (b1 - m1) (by omega) A7 D7 m1 b1 _ rfl (by omega) (by omega) (by rw [hm1]; exact rp5) s7 z7) ?_
                  rintro _ A8 hw8 hn8 ⟨L8, g1, g2, s8⟩
                  rw [hm1] at g1 g2
                  have hobt := rp7 L8 g1 g2
                  obtain ⟨g3, g4⟩ := hobt
                  simp [e0, e1, e2, e3, e4, e10, e11]
                  exact NX.of ⟨mid - a1, by omega, a1, mid, _, _, _, L8, rfl, by omega, by omega, by omega, by rw [g1.1]; exact z7, g3, fun R h1 h2 => by obtain ⟨h3, h4⟩ := g4 R h1 h2; exact R5 R h3 h4, s8, by simp [e0], by simp [e1], by simp, by simp [e3] <;> rfl, by simp [e4], by simp <;> rfl, by simp <;> rfl⟩
              · have hr' : ¬ r < 0 := fun h => by rw [hr2, hl] at h; cases h
                simp [e0, e1, e2, e3, e4, e10, e11, ← hD5, hr']
                refine CN.use (pareqK_ok s6 z5 hc (a := a1) (b := b1) (pv := pv) hpv1 hpv2 (by omega)) ?_
                rintro _ A7 hw7 hn7 ⟨rfl, s7⟩
                have hexq : ∃ x, x = Sort.partitionEqual lt D5 a1 b1 pv := ⟨_, rfl⟩
                obtain ⟨⟨mid, D7⟩, hD7⟩ := hexq
                rw [← hD7] at s7
                simp only [] at s7
                rw [hw] at hl
                have hobt := Sort.round_eq hO (Sort.partitionEqual_holds lt) ha0 hpv1 hpv2 (by omega) bel5 hl hD7.symm
                obtain ⟨rp1, rp2, rp3, rp4, rp5⟩ := hobt
                simp [← hD7, e0, e1, e2, e3, e4, e10, e11]
                exact NX.of ⟨b1 - mid, by omega, mid, b1, _, _, _, D7, rfl, by omega, by omega, by omega, by rw [rp3]; exact z5, rp4, fun R h1 h2 => by obtain ⟨h3, h4⟩ := rp5 R h1 h2; exact R5 R h3 h4, s7, by simp [e0], by simp, by simp [e2], by simp [e3] <;> rfl, by simp [e4], by simp [e10] <;> rfl, by simp [e11] <;> rfl⟩
            · have ha0' : ¬ (0 : Int) < a1 := by omega
              simp [e0, e1, e2, e3, e4, e10, e11, ← hD5, ha0, ha0']
              refine CN.use (partK_ok s5 z5 hc (a := a1) (b := b1) (pv := pv) hpv1 hpv2 (by omega)) ?_
              rintro _ A7 hw7 hn7 ⟨rfl, s7⟩
              have hexq : ∃ x, x = Sort.partition lt D5 a1 b1 pv := ⟨_, rfl⟩
              obtain ⟨⟨mid, ap, D7⟩, hD7⟩ := hexq
              rw [← hD7] at s7
              simp only [] at s7
              have hobt := Sort.round_part hO (Sort.partition_holds lt) hpv1 hpv2 (by omega) bel5 hD7.symm
              obtain ⟨rp1, rp2, rp3, rp4, rp5, rp6, rp7⟩ := hobt
              have z7 : D7.size = n := by rw [rp3]; exact z5
              have hexq : ∃ x : Nat, x = mid - a1 := ⟨_, rfl⟩
              obtain ⟨ll, hll⟩ := hexq
              have hexq : ∃ x : Nat, x = b1 - mid := ⟨_, rfl⟩
              obtain ⟨rl, hrl⟩ := hexq
              have hexq : ∃ x : Nat, x = mid + 1 := ⟨_, rfl⟩
              obtain ⟨m1, hm1⟩ := hexq
              have vll : IntKind.i64.wrap ((mid : Int) - a1) = (ll : Int) := by rw [i64_in (by omega) (by omega)]; omega
              have vrl : IntKind.i64.wrap ((b1 : Int) - mid) = (rl : Int) := by rw [i64_in (by omega) (by omega)]; omega
              have vm1 : IntKind.i64.wrap ((mid : Int) + 1) = (m1 : Int) := by rw [i64_in (by omega) (by omega)]; omega
              by_cases hside : ll < rl
              · have hside' : (ll : Int) < rl := by omega
                simp [← hD7, e0, e1, e2, e3, e4, e10, e11, vll, vrl, hside']
                refine CN.use (ih (mid - a1) (by omega) A7 D7 a1 mid _ rfl rp1 (by omega) rp4 s7 z7) ?_
                rintro _ A8 hw8 hn8 ⟨L8, g1, g2, s8⟩
                have hobt := rp6 L8 g1 g2
                obtain ⟨g3, g4⟩ := hobt
                simp [e0, e1, e2, e3, e4, e10, e11, vm1]
                exact NX.of ⟨b1 - m1, by omega, m1, b1, _, _, _, L8, rfl, by omega, by omega, by omega, by rw [g1.1]; exact z7, by rw [hm1]; exact g3, fun R h1 h2 => by rw [hm1] at h1 h2; obtain ⟨h3, h4⟩ := g4 R h1 h2; exact R5 R h3 h4, s8, by simp [e0], by simp, by simp [e2], by simp [e3] <;> rfl, by simp [e4], by simp <;> rfl, by simp <;> rfl⟩
              · have hside' : ¬ (ll : Int) < rl := by omega
                simp [← hD7, e0, e1, e2, e3, e4, e10, e11, vll, vrl, vm1, hside']
                refine CN.use (ih (b1 - m1) (by omega) A7 D7 m1 b1 _ rfl (by omega) (by omega) (by rw [hm1]; exact rp5) s7 z7) ?_
                rintro _ A8 hw8 hn8 ⟨L8, g1, g2, s8⟩
                rw [hm1] at g1 g2
                have hobt := rp7 L8 g1 g2
                obtain ⟨g3, g4⟩ := hobt
                simp [e0, e1, e2, e3, e4, e10, e11]
                exact NX.of ⟨mid - a1, by omega, a1, mid, _, _, _, L8, rfl, by omega, by omega, by omega, by rw [g1.1]; exact z7, g3, fun R h1 h2 => by obtain ⟨h3, h4⟩ := g4 R h1 h2; exact R5 R h3 h4, s8, by simp [e0], by simp [e1], by simp, by simp [e3] <;> rfl, by simp [e4], by simp <;> rfl, by simp <;> rfl⟩
        · have x3 : x ≠ 1 := x1
          by_cases ha0 : 0 < a1
          · have ha0' : (0 : Int) < a1 := by omega
            have hexq : ∃ x : Nat, x = a1 - 1 := ⟨_, rfl⟩
            obtain ⟨w, hw⟩ := hexq
            have hww : IntKind.i64.wrap ((a1 : Int) - 1) = (w : Int) := by rw [i64_in (by omega) (by omega)]; omega
            have w1 : w < d1.size := by omega
            have w2 : w < n := by omega
            have q1 : pv < d1.size := by omega
            have q2 : pv < n := by omega
            have hobt := s3.at2 w1 q1
            obtain ⟨cs, k1, ⟨k2, k3⟩, ⟨k4, k5⟩, -, -⟩ := hobt
            simp [-getElem!_pos, e0, e1, e2, e3, e4, e10, e11, x2, x1, ha0, ha0', hww, w2, q2, k1, k2, k3, k4, k5]
            refine CN.use (hc _ s3.ko s3.nx _ _ (s3.q _ w1) (s3.q _ q1)) ?_
            rintro _ A6 hw6 hn6 ⟨r, rfl, hr, x6⟩
            have s6 := s3.ext hw3 x6 hn6
            have hbool := Bool.eq_false_or_eq_true (lt d1[w]! d1[pv]!)
            have hr2 : r < 0 ↔ lt d1[w]! d1[pv]! = true := by rw [← hr]; simp
            rcases hbool with hl | hl
            · have hr' : r < 0 := hr2.2 hl
              simp [e0, e1, e2, e3, e4, e10, e11, x2, x1, hr']
              refine CN.use (partK_ok s6 z1 hc (a := a1) (b := b1) (pv := pv) hpv1 hpv2 (by omega)) ?_
              rintro _ A7 hw7 hn7 ⟨rfl, s7⟩
              have hexq : ∃ x, x = Sort.partition lt d1 a1 b1 pv := ⟨_, rfl⟩
              obtain ⟨⟨mid, ap, D7⟩, hD7⟩ := hexq
              rw [← hD7] at s7
              simp only [] at s7
              have hobt := Sort.round_part hO (Sort.partition_holds lt) hpv1 hpv2 (by omega) bel1 hD7.symm
              obtain ⟨rp1, rp2, rp3, rp4, rp5, rp6, rp7⟩ := hobt
              have z7 : D7.size = n := by rw [rp3]; exact z1
              have hexq : ∃ x : Nat, x = mid - a1 := ⟨_, rfl⟩
              obtain ⟨ll, hll⟩ := hexq
              have hexq : ∃ x : Nat, x = b1 - mid := ⟨_, rfl⟩
              obtain ⟨rl, hrl⟩ := hexq
              have hexq : ∃ x : Nat, x = mid + 1 := ⟨_, rfl⟩
              obtain ⟨m1, hm1⟩ := hexq
              have vll : IntKind.i64.wrap ((mid : Int) - a1) = (ll : Int) := by rw [i64_in (by omega) (by omega)]; omega
              have vrl : IntKind.i64.wrap ((b1 : Int) - mid) = (rl : Int) := by rw [i64_in (by omega) (by omega)]; omega
              have vm1 : IntKind.i64.wrap ((mid : Int) + 1) = (m1 : Int) := by rw [i64_in (by omega) (by omega)]; omega
              by_cases hside : ll < rl
              · have hside' : (ll : Int) < rl := by omega
                simp [← hD7, e0, e1, e2, e3, e4, e10, e11, vll, vrl, hside']
                refine CN.use (ih (mid - a1) (by omega) A7 D7 a1 mid _ rfl rp1 (by omega) rp4 s7 z7) ?_
                rintro _ A8 hw8 hn8 ⟨L8, g1, g2, s8⟩
                have hobt := rp6 L8 g1 g2
                obtain ⟨g3, g4⟩ := hobt
                simp [e0, e1, e2, e3, e4, e10, e11, vm1]
                exact NX.of ⟨b1 - m1, by omega, m1, b1, _, _, _, L8, rfl, by omega, by omega, by omega, by rw [g1.1]; exact z7, by rw [hm1]; exact g3, fun R h1 h2 => by rw [hm1] at h1 h2; obtain ⟨h3, h4⟩ := g4 R h1 h2; exact R1 R h3 h4, s8, by simp [e0], by simp, by simp [e2], by simp [e3] <;> rfl, by simp [e4], by simp <;> rfl, by simp <;> rfl⟩
              · have hside' : ¬ (ll : Int) < rl := by omega
                simp [← hD7, e0, e1, e2, e3, e4, e10, e11, vll, vrl, vm1, hside']
                refine CN.use (ih (b1 - m1) (by omega) A7 D7 m1 b1 _ rfl (by omega) (by omega) (by rw [hm1]; exact rp5) s7 z7) ?_
                rintro _ A8 hw8 hn8 ⟨L8, g1, g2, s8⟩
                rw [hm1] at g1 g2
                have hobt := rp7 L8 g1 g2
                obtain ⟨g3, g4⟩ := hobt
                simp [e0, e1, e2, e3, e4, e10, e11]
                exact NX.of ⟨mid - a1, by omega, a1, mid, _, _, _, L8, rfl, by omega, by omega, by omega, by rw [g1.1]; exact z7, g3, fun R h1 h2 => by obtain ⟨h3, h4⟩ := g4 R h1 h2; exact R1 R h3 h4, s8, by simp [e0], by simp [e1], by simp, by simp [e3] <;> rfl, by simp [e4], by simp <;> rfl, by simp <;> rfl⟩
            · have hr' : ¬ r < 0 := fun h => by rw [hr2, hl] at h; cases h
              simp [e0, e1, e2, e3, e4, e10, e11, x2, x1, hr']
              refine CN.use (pareqK_ok s6 z1 hc (a := a1) (b := b1) (pv := pv) hpv1 hpv2 (by omega)) ?_
              rintro _ A7 hw7 hn7 ⟨rfl, s7⟩
              have hexq : ∃ x, x = Sort.partitionEqual lt d1 a1 b1 pv := ⟨_, rfl⟩
              obtain ⟨⟨mid, D7⟩, hD7⟩ := hexq
              rw [← hD7] at s7
              simp only [] at s7
              rw [hw] at hl
              have hobt := Sort.round_eq hO (Sort.partitionEqual_holds lt) ha0 hpv1 hpv2 (by omega) bel1 hl hD7.symm
              obtain ⟨rp1, rp2, rp3, rp4, rp5⟩ := hobt
              simp [← hD7, e0, e1, e2, e3, e4, e10, e11]
              exact NX.of ⟨b1 - mid, by omega, mid, b1, _, _, _, D7, rfl, by omega, by omega, by omega, by rw [rp3]; exact z1, rp4, fun R h1 h2 => by obtain ⟨h3, h4⟩ := rp5 R h1 h2; exact R1 R h3 h4, s7, by simp [e0], by simp, by simp [e2], by simp [e3] <;> rfl, by simp [e4], by simp [e10] <;> rfl, by simp [e11] <;> rfl⟩
          · have ha0' : ¬ (0 : Int) < a1 := by omega
            simp [e0, e1, e2, e3, e4, e10, e11, x2, x1, ha0, ha0']
            refine CN.use (partK_ok s3 z1 hc (a := a1) (b := b1) (pv := pv) hpv1 hpv2 (by omega)) ?_
            rintro _ A7 hw7 hn7 ⟨rfl, s7⟩
            have hexq : ∃ x, x = Sort.partition lt d1 a1 b1 pv := ⟨_, rfl⟩
            obtain ⟨⟨mid, ap, D7⟩, hD7⟩ := hexq
            rw [← hD7] at s7
            simp only [] at s7
            have hobt := Sort.round_part hO (Sort.partition_holds lt) hpv1 hpv2 (by omega) bel1 hD7.symm
            obtain ⟨rp1, rp2, rp3, rp4, rp5, rp6, rp7⟩ := hobt
            have z7 : D7.size = n := by rw [rp3]; exact z1
            have hexq : ∃ x : Nat, x = mid - a1 := ⟨_, rfl⟩
            obtain ⟨ll, hll⟩ := hexq
            have hexq : ∃ x : Nat, x = b1 - mid := ⟨_, rfl⟩
            obtain ⟨rl, hrl⟩ := hexq
            have hexq : ∃ x : Nat, x = mid + 1 := ⟨_, rfl⟩
            obtain ⟨m1, hm1⟩ := hexq
            have vll : IntKind.i64.wrap ((mid : Int) - a1) = (ll : Int) := by rw [i64_in (by omega) (by omega)]; omega
            have vrl : IntKind.i64.wrap ((b1 : Int) - mid) = (rl : Int) := by rw [i64_in (by omega) (by omega)]; omega
            have vm1 : IntKind.i64.wrap ((mid : Int) + 1) = (m1 : Int) := by rw [i64_in (by omega) (by omega)]; omega
            by_cases hside : ll < rl
            · have hside' : (ll : Int) < rl := by omega
              simp [← hD7, e0, e1, e2, e3, e4, e10, e11, vll, vrl, hside']
              refine CN.use (ih (mid - a1) (by omega) A7 D7 a1 mid _ rfl rp1 (by omega) rp4 s7 z7) ?_
              rintro _ A8 hw8 hn8 ⟨L8, g1, g2, s8⟩
              have hobt := rp6 L8 g1 g2
              obtain ⟨g3, g4⟩ := hobt
              simp [e0, e1, e2, e3, e4, e10, e11, vm1]
              exact NX.of ⟨b1 - m1, by omega, m1, b1, _, _, _, L8, rfl, by omega, by omega, by omega, by rw [g1.1]; exact z7, by rw [hm1]; exact g3, fun R h1 h2 => by rw [hm1] at h1 h2; obtain ⟨h3, h4⟩ := g4 R h1 h2; exact R1 R h3 h4, s8, by simp [e0], by simp, by simp [e2], by simp [e3] <;> rfl, by simp [e4], by simp <;> rfl, by simp <;> rfl⟩
            · have hside' : ¬ (ll : Int) < rl := by omega
              simp [← hD7, e0, e1, e2, e3, e4, e10, e11, vll, vrl, vm1, hside']
              refine CN.use (ih (b1 - m1) (by omega) A7 D7 m1 b1 _ rfl (by omega) (by omega) (by rw [hm1]; exact rp5) s7 z7) ?_
              rintro _ A8 hw8 hn8 ⟨L8, g1, g2, s8⟩
              rw [hm1] at g1 g2
              have hobt := rp7 L8 g1 g2
              obtain ⟨g3, g4⟩ := hobt
              simp [e0, e1, e2, e3, e4, e10, e11]
              exact NX.of ⟨mid - a1, by omega, a1, mid, _, _, _, L8, rfl, by omega, by omega, by omega, by rw [g1.1]; exact z7, g3, fun R h1 h2 => by obtain ⟨h3, h4⟩ := g4 R h1 h2; exact R1 R h3 h4, s8, by simp [e0], by simp [e1], by simp, by simp [e3] <;> rfl, by simp [e4], by simp <;> rfl, by simp <;> rfl⟩
end
end Go.Proofs.Ytieehccjajhpfaa.AC
/- Sorting keys: slices.SortFunc. -/
namespace Go.Proofs.Ytieehccjajhpfaa.AC
open Go Go.AI Go.Proofs Go.Proofs.Ytieehccjajhpfaa.AQ
set_option linter.unusedVariables false
section
variable {Q : Key → Prop} {A0 A A' : AH} {ob : Option Nat} {v : Value} {d : Array Key} {lt : Key → Key → Bool} {f : FuncId}
theorem pdqzK_ok (hc : CmpK A0 ob Q lt f) (h : SSK Q A0 A ob v d) (hz : d.size = 0) (lim : Int) :
    ACall Try.prog 67 [v, .int .i64 0, .int .i64 0, .int .i64 lim, .func (.func f) #[] #[]] A fun _ A' => SSK Q A0 A' ob v (Sort.insertionSort lt d 0 0) := by
  have hw : IntKind.i64.wrap 0 = 0 := by decide
  have hins := inssK_ok h hc (a := 0) (b := 0) (by omega) (by omega)
  refine code67.call (by simp) fun hwf => ?_
  unfold c67
  simp
  refine LN.use (fun m E A' => A' = A ∧ E.get 0 = v ∧ E.get 1 = .int .i64 0 ∧ E.get 2 = .int .i64 0 ∧ E.get 4 = .func (.func f) #[] #[]) 0
    ⟨rfl, by simp, by simp, by simp, by simp⟩ ?_
  rintro m E A1 hw1 hn1 ⟨rfl, e0, e1, e2, e4⟩
  simp [e0, e1, e2, e4, hw]
  refine CN.use hins ?_
  rintro _ A2 hw2 hn2 s2
  simp
  exact DN.of s2
theorem sortK_ok (hO : Sort.SWO lt) (hc : CmpK A0 ob Q lt f) (h : SSK Q A0 A ob v d) (hn : d.size < 256) :
    ACall Try.prog 48 [v, .func (.func f) #[] #[]] A fun _ A' => ∃ d', Sort.PermIn 0 d.size d d' ∧ Sort.SortedIn lt 0 d.size d' ∧ SSK Q A0 A' ob v d' := by
  have hobt := h.lq.sl
  obtain ⟨a, c, hv, -⟩ := hobt
  rw [List.length_map, Array.length_toList] at hv
  have hwn : IntKind.u64.wrap ((d.size : Nat) : Int) = ((d.size : Nat) : Int) := by rw [wrap64]; omega
  by_cases h0 : d.size = 0
  · have hpz := fun lim => pdqzK_ok hc h h0 lim
    have hobt := Sort.insertionSort_holds hO d 0 0 (Nat.le_refl _) (by omega)
    obtain ⟨p1, p2⟩ := hobt
    subst hv
    refine code48.call (by simp) fun hwf => ?_
    unfold c48
    simp [hwn]
    refine CN.use (len_ok d.size hn A) ?_
    rintro _ A2 - - ⟨⟨l, rfl, -⟩, rfl⟩
    simp
    rw [h0] at hpz ⊢
    refine CN.use (hpz l) ?_
    rintro _ A3 hw3 hn3 s3
    simp
    exact DN.of ⟨_, p1, p2, s3⟩
  · obtain ⟨bb, c', rfl, hv'⟩ := h.form (by omega)
    subst hv'
    have hb0 : Sort.Below lt 0 d.size d := Or.inl rfl
    refine code48.call (by simp) fun hwf => ?_
    unfold c48
    simp [hwn]
    refine CN.use (len_ok d.size hn A) ?_
    rintro _ A2 - - ⟨⟨l, rfl, -⟩, rfl⟩
    simp
    refine CN.use (pdqK_ok hO hn hc d.size _ d 0 d.size l (by omega) (by omega) (Nat.le_refl _) hb0 h rfl) ?_
    rintro _ A3 hw3 hn3 ⟨d', p1, p2, s3⟩
    simp
    exact DN.of ⟨d', p1, p2, s3⟩
end
end Go.Proofs.Ytieehccjajhpfaa.AC
/- Sorting pointers: the memory of it. -/
namespace Go.Proofs.Ytieehccjajhpfaa.AC
open Go Go.AI Go.Proofs Go.Proofs.Ytieehccjajhpfaa.AQ
set_option linter.unusedVariables false
def ptrE (p : Nat) : List Value := [.pointer (some ⟨p, 0, none⟩)]
def ptrV (p : Nat) : Value := .pointer (some ⟨p, 0, none⟩)
/-- What is sorted lies in a block of its own; all else is as it was. -/
structure SSF (Q : Nat → Prop) (A0 A : AH) (ob : Option Nat) (v : Value) (d : Array Nat) : Prop where
  lq : Lq A 86 1 ob v (d.toList.map ptrE)
  ko : ∀ b, b < A0.next → ob ≠ some b → A.get b = A0.get b
  nx : A0.next ≤ A.next
  q : ∀ i, i < d.size → Q d[i]!
  sz : d.size ≤ 100000
section
variable {Q : Nat → Prop} {A0 A A' : AH} {ob : Option Nat} {v : Value} {d : Array Nat}
theorem SSF.ext (h : SSF Q A0 A ob v d) (hw : A.wf) (hx : Ext A A') (hn : A.next ≤ A'.next) : SSF Q A0 A' ob v d :=
  ⟨h.lq.kept fun b hb => hx b (h.lq.lt hw hb), fun b b1 b2 => by rw [hx b (by have := h.nx; omega)]; exact h.ko b b1 b2, by have := h.nx; omega, h.q, h.sz⟩
/-- What the sort is given to compare by. -/
def CmpF (A0 : AH) (ob : Option Nat) (Q : Nat → Prop) (lt : Nat → Nat → Bool) (f : FuncId) : Prop :=
  ∀ A1 : AH, (∀ b, b < A0.next → ob ≠ some b → A1.get b = A0.get b) → A0.next ≤ A1.next → ∀ x y, Q x → Q y → ACall Try.prog f [ptrV x, ptrV y] A1 fun v A' => ∃ r, v = .int .i64 r ∧ decide (r < 0) = lt x y ∧ Ext A1 A'
theorem SSF.two (h : SSF Q A0 A ob v d) {i j : Nat} (hi : i < d.size) (hj : j < d.size) : ∃ b c cs, v = .slice (some ⟨b, 0, none⟩) d.size c ∧ A.get b = some (.row cs 86 false) ∧ ob = some b ∧ (i + 1 ≤ cs.length ∧ cs[i]? = some (.pointer (some ⟨d[i]!, 0, none⟩))) ∧ (j + 1 ≤ cs.length ∧ cs[j]? = some (.pointer (some ⟨d[j]!, 0, none⟩))) ∧ (spl cs i [.pointer (some ⟨d[j]!, 0, none⟩)]).length = cs.length ∧
    (∀ A' : AH, A'.get b = some (.row (spl (spl cs i [.pointer (some ⟨d[j]!, 0, none⟩)]) j [.pointer (some ⟨d[i]!, 0, none⟩)]) 86 false) → (∀ k, k < A.next → k ≠ b → A'.get k = A.get k) → A.next ≤ A'.next → SSF Q A0 A' ob v (Sort.swp d i j)) := by
  have hobt := h.lq.open2 (i := i) (j := j) (by simpa using hi) (by simpa using hj)
  obtain ⟨b, c, cs, h1, h2, h3, h4, h5, h6, h7, -, -, -, -, h8⟩ := hobt
  simp only [List.getElem_map, Array.getElem_toList, List.length_map, Array.length_toList] at h2 h6 h7 h8
  have ei : d[i]! = d[i] := getElem!_pos d i hi
  have ej : d[j]! = d[j] := getElem!_pos d j hj
  rw [← ei, ← ej] at h8
  rw [← ei] at h6
  rw [← ej] at h7
  have oi : i * 1 = i := by omega
  have oj : j * 1 = j := by omega
  have li : (ptrE d[i]!).length = 1 := rfl
  have lj : (ptrE d[j]!).length = 1 := rfl
  refine ⟨b, c, cs, h2, h3, h1, ⟨by omega, by have := at_cell (i := 0) h6 (by omega); simpa [ptrE] using this⟩, ⟨by omega, by have := at_cell (i := 0) h7 (by omega); simpa [ptrE] using this⟩, spl_length _ _ _ (by rw [← oi]; exact h4), fun A' g1 g2 g3 => ⟨?_, fun k k1 k2 => ?_, by have := h.nx; omega, fun k hk => ?_, by simpa [Sort.swp] using h.sz⟩⟩
  · have e : ((d.toList.map ptrE).set i (ptrE d[j]!)).set j (ptrE d[i]!) = (Sort.swp d i j).toList.map ptrE := by
      unfold Sort.swp
      rw [Array.toList_setIfInBounds, Array.toList_setIfInBounds, List.map_set, List.map_set]
    rw [e, oi, oj] at h8
    refine h8.kept fun k hk => ?_
    rw [h1] at hk; injection hk with hk; subst hk
    rw [g1, AH.get_set, if_pos rfl] <;> rfl
  · have hkb : k ≠ b := fun e => k2 (by rw [h1, e])
    rw [g2 k (by have := h.nx; omega) hkb]; exact h.ko k k1 k2
  · rw [Sort.size_swp] at hk
    rw [Sort.swp_get d hi hj]
    split
    · exact h.q _ hi
    · split
      · exact h.q _ hj
      · exact h.q _ hk
theorem SSF.form (h : SSF Q A0 A ob v d) (h0 : 0 < d.size) : ∃ b c, ob = some b ∧ v = .slice (some ⟨b, 0, none⟩) d.size c := by
  have hobt := h.two h0 h0
  obtain ⟨b, c, cs, h1, -, h2, -⟩ := hobt
  exact ⟨b, c, h2, h1⟩
theorem SSF.at2 {bb n c : Nat} (h : SSF Q A0 A (some bb) (.slice (some ⟨bb, 0, none⟩) n c) d) {i j : Nat} (hi : i < d.size) (hj : j < d.size) : ∃ cs, A.get bb = some (.row cs 86 false) ∧ (i + 1 ≤ cs.length ∧ cs[i]? = some (.pointer (some ⟨d[i]!, 0, none⟩))) ∧ (j + 1 ≤ cs.length ∧ cs[j]? = some (.pointer (some ⟨d[j]!, 0, none⟩))) ∧ (spl cs i [.pointer (some ⟨d[j]!, 0, none⟩)]).length = cs.length ∧
    (∀ A' : AH, A'.get bb = some (.row (spl (spl cs i [.pointer (some ⟨d[j]!, 0, none⟩)]) j [.pointer (some ⟨d[i]!, 0, none⟩)]) 86 false) → (∀ k, k < A.next → k ≠ bb → A'.get k = A.get k) → A.next ≤ A'.next → SSF Q A0 A' (some bb) (.slice (some ⟨bb, 0, none⟩) n c) (Sort.swp d i j)) := by
  have hobt := h.two hi hj
  obtain ⟨b, c', cs, h1, h2, h3, h4, h5, h6, h7⟩ := hobt
  injection h3 with h3
  subst h3
  exact ⟨cs, h2, h4, h5, h6, h7⟩
end
end Go.Proofs.Ytieehccjajhpfaa.AC
/- Sorting pointers: insertions. -/
namespace Go.Proofs.Ytieehccjajhpfaa.AC
open Go Go.AI Go.Proofs Go.Proofs.Ytieehccjajhpfaa.AQ
set_option linter.unusedVariables false
section
variable {Q : Nat → Prop} {A0 A A' : AH} {ob : Option Nat} {v : Value} {d : Array Nat} {lt : Nat → Nat → Bool} {f : FuncId}
theorem insInner_posF {a j : Nat} (haj : a < j) : Sort.insInner lt a j d = if lt d[j]! d[j - 1]! then Sort.insInner lt a (j - 1) (Sort.swp d j (j - 1)) else d := by
  cases j with
  | zero => omega
  | succ j => rw [Sort.insInner, Nat.add_sub_cancel]; simp [show j + 1 > a from haj]
theorem inssF_ok (h : SSF Q A0 A ob v d) (hc : CmpF A0 ob Q lt f) {a b : Nat} (ha : a ≤ d.size) (hb : b ≤ d.size) :
    ACall Try.prog 72 [v, .int .i64 a, .int .i64 b, .func (.func f) #[] #[]] A fun _ A' => SSF Q A0 A' ob v (Sort.insertionSort lt d a b) := by
  have hz := h.sz
  have hw1 : IntKind.i64.wrap ((a : Int) + 1) = ((a + 1 : Nat) : Int) := by rw [i64_in (by omega) (by omega)]; simp
  refine code72.call (by simp) fun hwf => ?_
  unfold c72
  simp
  refine LN.use (fun m E A' => ∃ (k : Nat) (d' : Array Nat), m = b - k ∧ a + 1 ≤ k ∧ k ≤ 100001 ∧ d'.size = d.size ∧ Sort.insOuter lt a b k d' = Sort.insertionSort lt d a b ∧ SSF Q A0 A' ob v d' ∧ E.get 0 = v ∧ E.get 1 = .int .i64 a ∧ E.get 2 = .int .i64 b ∧ E.get 3 = .func (.func f) #[] #[] ∧ E.get 8 = .int .i64 k) (b - (a + 1))
    ⟨a + 1, d, rfl, Nat.le_refl _, by omega, rfl, rfl, h, by simp, by simp, by simp, by simp, by simp [hw1]⟩ ?_
  rintro m E A1 hwA hnA ⟨k, d1, rfl, hk1, hk2, z1, q1, s1, e0, e1, e2, e3, e8⟩
  by_cases hlt : k < b
  rotate_left
  · have hlt' : ¬ (k : Int) < b := by omega
    rw [Sort.insOuter, if_neg hlt] at q1
    simp [e2, e8, hlt']
    exact DN.of (by rw [← q1]; exact s1)
  have hlt' : (k : Int) < b := by omega
  have hgi : IntKind.i64.wrap ((k : Int) + 1) = ((k + 1 : Nat) : Int) := by rw [i64_in (by omega) (by omega)]; simp
  rw [Sort.insOuter, if_pos hlt] at q1
  simp [e0, e1, e2, e3, e8, hlt']
  refine LN.use (fun m E A' => ∃ (j : Nat) (d' : Array Nat), m = j ∧ j < b ∧ d'.size = d.size ∧ Sort.insInner lt a j d' = Sort.insInner lt a k d1 ∧ SSF Q A0 A' ob v d' ∧ E.get 0 = v ∧ E.get 1 = .int .i64 a ∧ E.get 2 = .int .i64 b ∧ E.get 3 = .func (.func f) #[] #[] ∧ E.get 8 = .int .i64 k ∧ E.get 9 = .int .i64 j) k
    ⟨k, d1, rfl, hlt, z1, rfl, s1, by simp [e0], by simp [e1], by simp [e2], by simp [e3], by simp [e8], by simp⟩ ?_
  clear e0 e1 e2 e3 e8
  rintro m E A2 hwB hnB ⟨j, d2, rfl, hj, z2, q2, s2, e0, e1, e2, e3, e8, e9⟩
  have hfin : ∀ d3 : Array Nat, d3 = Sort.insInner lt a k d1 → Sort.insOuter lt a b (k + 1) d3 = Sort.insertionSort lt d a b := fun d3 h3 => by rw [h3]; exact q1
  by_cases hja : a < m
  rotate_left
  · have hja' : ¬ (a : Int) < m := by omega
    have hd2 : d2 = Sort.insInner lt a k d1 := by
      rw [← q2]
      cases m with
      | zero => rfl
      | succ m => rw [Sort.insInner, if_neg (by simp; omega)]
    simp [e1, e2, e3, e8, e9, hja', hgi]
    exact NX.of ⟨b - (k + 1), by omega, k + 1, d2, rfl, by omega, by omega, z2, hfin _ hd2, s2, by simp [e0], by simp [e1], by simp [e2], by simp [e3], by simp⟩
  have hja' : (a : Int) < m := by omega
  have hw2 : IntKind.i64.wrap ((m : Int) - 1) = ((m - 1 : Nat) : Int) := by rw [i64_in (by omega) (by omega)]; omega
  have hm1 : m < d2.size := by omega
  have hm2 : m - 1 < d2.size := by omega
  have hobt := s2.two hm1 hm2
  obtain ⟨bb, c, cs, rfl, g1, hob, ⟨g2, g3⟩, ⟨g4, g5⟩, g6, g7⟩ := hobt
  rw [insInner_posF hja] at q2
  simp [-getElem!_pos, e0, e1, e2, e3, e8, e9, hja', hja, hw2, hm1, hm2, g1, g2, g3, g4, g5]
  refine CN.use (hc A2 s2.ko s2.nx _ _ (s2.q _ hm1) (s2.q _ hm2)) ?_
  rintro _ A3 hwC hnC ⟨r, rfl, hr, x3⟩
  have g1' := x3.get hwB g1
  have hbool := Bool.eq_false_or_eq_true (lt d2[m]! d2[m - 1]!)
  rcases hbool with hl | hl
  · rw [hl] at hr q2
    have hr' : r < 0 := of_decide_eq_true hr
    simp [-getElem!_pos, e0, e1, e2, e3, e8, e9, hja', hr', hw2, hm1, hm2, g1', g2, g3, g4, g5, g6]
    exact NX.of ⟨m - 1, by omega, m - 1, Sort.swp d2 m (m - 1), rfl, by omega, by rw [Sort.size_swp]; exact z2, by rw [← q2]; simp, g7 _ (by rw [AH.get_set, if_pos rfl]) (fun k hk hkb => by rw [AH.get_set, if_neg hkb, x3 k hk]) (by simpa using hnC), by simp [e0], by simp [e1], by simp [e2], by simp [e3], by simp [e8], by simp⟩
  · rw [hl] at hr q2
    have hr' : ¬ r < 0 := of_decide_eq_false hr
    simp [-getElem!_pos, e8, hr', hgi]
    exact NX.of ⟨b - (k + 1), by omega, k + 1, d2, rfl, by omega, by omega, z2, hfin _ (by simpa using q2), s2.ext hwB x3 hnC, by simp [e0], by simp [e1], by simp [e2], by simp [e3], by simp⟩
end
end Go.Proofs.Ytieehccjajhpfaa.AC
/- Sorting pointers: the heap. -/
namespace Go.Proofs.Ytieehccjajhpfaa.AC
open Go Go.AI Go.Proofs Go.Proofs.Ytieehccjajhpfaa.AQ
set_option linter.unusedVariables false
section
variable {Q : Nat → Prop} {A0 A A' : AH} {bb n c : Nat} {d : Array Nat} {lt : Nat → Nat → Bool} {f : FuncId}
theorem sift_posF {hi F root : Nat} {d : Array Nat} (h : 2 * root + 1 < hi) : ∃ ch, (ch = if 2 * root + 2 < hi ∧ lt d[F + (2 * root + 1)]! d[F + (2 * root + 1) + 1]! = true then 2 * root + 2 else 2 * root + 1) ∧ ch < hi ∧ root < ch ∧ Sort.siftDown lt hi F root d = if lt d[F + root]! d[F + ch]! then Sort.siftDown lt hi F ch (Sort.swp d (F + root) (F + ch)) else d := by
  rw [Sort.siftDown, dif_neg (by omega)]
  by_cases hc : 2 * root + 2 < hi ∧ lt d[F + (2 * root + 1)]! d[F + (2 * root + 1) + 1]! = true
  · refine ⟨2 * root + 2, by rw [if_pos hc], hc.1, by omega, ?_⟩
    rw [if_pos (by simp [hc.2]; omega)]
    have hbool := Bool.eq_false_or_eq_true (lt d[F + root]! d[F + (2 * root + 2)]!)
    rcases hbool with hl | hl
    · simp [hl, hc.1]
    · simp [hl]
  · refine ⟨2 * root + 1, by rw [if_neg hc], h, by omega, ?_⟩
    rw [if_neg (by simp only [Bool.and_eq_true, decide_eq_true_eq]; intro h2; exact hc ⟨by omega, h2.2⟩)]
    have hbool := Bool.eq_false_or_eq_true (lt d[F + root]! d[F + (2 * root + 1)]!)
    rcases hbool with hl | hl
    · simp [hl]
    · simp [hl]
set_option maxHeartbeats 1000000 in
theorem siftF_ok (h : SSF Q A0 A (some bb) (.slice (some ⟨bb, 0, none⟩) n c) d) (hz : d.size = n) (hc : CmpF A0 (some bb) Q lt f) {lo hi F : Nat} (hn : F + hi ≤ n) (hlo : lo ≤ n) :
    ACall Try.prog 95 [.slice (some ⟨bb, 0, none⟩) n c, .int .i64 lo, .int .i64 hi, .int .i64 F, .func (.func f) #[] #[]] A fun _ A' => SSF Q A0 A' (some bb) (.slice (some ⟨bb, 0, none⟩) n c) (Sort.siftDown lt hi F lo d) := by
  have hz5 := h.sz
  refine code95.call (by simp) fun hwf => ?_
  unfold c95
  simp
  refine LN.use (fun m E A' => ∃ (root : Nat) (d' : Array Nat), m = hi - root ∧ root ≤ n ∧ d'.size = n ∧ Sort.siftDown lt hi F root d' = Sort.siftDown lt hi F lo d ∧ SSF Q A0 A' (some bb) (.slice (some ⟨bb, 0, none⟩) n c) d' ∧ E.get 0 = .slice (some ⟨bb, 0, none⟩) n c ∧ E.get 1 = .int .i64 lo ∧ E.get 2 = .int .i64 hi ∧ E.get 3 = .int .i64 F ∧ E.get 4 = .func (.func f) #[] #[] ∧ E.get 10 = .int .i64 root) (hi - lo)
    ⟨lo, d, rfl, hlo, hz, rfl, h, by simp, by simp, by simp, by simp, by simp, by simp⟩ ?_
  rintro m E A2 hwB hnB ⟨root, d2, rfl, hroot, z2, q2, s2, e0, e1, e2, e3, e4, e10⟩
  have hexq : ∃ x : Nat, x = 2 * root := ⟨_, rfl⟩
  obtain ⟨r2, hr2e⟩ := hexq
  have hexq : ∃ x : Nat, x = 2 * root + 1 := ⟨_, rfl⟩
  obtain ⟨c1, hc1e⟩ := hexq
  have hexq : ∃ x : Nat, x = 2 * root + 2 := ⟨_, rfl⟩
  obtain ⟨c2, hc2e⟩ := hexq
  have hw1 : IntKind.i64.wrap (2 * (root : Int)) = (r2 : Int) := by rw [i64_in (by omega) (by omega)]; omega
  have hw2 : IntKind.i64.wrap ((r2 : Int) + 1) = (c1 : Int) := by rw [i64_in (by omega) (by omega)]; omega
  have hw3 : IntKind.i64.wrap ((c1 : Int) + 1) = (c2 : Int) := by rw [i64_in (by omega) (by omega)]; omega
  by_cases hend : hi ≤ c1
  · have hend' : (hi : Int) ≤ c1 := by omega
    rw [Sort.siftDown, dif_pos (show 2 * root + 1 ≥ hi by omega)] at q2
    simp [e2, e10, hw1, hw2, hend']
    exact DN.of (by rw [← q2]; exact s2)
  have hend' : ¬ (hi : Int) ≤ c1 := by omega
  have hobt := sift_posF (lt := lt) (F := F) (d := d2) (hi := hi) (root := root) (by omega)
  obtain ⟨ch, hch, hchi, hrc, hq⟩ := hobt
  have hexq : ∃ x : Nat, x = F + root := ⟨_, rfl⟩
  obtain ⟨p0, hp0e⟩ := hexq
  have hexq : ∃ x : Nat, x = F + (2 * root + 1) := ⟨_, rfl⟩
  obtain ⟨p1, hp1e⟩ := hexq
  have hexq : ∃ x : Nat, x = F + (2 * root + 1) + 1 := ⟨_, rfl⟩
  obtain ⟨p2, hp2e⟩ := hexq
  have hexq : ∃ x : Nat, x = F + ch := ⟨_, rfl⟩
  obtain ⟨pc, hpce⟩ := hexq
  have hwp0 : IntKind.i64.wrap ((F : Int) + (root : Int)) = (p0 : Int) := by rw [i64_in (by omega) (by omega)]; omega
  have hwp1 : IntKind.i64.wrap ((F : Int) + (c1 : Int)) = (p1 : Int) := by rw [i64_in (by omega) (by omega)]; omega
  have hwp2 : IntKind.i64.wrap ((p1 : Int) + 1) = (p2 : Int) := by rw [i64_in (by omega) (by omega)]; omega
  have hwpc : IntKind.i64.wrap ((F : Int) + (ch : Int)) = (pc : Int) := by rw [i64_in (by omega) (by omega)]; omega
  have hp0 : p0 < d2.size := by omega
  have hpc : pc < d2.size := by omega
  have hp0n : p0 < n := by omega
  have hpcn : pc < n := by omega
  have hobt := s2.at2 hp0 hpc
  obtain ⟨cs, k1, ⟨k2, k3⟩, ⟨k4, k5⟩, k6, k7⟩ := hobt
  rw [← hp1e, show p1 + 1 = p2 from by omega, ← hc1e, ← hc2e] at hch
  by_cases hc2 : c2 < hi
  rotate_left
  · have hc2' : ¬ (c2 : Int) < hi := by omega
    obtain rfl : ch = c1 := by rw [hch, if_neg (fun h => hc2 h.1)]
    simp [-getElem!_pos, e0, e1, e2, e3, e4, e10, hw1, hw2, hw3, hend', hc2', hwp0, hwpc, hp0n, hpcn, k1, k2, k3, k4, k5]
    refine CN.use (hc A2 s2.ko s2.nx _ _ (s2.q _ hp0) (s2.q _ hpc)) ?_
    rintro _ A4 hwD hnD ⟨r2, rfl, hr2, x4⟩
    have k1' := x4.get hwB k1
    have hbool := Bool.eq_false_or_eq_true (lt d2[p0]! d2[pc]!)
    rcases hbool with hl2 | hl2
    · rw [hl2] at hr2
      have hr2' : r2 < 0 := of_decide_eq_true hr2
      simp [-getElem!_pos, e0, e1, e2, e3, e4, e10, hr2', hwp0, hwpc, hp0n, hpcn, k1', k2, k3, k4, k5, k6]
      refine NX.of ⟨hi - ch, by omega, ch, Sort.swp d2 p0 pc, rfl, by omega, by rw [Sort.size_swp]; exact z2, ?_, k7 _ (by rw [AH.get_set, if_pos rfl]) (fun k hk hkb => by rw [AH.get_set, if_neg hkb, x4 k hk]) (by simpa using hnD), by simp [e0], by simp [e1], by simp [e2], by simp [e3], by simp [e4], by simp⟩
      rw [← q2, hq, ← hp0e, ← hpce, hl2, if_pos rfl]
    · rw [hl2] at hr2
      have hr2' : ¬ r2 < 0 := of_decide_eq_false hr2
      simp [-getElem!_pos, hr2']
      refine DN.of ?_
      rw [← q2, hq, ← hp0e, ← hpce, hl2, if_neg (by simp)]
      exact s2.ext hwB x4 hnD
  have hc2' : (c2 : Int) < hi := by omega
  have hp1 : p1 < d2.size := by omega
  have hp2 : p2 < d2.size := by omega
  have hp1n : p1 < n := by omega
  have hp2n : p2 < n := by omega
  have hobt := s2.at2 hp1 hp2
  obtain ⟨cs', g1, ⟨g2, g3⟩, ⟨g4, g5⟩, -, -⟩ := hobt
  simp [-getElem!_pos, e0, e1, e2, e3, e4, e10, hw1, hw2, hw3, hend', hc2', hwp1, hwp2, hp1n, hp2n, g1, g2, g3, g4, g5]
  refine CN.use (hc A2 s2.ko s2.nx _ _ (s2.q _ hp1) (s2.q _ hp2)) ?_
  rintro _ A3 hwC hnC ⟨r, rfl, hr, x3⟩
  have s3 := s2.ext hwB x3 hnC
  clear k7
  have hobt := s3.at2 hp0 hpc
  obtain ⟨cs, k1, ⟨k2, k3⟩, ⟨k4, k5⟩, k6, k7⟩ := hobt
  have hbool := Bool.eq_false_or_eq_true (lt d2[p1]! d2[p2]!)
  rcases hbool with hl | hl
  · rw [hl] at hr
    have hr' : r < 0 := of_decide_eq_true hr
    obtain rfl : ch = c2 := by rw [hch, if_pos ⟨hc2, hl⟩]
    simp [-getElem!_pos, e0, e1, e2, e3, e4, e10, hw3, hr', hwp0, hwpc, hp0n, hpcn, k1, k2, k3, k4, k5]
    refine CN.use (hc A3 s3.ko s3.nx _ _ (s3.q _ hp0) (s3.q _ hpc)) ?_
    rintro _ A4 hwD hnD ⟨r2, rfl, hr2, x4⟩
    have k1' := x4.get hwC k1
    have hbool := Bool.eq_false_or_eq_true (lt d2[p0]! d2[pc]!)
    rcases hbool with hl2 | hl2
    · rw [hl2] at hr2
      have hr2' : r2 < 0 := of_decide_eq_true hr2
      simp [-getElem!_pos, e0, e1, e2, e3, e4, e10, hr2', hwp0, hwpc, hp0n, hpcn, k1', k2, k3, k4, k5, k6]
      refine NX.of ⟨hi - ch, by omega, ch, Sort.swp d2 p0 pc, rfl, by omega, by rw [Sort.size_swp]; exact z2, ?_, k7 _ (by rw [AH.get_set, if_pos rfl]) (fun k hk hkb => by rw [AH.get_set, if_neg hkb, x4 k hk]) (by simpa using hnD), by simp [e0], by simp [e1], by simp [e2], by simp [e3], by simp [e4], by simp⟩
      rw [← q2, hq, ← hp0e, ← hpce, hl2, if_pos rfl]
    · rw [hl2] at hr2
      have hr2' : ¬ r2 < 0 := of_decide_eq_false hr2
      simp [-getElem!_pos, hr2']
      refine DN.of ?_
      rw [← q2, hq, ← hp0e, ← hpce, hl2, if_neg (by simp)]
      exact s3.ext hwC x4 hnD
  · rw [hl] at hr
    have hr' : ¬ r < 0 := of_decide_eq_false hr
    obtain rfl : ch = c1 := by rw [hch, if_neg (fun h => by rw [hl] at h; cases h.2)]
    simp [-getElem!_pos, e0, e1, e2, e3, e4, e10, hr', hwp0, hwpc, hp0n, hpcn, k1, k2, k3, k4, k5]
    refine CN.use (hc A3 s3.ko s3.nx _ _ (s3.q _ hp0) (s3.q _ hpc)) ?_
    rintro _ A4 hwD hnD ⟨r2, rfl, hr2, x4⟩
    have k1' := x4.get hwC k1
    have hbool := Bool.eq_false_or_eq_true (lt d2[p0]! d2[pc]!)
    rcases hbool with hl2 | hl2
    · rw [hl2] at hr2
      have hr2' : r2 < 0 := of_decide_eq_true hr2
      simp [-getElem!_pos, e0, e1, e2, e3, e4, e10, hr2', hwp0, hwpc, hp0n, hpcn, k1', k2, k3, k4, k5, k6]
      refine NX.of ⟨hi - ch, by omega, ch, Sort.swp d2 p0 pc, rfl, by omega, by rw [Sort.size_swp]; exact z2, ?_, k7 _ (by rw [AH.get_set, if_pos rfl]) (fun k hk hkb => by rw [AH.get_set, if_neg hkb, x4 k hk]) (by simpa using hnD), by simp [e0], by simp [e1], by simp [e2], by simp [e3], by simp [e4], by simp⟩
      rw [← q2, hq, ← hp0e, ← hpce, hl2, if_pos rfl]
    · rw [hl2] at hr2
      have hr2' : ¬ r2 < 0 := of_decide_eq_false hr2
      simp [-getElem!_pos, hr2']
      refine DN.of ?_
      rw [← q2, hq, ← hp0e, ← hpce, hl2, if_neg (by simp)]
      exact s3.ext hwC x4 hnD
end
end Go.Proofs.Ytieehccjajhpfaa.AC
