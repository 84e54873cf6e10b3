/-
  No cell of these rows narrows 'for every input' (looked for: loops, veiled, ifaces, maps, wideKeys, modest, calm, conditions, laid).
  DERIVED. THE GIVEN ROWS OF THIS SEAT. 4 by the template 'for every input the law returns true; each argument reads behind the call as it read before'; 0 by the template 'total and deterministic' (their statements: YtnlopamlmojbgaaTotals.lean).
  GIVEN WITH THE SEED: the statements are not yours to turn. If you find one false, say at which input.
  Laid BY PROGRAM, IN A SANDBOX (cutbox-rows.mjs): the forced cells as the released guide's own fill.sh prints them over the translation 29665e3743db69b3… (all of the seat's roots in one cut). By AI agents, Wed Nov 11 2026. No macro, syntax, notation, axiom, sorry.
-/
import Derived.Test.YtnlopamlmojbgaaChecked
import GoSem.Claim
import GoSem.ClaimJoined
import GoSem.ClaimMapViews
import Derived.JoinedTies
import Derived.KernelRfl
namespace Go.Proofs.Ytnlopamlmojbgaa
/- THE CELL 'sum', in the pinned program and in every row, IS THE sha256 OF THE DUMP (.gsa) THAT YtnlopamlmojbgaaProg.lean LOADS. Nothing in Lean hashes anything: it is a label: what it is worth is what the hold of that sum in a sandbox is worth. -/
noncomputable def Try.pinned : Pinned := { name := "ytnlopamlmojbgaa", sum := "29665e3743db69b361d5b46a9494c05207e4509aca4fc7c75771c7ade9d257b2", checked := Try.checked }
namespace Rows
def none {H : Type} : Left H := { results := [], args := [] }

/-- 'viaductlaw20.TunnelPatience': WHATEVER THE INPUT: true; the input reads as it did. -/
def tunnelPatienceSpec : ChangeSpec := { name := "tunnelPatience", fn := fun _ => fun
  | [d1, d2] => { results := [.lit (.bool true)], args := [d1, d2] }
  | _ => none }
def tunnelPatienceRow : OpenClaim := { program := "ytnlopamlmojbgaa", sum := "29665e3743db69b361d5b46a9494c05207e4509aca4fc7c75771c7ade9d257b2", func := "viaduct/viaductlaw20.TunnelPatience", spec := "tunnelPatience", inPlace := ["slices.overlaps[*viaduct/tunnel.tunnel]", "math/bits.Add64"], unfollowed := true, recurses := true, plainKeys := false, apart := false }
def TunnelPatienceSaid : Prop := tunnelPatienceRow.holds Try.pinned (OpenSpec.ofChange tunnelPatienceSpec)

/-- ITS FALSE NEIGHBOUR: 'it returns false'. Refute it at one input. -/
def tunnelPatienceWrong : ChangeSpec := { name := "tunnelPatience", fn := fun _ => fun
  | [d1, d2] => { results := [.lit (.bool false)], args := [d1, d2] }
  | _ => none }
def TunnelPatienceWrongFalsely : Prop := tunnelPatienceRow.holds Try.pinned (OpenSpec.ofChange tunnelPatienceWrong)

/-- 'viaductlaw20.TunnelOver': WHATEVER THE INPUT: true; the input reads as it did. -/
def tunnelOverSpec : ChangeSpec := { name := "tunnelOver", fn := fun _ => fun
  | [d] => { results := [.lit (.bool true)], args := [d] }
  | _ => none }
def tunnelOverRow : OpenClaim := { program := "ytnlopamlmojbgaa", sum := "29665e3743db69b361d5b46a9494c05207e4509aca4fc7c75771c7ade9d257b2", func := "viaduct/viaductlaw20.TunnelOver", spec := "tunnelOver", inPlace := ["slices.overlaps[*viaduct/tunnel.tunnel]", "math/bits.Add64"], unfollowed := true, recurses := true, plainKeys := false, apart := false }
def TunnelOverSaid : Prop := tunnelOverRow.holds Try.pinned (OpenSpec.ofChange tunnelOverSpec)

/-- ITS FALSE NEIGHBOUR: 'it returns false'. Refute it at one input. -/
def tunnelOverWrong : ChangeSpec := { name := "tunnelOver", fn := fun _ => fun
  | [d] => { results := [.lit (.bool false)], args := [d] }
  | _ => none }
def TunnelOverWrongFalsely : Prop := tunnelOverRow.holds Try.pinned (OpenSpec.ofChange tunnelOverWrong)

/-- 'viaductlaw20.TunnelNobody': WHATEVER THE INPUT: true; the input reads as it did. -/
def tunnelNobodySpec : ChangeSpec := { name := "tunnelNobody", fn := fun _ => fun
  | [d] => { results := [.lit (.bool true)], args := [d] }
  | _ => none }
def tunnelNobodyRow : OpenClaim := { program := "ytnlopamlmojbgaa", sum := "29665e3743db69b361d5b46a9494c05207e4509aca4fc7c75771c7ade9d257b2", func := "viaduct/viaductlaw20.TunnelNobody", spec := "tunnelNobody", inPlace := ["slices.overlaps[*viaduct/tunnel.tunnel]", "math/bits.Add64"], unfollowed := true, recurses := true, plainKeys := false, apart := false }
def TunnelNobodySaid : Prop := tunnelNobodyRow.holds Try.pinned (OpenSpec.ofChange tunnelNobodySpec)

/-- ITS FALSE NEIGHBOUR: 'it returns false'. Refute it at one input. -/
def tunnelNobodyWrong : ChangeSpec := { name := "tunnelNobody", fn := fun _ => fun
  | [d] => { results := [.lit (.bool false)], args := [d] }
  | _ => none }
def TunnelNobodyWrongFalsely : Prop := tunnelNobodyRow.holds Try.pinned (OpenSpec.ofChange tunnelNobodyWrong)

/-- 'viaductlaw20.TunnelStill': WHATEVER THE INPUT: true; the input reads as it did. -/
def tunnelStillSpec : ChangeSpec := { name := "tunnelStill", fn := fun _ => fun
  | [d] => { results := [.lit (.bool true)], args := [d] }
  | _ => none }
def tunnelStillRow : OpenClaim := { program := "ytnlopamlmojbgaa", sum := "29665e3743db69b361d5b46a9494c05207e4509aca4fc7c75771c7ade9d257b2", func := "viaduct/viaductlaw20.TunnelStill", spec := "tunnelStill", inPlace := ["slices.overlaps[*viaduct/tunnel.tunnel]", "math/bits.Add64"], unfollowed := true, recurses := true, plainKeys := false, apart := false }
def TunnelStillSaid : Prop := tunnelStillRow.holds Try.pinned (OpenSpec.ofChange tunnelStillSpec)

/-- ITS FALSE NEIGHBOUR: 'it returns false'. Refute it at one input. -/
def tunnelStillWrong : ChangeSpec := { name := "tunnelStill", fn := fun _ => fun
  | [d] => { results := [.lit (.bool false)], args := [d] }
  | _ => none }
def TunnelStillWrongFalsely : Prop := tunnelStillRow.holds Try.pinned (OpenSpec.ofChange tunnelStillWrong)

/- THE SECOND FORM. 'bulk': how many values and letters a reading holds, each counted each time it is reached (what is shared counts as often as it is met; a slice's spare places count too). A statement '..UptoSaid' is the law's where the arguments, and the package variables that the reading takes, are together of bulk at most 1048576: NARROWER than '..Said'. Prove '..Said' where nothing that the law and all that it calls make is longer than what came in: it says more and counts as full. Else prove '..UptoSaid'. A law counts once. -/
mutual
def uptoBulk {H : Type} : DataW H → Nat
  | .lit (.string bytes) => bytes.length + 1
  | .lit _ => 1
  | .nil => 1
  | .ptr d => uptoBulk d + 1
  | .slice elems spare => uptoBulkAll elems + uptoBulkAll spare + 1
  | .agg parts => uptoBulkAll parts + 1
  | .iface _ d => uptoBulk d + 1
  | .map entries => uptoBulkEntries entries + 1
  | .held _ => 1
def uptoBulkAll {H : Type} : List (DataW H) → Nat
  | [] => 0
  | d :: r => uptoBulk d + uptoBulkAll r
def uptoBulkEntries {H : Type} : List (Lit × DataW H) → Nat
  | [] => 0
  | x :: r => uptoBulkEntry x + uptoBulkEntries r
def uptoBulkEntry {H : Type} : Lit × DataW H → Nat
  | (.string bytes, d) => bytes.length + uptoBulk d + 1
  | (_, d) => uptoBulk d + 1
 end
def uptoSmall : (H : Type) → List (DataW H) → Bool := fun _ ds => decide (uptoBulkAll ds ≤ 1048576)
def OpenSpec.upto (s : _root_.Go.ChangeSpec) : _root_.Go.OpenSpec := { _root_.Go.OpenSpec.ofChange s with cond := some uptoSmall }

/-- 'viaductlaw20.TunnelPatience', WHERE WHAT IT READS IS OF BULK AT MOST 1048576: true; the input reads as it did. -/
def tunnelPatienceUptoRow : OpenClaim := { program := "ytnlopamlmojbgaa", sum := "29665e3743db69b361d5b46a9494c05207e4509aca4fc7c75771c7ade9d257b2", func := "viaduct/viaductlaw20.TunnelPatience", spec := "tunnelPatience", inPlace := ["slices.overlaps[*viaduct/tunnel.tunnel]", "math/bits.Add64"], unfollowed := true, recurses := true, plainKeys := false, apart := false, narrowed := true }
def TunnelPatienceUptoSaid : Prop := tunnelPatienceUptoRow.holds Try.pinned (OpenSpec.upto tunnelPatienceSpec)

/-- 'viaductlaw20.TunnelOver', WHERE WHAT IT READS IS OF BULK AT MOST 1048576: true; the input reads as it did. -/
def tunnelOverUptoRow : OpenClaim := { program := "ytnlopamlmojbgaa", sum := "29665e3743db69b361d5b46a9494c05207e4509aca4fc7c75771c7ade9d257b2", func := "viaduct/viaductlaw20.TunnelOver", spec := "tunnelOver", inPlace := ["slices.overlaps[*viaduct/tunnel.tunnel]", "math/bits.Add64"], unfollowed := true, recurses := true, plainKeys := false, apart := false, narrowed := true }
def TunnelOverUptoSaid : Prop := tunnelOverUptoRow.holds Try.pinned (OpenSpec.upto tunnelOverSpec)

/-- 'viaductlaw20.TunnelNobody', WHERE WHAT IT READS IS OF BULK AT MOST 1048576: true; the input reads as it did. -/
def tunnelNobodyUptoRow : OpenClaim := { program := "ytnlopamlmojbgaa", sum := "29665e3743db69b361d5b46a9494c05207e4509aca4fc7c75771c7ade9d257b2", func := "viaduct/viaductlaw20.TunnelNobody", spec := "tunnelNobody", inPlace := ["slices.overlaps[*viaduct/tunnel.tunnel]", "math/bits.Add64"], unfollowed := true, recurses := true, plainKeys := false, apart := false, narrowed := true }
def TunnelNobodyUptoSaid : Prop := tunnelNobodyUptoRow.holds Try.pinned (OpenSpec.upto tunnelNobodySpec)

/-- 'viaductlaw20.TunnelStill', WHERE WHAT IT READS IS OF BULK AT MOST 1048576: true; the input reads as it did. -/
def tunnelStillUptoRow : OpenClaim := { program := "ytnlopamlmojbgaa", sum := "29665e3743db69b361d5b46a9494c05207e4509aca4fc7c75771c7ade9d257b2", func := "viaduct/viaductlaw20.TunnelStill", spec := "tunnelStill", inPlace := ["slices.overlaps[*viaduct/tunnel.tunnel]", "math/bits.Add64"], unfollowed := true, recurses := true, plainKeys := false, apart := false, narrowed := true }
def TunnelStillUptoSaid : Prop := tunnelStillUptoRow.holds Try.pinned (OpenSpec.upto tunnelStillSpec)

end Rows
end Go.Proofs.Ytnlopamlmojbgaa
