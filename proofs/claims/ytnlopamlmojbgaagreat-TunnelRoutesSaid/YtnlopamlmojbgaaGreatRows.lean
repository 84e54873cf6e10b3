/-
  No cell of these rows narrows 'for every input' (looked for: loops, veiled, ifaces, maps, wideKeys, modest, calm, conditions, laid).
  DERIVED. THE GIVEN ROWS OF THIS SEAT. 2 by the template 'for every input the law returns true; each argument reads behind the call as it read before'; 0 by the template 'total and deterministic' (their statements: YtnlopamlmojbgaaGreatTotals.lean).
  GIVEN WITH THE SEED: the statements are not yours to turn. If you find one false, say at which input.
  Laid BY PROGRAM, IN A SANDBOX (cutbox-rows.mjs): the forced cells as the released guide's own fill.sh prints them over the translation 013dfd636f71d5f6… (all of the seat's roots in one cut). By AI agents, Wed Nov 11 2026. No macro, syntax, notation, axiom, sorry.
-/
import Derived.Test.YtnlopamlmojbgaaGreatChecked
import GoSem.Claim
import GoSem.ClaimJoined
import GoSem.ClaimMapViews
import Derived.JoinedTies
import Derived.KernelRfl
namespace Go.Proofs.YtnlopamlmojbgaaGreat
/- THE CELL 'sum', in the pinned program and in every row, IS THE sha256 OF THE DUMP (.gsa) THAT YtnlopamlmojbgaaGreatProg.lean LOADS. Nothing in Lean hashes anything: it is a label: what it is worth is what the hold of that sum in a sandbox is worth. -/
noncomputable def Tryz.pinned : Pinned := { name := "ytnlopamlmojbgaagreat", sum := "013dfd636f71d5f694ce188599314e19ccf6f12191536ad4c3df1bdad9622e07", checked := Tryz.checked }
namespace Rows
def none {H : Type} : Left H := { results := [], args := [] }

/-- 'viaductlaw20.TunnelActs': WHATEVER THE INPUT: true; the input reads as it did. -/
def tunnelActsSpec : ChangeSpec := { name := "tunnelActs", fn := fun _ => fun
  | [d] => { results := [.lit (.bool true)], args := [d] }
  | _ => none }
def tunnelActsRow : OpenClaim := { program := "ytnlopamlmojbgaagreat", sum := "013dfd636f71d5f694ce188599314e19ccf6f12191536ad4c3df1bdad9622e07", func := "viaduct/viaductlaw20.TunnelActs", spec := "tunnelActs", inPlace := ["slices.overlaps[*viaduct/tunnel.tunnel]", "math/bits.Add64"], unfollowed := true, recurses := true, plainKeys := false, apart := false }
def TunnelActsSaid : Prop := tunnelActsRow.holds Tryz.pinned (OpenSpec.ofChange tunnelActsSpec)

/-- ITS FALSE NEIGHBOUR: 'it returns false'. Refute it at one input. -/
def tunnelActsWrong : ChangeSpec := { name := "tunnelActs", fn := fun _ => fun
  | [d] => { results := [.lit (.bool false)], args := [d] }
  | _ => none }
def TunnelActsWrongFalsely : Prop := tunnelActsRow.holds Tryz.pinned (OpenSpec.ofChange tunnelActsWrong)

/-- 'viaductlaw20.TunnelRoutes': WHATEVER THE INPUT: true; the input reads as it did. -/
def tunnelRoutesSpec : ChangeSpec := { name := "tunnelRoutes", fn := fun _ => fun
  | [d] => { results := [.lit (.bool true)], args := [d] }
  | _ => none }
def tunnelRoutesRow : OpenClaim := { program := "ytnlopamlmojbgaagreat", sum := "013dfd636f71d5f694ce188599314e19ccf6f12191536ad4c3df1bdad9622e07", func := "viaduct/viaductlaw20.TunnelRoutes", spec := "tunnelRoutes", inPlace := ["slices.overlaps[*viaduct/tunnel.tunnel]", "math/bits.Add64"], unfollowed := true, recurses := true, plainKeys := false, apart := false }
def TunnelRoutesSaid : Prop := tunnelRoutesRow.holds Tryz.pinned (OpenSpec.ofChange tunnelRoutesSpec)

/-- ITS FALSE NEIGHBOUR: 'it returns false'. Refute it at one input. -/
def tunnelRoutesWrong : ChangeSpec := { name := "tunnelRoutes", fn := fun _ => fun
  | [d] => { results := [.lit (.bool false)], args := [d] }
  | _ => none }
def TunnelRoutesWrongFalsely : Prop := tunnelRoutesRow.holds Tryz.pinned (OpenSpec.ofChange tunnelRoutesWrong)

/- THE SECOND FORM. 'bulk': how many values and letters a reading holds, each counted each time it is reached (what is shared counts as often as it is met; a slice's spare places count too). A statement '..UptoSaid' is the law's where the arguments, and the package variables that the reading takes, are together of bulk at most 1048576: NARROWER than '..Said'. Prove '..Said' where nothing that the law and all that it calls make is longer than what came in: it says more and counts as full. Else prove '..UptoSaid'. A law counts once. -/
mutual
def uptoBulk {H : Type} : DataW H → Nat
  | .lit (.string bytes) => bytes.length + 1
  | .lit _ => 1
  | .nil => 1
  | .ptr d => uptoBulk d + 1
  | .slice elems spare => uptoBulkAll elems + uptoBulkAll spare + 1
  | .agg parts => uptoBulkAll parts + 1
  | .iface _ d => uptoBulk d + 1
  | .map entries => uptoBulkEntries entries + 1
  | .held _ => 1
def uptoBulkAll {H : Type} : List (DataW H) → Nat
  | [] => 0
  | d :: r => uptoBulk d + uptoBulkAll r
def uptoBulkEntries {H : Type} : List (Lit × DataW H) → Nat
  | [] => 0
  | x :: r => uptoBulkEntry x + uptoBulkEntries r
def uptoBulkEntry {H : Type} : Lit × DataW H → Nat
  | (.string bytes, d) => bytes.length + uptoBulk d + 1
  | (_, d) => uptoBulk d + 1
 end
def uptoSmall : (H : Type) → List (DataW H) → Bool := fun _ ds => decide (uptoBulkAll ds ≤ 1048576)
def OpenSpec.upto (s : _root_.Go.ChangeSpec) : _root_.Go.OpenSpec := { _root_.Go.OpenSpec.ofChange s with cond := some uptoSmall }

/-- 'viaductlaw20.TunnelActs', WHERE WHAT IT READS IS OF BULK AT MOST 1048576: true; the input reads as it did. -/
def tunnelActsUptoRow : OpenClaim := { program := "ytnlopamlmojbgaagreat", sum := "013dfd636f71d5f694ce188599314e19ccf6f12191536ad4c3df1bdad9622e07", func := "viaduct/viaductlaw20.TunnelActs", spec := "tunnelActs", inPlace := ["slices.overlaps[*viaduct/tunnel.tunnel]", "math/bits.Add64"], unfollowed := true, recurses := true, plainKeys := false, apart := false, narrowed := true }
def TunnelActsUptoSaid : Prop := tunnelActsUptoRow.holds Tryz.pinned (OpenSpec.upto tunnelActsSpec)

/-- 'viaductlaw20.TunnelRoutes', WHERE WHAT IT READS IS OF BULK AT MOST 1048576: true; the input reads as it did. -/
def tunnelRoutesUptoRow : OpenClaim := { program := "ytnlopamlmojbgaagreat", sum := "013dfd636f71d5f694ce188599314e19ccf6f12191536ad4c3df1bdad9622e07", func := "viaduct/viaductlaw20.TunnelRoutes", spec := "tunnelRoutes", inPlace := ["slices.overlaps[*viaduct/tunnel.tunnel]", "math/bits.Add64"], unfollowed := true, recurses := true, plainKeys := false, apart := false, narrowed := true }
def TunnelRoutesUptoSaid : Prop := tunnelRoutesUptoRow.holds Tryz.pinned (OpenSpec.upto tunnelRoutesSpec)

end Rows
end Go.Proofs.YtnlopamlmojbgaaGreat
