/-
  No cell of these rows narrows 'for every input' (looked for: loops, veiled, ifaces, maps, wideKeys, modest, calm, conditions, laid).
  DERIVED. THE GIVEN ROWS OF THIS SEAT. 3 by the template 'for every input the law returns true; each argument reads behind the call as it read before'; 0 by the template 'total and deterministic' (their statements: YtaonijdhmgcbjaaTotals.lean).
  GIVEN WITH THE SEED: the statements are not yours to turn. If you find one false, say at which input.
  Laid BY PROGRAM, IN A SANDBOX (cutbox-rows.mjs): the forced cells as the released guide's own fill.sh prints them over the translation d2a51b57ada00e7b… (all of the seat's roots in one cut). By AI agents, Wed Nov 11 2026. No macro, syntax, notation, axiom, sorry.
-/
import Derived.Test.YtaonijdhmgcbjaaChecked
import GoSem.Claim
import GoSem.ClaimJoined
import GoSem.ClaimMapViews
import Derived.JoinedTies
import Derived.KernelRfl
namespace Go.Proofs.Ytaonijdhmgcbjaa
/- THE CELL 'sum', in the pinned program and in every row, IS THE sha256 OF THE DUMP (.gsa) THAT YtaonijdhmgcbjaaProg.lean LOADS. Nothing in Lean hashes anything: it is a label: what it is worth is what the hold of that sum in a sandbox is worth. -/
noncomputable def Try.pinned : Pinned := { name := "ytaonijdhmgcbjaa", sum := "d2a51b57ada00e7be844d8293d2e86a41674b4f560a1a84dc42a18f7d40078f0", checked := Try.checked }
namespace Rows
def none {H : Type} : Left H := { results := [], args := [] }

/-- 'aliblaw.SitesSay': WHATEVER THE INPUT: true; the input reads as it did. -/
def sitesSaySpec : ChangeSpec := { name := "sitesSay", fn := fun _ => fun
  | [d1, d2, d3, d4] => { results := [.lit (.bool true)], args := [d1, d2, d3, d4] }
  | _ => none }
def sitesSayRow : OpenClaim := { program := "ytaonijdhmgcbjaa", sum := "d2a51b57ada00e7be844d8293d2e86a41674b4f560a1a84dc42a18f7d40078f0", func := "alibi/aliblaw.SitesSay", spec := "sitesSay", unfollowed := true, recurses := true, apart := false }
def SitesSaySaid : Prop := sitesSayRow.holds Try.pinned (OpenSpec.ofChange sitesSaySpec)

/-- ITS FALSE NEIGHBOUR: 'it returns false'. Refute it at one input. -/
def sitesSayWrong : ChangeSpec := { name := "sitesSay", fn := fun _ => fun
  | [d1, d2, d3, d4] => { results := [.lit (.bool false)], args := [d1, d2, d3, d4] }
  | _ => none }
def SitesSayWrongFalsely : Prop := sitesSayRow.holds Try.pinned (OpenSpec.ofChange sitesSayWrong)

/-- 'aliblaw.ZonesSay': WHATEVER THE INPUT: true; the input reads as it did. -/
def zonesSaySpec : ChangeSpec := { name := "zonesSay", fn := fun _ => fun
  | [d] => { results := [.lit (.bool true)], args := [d] }
  | _ => none }
def zonesSayRow : OpenClaim := { program := "ytaonijdhmgcbjaa", sum := "d2a51b57ada00e7be844d8293d2e86a41674b4f560a1a84dc42a18f7d40078f0", func := "alibi/aliblaw.ZonesSay", spec := "zonesSay", unfollowed := true, recurses := true, apart := false }
def ZonesSaySaid : Prop := zonesSayRow.holds Try.pinned (OpenSpec.ofChange zonesSaySpec)

/-- ITS FALSE NEIGHBOUR: 'it returns false'. Refute it at one input. -/
def zonesSayWrong : ChangeSpec := { name := "zonesSay", fn := fun _ => fun
  | [d] => { results := [.lit (.bool false)], args := [d] }
  | _ => none }
def ZonesSayWrongFalsely : Prop := zonesSayRow.holds Try.pinned (OpenSpec.ofChange zonesSayWrong)

/-- 'aliblaw.BagsSay': WHATEVER THE INPUT: true; the input reads as it did. -/
def bagsSaySpec : ChangeSpec := { name := "bagsSay", fn := fun _ => fun
  | [d1, d2] => { results := [.lit (.bool true)], args := [d1, d2] }
  | _ => none }
def bagsSayRow : OpenClaim := { program := "ytaonijdhmgcbjaa", sum := "d2a51b57ada00e7be844d8293d2e86a41674b4f560a1a84dc42a18f7d40078f0", func := "alibi/aliblaw.BagsSay", spec := "bagsSay", unfollowed := true, recurses := true, apart := false }
def BagsSaySaid : Prop := bagsSayRow.holds Try.pinned (OpenSpec.ofChange bagsSaySpec)

/-- ITS FALSE NEIGHBOUR: 'it returns false'. Refute it at one input. -/
def bagsSayWrong : ChangeSpec := { name := "bagsSay", fn := fun _ => fun
  | [d1, d2] => { results := [.lit (.bool false)], args := [d1, d2] }
  | _ => none }
def BagsSayWrongFalsely : Prop := bagsSayRow.holds Try.pinned (OpenSpec.ofChange bagsSayWrong)

/- THE SECOND FORM. 'bulk': how many values and letters a reading holds, each counted each time it is reached (what is shared counts as often as it is met; a slice's spare places count too). A statement '..UptoSaid' is the law's where the arguments, and the package variables that the reading takes, are together of bulk at most 1048576: NARROWER than '..Said'. Prove '..Said' where nothing that the law and all that it calls make is longer than what came in: it says more and counts as full. Else prove '..UptoSaid'. A law counts once. -/
mutual
def uptoBulk {H : Type} : DataW H → Nat
  | .lit (.string bytes) => bytes.length + 1
  | .lit _ => 1
  | .nil => 1
  | .ptr d => uptoBulk d + 1
  | .slice elems spare => uptoBulkAll elems + uptoBulkAll spare + 1
  | .agg parts => uptoBulkAll parts + 1
  | .iface _ d => uptoBulk d + 1
  | .map entries => uptoBulkEntries entries + 1
  | .held _ => 1
def uptoBulkAll {H : Type} : List (DataW H) → Nat
  | [] => 0
  | d :: r => uptoBulk d + uptoBulkAll r
def uptoBulkEntries {H : Type} : List (Lit × DataW H) → Nat
  | [] => 0
  | x :: r => uptoBulkEntry x + uptoBulkEntries r
def uptoBulkEntry {H : Type} : Lit × DataW H → Nat
  | (.string bytes, d) => bytes.length + uptoBulk d + 1
  | (_, d) => uptoBulk d + 1
 end
def uptoSmall : (H : Type) → List (DataW H) → Bool := fun _ ds => decide (uptoBulkAll ds ≤ 1048576)
def OpenSpec.upto (s : _root_.Go.ChangeSpec) : _root_.Go.OpenSpec := { _root_.Go.OpenSpec.ofChange s with cond := some uptoSmall }

/-- 'aliblaw.SitesSay', WHERE WHAT IT READS IS OF BULK AT MOST 1048576: true; the input reads as it did. -/
def sitesSayUptoRow : OpenClaim := { program := "ytaonijdhmgcbjaa", sum := "d2a51b57ada00e7be844d8293d2e86a41674b4f560a1a84dc42a18f7d40078f0", func := "alibi/aliblaw.SitesSay", spec := "sitesSay", unfollowed := true, recurses := true, apart := false, narrowed := true }
def SitesSayUptoSaid : Prop := sitesSayUptoRow.holds Try.pinned (OpenSpec.upto sitesSaySpec)

/-- 'aliblaw.ZonesSay', WHERE WHAT IT READS IS OF BULK AT MOST 1048576: true; the input reads as it did. -/
def zonesSayUptoRow : OpenClaim := { program := "ytaonijdhmgcbjaa", sum := "d2a51b57ada00e7be844d8293d2e86a41674b4f560a1a84dc42a18f7d40078f0", func := "alibi/aliblaw.ZonesSay", spec := "zonesSay", unfollowed := true, recurses := true, apart := false, narrowed := true }
def ZonesSayUptoSaid : Prop := zonesSayUptoRow.holds Try.pinned (OpenSpec.upto zonesSaySpec)

/-- 'aliblaw.BagsSay', WHERE WHAT IT READS IS OF BULK AT MOST 1048576: true; the input reads as it did. -/
def bagsSayUptoRow : OpenClaim := { program := "ytaonijdhmgcbjaa", sum := "d2a51b57ada00e7be844d8293d2e86a41674b4f560a1a84dc42a18f7d40078f0", func := "alibi/aliblaw.BagsSay", spec := "bagsSay", unfollowed := true, recurses := true, apart := false, narrowed := true }
def BagsSayUptoSaid : Prop := bagsSayUptoRow.holds Try.pinned (OpenSpec.upto bagsSaySpec)

end Rows
end Go.Proofs.Ytaonijdhmgcbjaa
