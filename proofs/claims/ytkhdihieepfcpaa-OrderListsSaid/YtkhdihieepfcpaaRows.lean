/-
  No cell of these rows narrows 'for every input' (looked for: loops, veiled, ifaces, maps, wideKeys, modest, calm, conditions, laid).
  DERIVED. THE GIVEN ROWS OF THIS SEAT. 10 by the template 'for every input the law returns true; each argument reads behind the call as it read before'; 0 by the template 'total and deterministic' (their statements: YtkhdihieepfcpaaTotals.lean).
  GIVEN WITH THE SEED: the statements are not yours to turn. If you find one false, say at which input.
  Laid BY PROGRAM, IN A SANDBOX (cutbox-rows.mjs): the forced cells as the released guide's own fill.sh prints them over the translation 1d36cdead29912a1… (all of the seat's roots in one cut). By AI agents, Wed Nov 11 2026. No macro, syntax, notation, axiom, sorry.
-/
import Derived.Test.YtkhdihieepfcpaaChecked
import GoSem.Claim
import GoSem.ClaimJoined
import GoSem.ClaimMapViews
import Derived.JoinedTies
import Derived.KernelRfl
namespace Go.Proofs.Ytkhdihieepfcpaa
/- THE CELL 'sum', in the pinned program and in every row, IS THE sha256 OF THE DUMP (.gsa) THAT YtkhdihieepfcpaaProg.lean LOADS. Nothing in Lean hashes anything: it is a label: what it is worth is what the hold of that sum in a sandbox is worth. -/
noncomputable def Try.pinned : Pinned := { name := "ytkhdihieepfcpaa", sum := "1d36cdead29912a12a3a8b5cc83c8b205cf2c302eb774c71217ded1205125f70", checked := Try.checked }
namespace Rows
def none {H : Type} : Left H := { results := [], args := [] }

/-- 'aliblaw.MutexSays': WHATEVER THE INPUT: true; the input reads as it did. -/
def mutexSaysSpec : ChangeSpec := { name := "mutexSays", fn := fun _ => fun
  | [d1, d2, d3, d4] => { results := [.lit (.bool true)], args := [d1, d2, d3, d4] }
  | _ => none }
def mutexSaysRow : OpenClaim := { program := "ytkhdihieepfcpaa", sum := "1d36cdead29912a12a3a8b5cc83c8b205cf2c302eb774c71217ded1205125f70", func := "alibi/aliblaw.MutexSays", spec := "mutexSays", unfollowed := true, recurses := true, apart := false }
def MutexSaysSaid : Prop := mutexSaysRow.holds Try.pinned (OpenSpec.ofChange mutexSaysSpec)

/-- ITS FALSE NEIGHBOUR: 'it returns false'. Refute it at one input. -/
def mutexSaysWrong : ChangeSpec := { name := "mutexSays", fn := fun _ => fun
  | [d1, d2, d3, d4] => { results := [.lit (.bool false)], args := [d1, d2, d3, d4] }
  | _ => none }
def MutexSaysWrongFalsely : Prop := mutexSaysRow.holds Try.pinned (OpenSpec.ofChange mutexSaysWrong)

/-- 'aliblaw.OrderLists': WHATEVER THE INPUT: true; the input reads as it did. -/
def orderListsSpec : ChangeSpec := { name := "orderLists", fn := fun _ => fun
  | [d] => { results := [.lit (.bool true)], args := [d] }
  | _ => none }
def orderListsRow : OpenClaim := { program := "ytkhdihieepfcpaa", sum := "1d36cdead29912a12a3a8b5cc83c8b205cf2c302eb774c71217ded1205125f70", func := "alibi/aliblaw.OrderLists", spec := "orderLists", recurses := true, apart := false }
def OrderListsSaid : Prop := orderListsRow.holds Try.pinned (OpenSpec.ofChange orderListsSpec)

/-- ITS FALSE NEIGHBOUR: 'it returns false'. Refute it at one input. -/
def orderListsWrong : ChangeSpec := { name := "orderLists", fn := fun _ => fun
  | [d] => { results := [.lit (.bool false)], args := [d] }
  | _ => none }
def OrderListsWrongFalsely : Prop := orderListsRow.holds Try.pinned (OpenSpec.ofChange orderListsWrong)

/-- 'aliblaw.StepsSay': WHATEVER THE INPUT: true; the input reads as it did. -/
def stepsSaySpec : ChangeSpec := { name := "stepsSay", fn := fun _ => fun
  | [d1, d2, d3] => { results := [.lit (.bool true)], args := [d1, d2, d3] }
  | _ => none }
def stepsSayRow : OpenClaim := { program := "ytkhdihieepfcpaa", sum := "1d36cdead29912a12a3a8b5cc83c8b205cf2c302eb774c71217ded1205125f70", func := "alibi/aliblaw.StepsSay", spec := "stepsSay", unfollowed := true, recurses := true, apart := false }
def StepsSaySaid : Prop := stepsSayRow.holds Try.pinned (OpenSpec.ofChange stepsSaySpec)

/-- ITS FALSE NEIGHBOUR: 'it returns false'. Refute it at one input. -/
def stepsSayWrong : ChangeSpec := { name := "stepsSay", fn := fun _ => fun
  | [d1, d2, d3] => { results := [.lit (.bool false)], args := [d1, d2, d3] }
  | _ => none }
def StepsSayWrongFalsely : Prop := stepsSayRow.holds Try.pinned (OpenSpec.ofChange stepsSayWrong)

/-- 'aliblaw.SitesSay': WHATEVER THE INPUT: true; the input reads as it did. -/
def sitesSaySpec : ChangeSpec := { name := "sitesSay", fn := fun _ => fun
  | [d1, d2, d3, d4] => { results := [.lit (.bool true)], args := [d1, d2, d3, d4] }
  | _ => none }
def sitesSayRow : OpenClaim := { program := "ytkhdihieepfcpaa", sum := "1d36cdead29912a12a3a8b5cc83c8b205cf2c302eb774c71217ded1205125f70", func := "alibi/aliblaw.SitesSay", spec := "sitesSay", unfollowed := true, recurses := true, apart := false }
def SitesSaySaid : Prop := sitesSayRow.holds Try.pinned (OpenSpec.ofChange sitesSaySpec)

/-- ITS FALSE NEIGHBOUR: 'it returns false'. Refute it at one input. -/
def sitesSayWrong : ChangeSpec := { name := "sitesSay", fn := fun _ => fun
  | [d1, d2, d3, d4] => { results := [.lit (.bool false)], args := [d1, d2, d3, d4] }
  | _ => none }
def SitesSayWrongFalsely : Prop := sitesSayRow.holds Try.pinned (OpenSpec.ofChange sitesSayWrong)

/-- 'aliblaw.LocalJoins': WHATEVER THE INPUT: true; the input reads as it did. -/
def localJoinsSpec : ChangeSpec := { name := "localJoins", fn := fun _ => fun
  | [d1, d2, d3] => { results := [.lit (.bool true)], args := [d1, d2, d3] }
  | _ => none }
def localJoinsRow : OpenClaim := { program := "ytkhdihieepfcpaa", sum := "1d36cdead29912a12a3a8b5cc83c8b205cf2c302eb774c71217ded1205125f70", func := "alibi/aliblaw.LocalJoins", spec := "localJoins", unfollowed := true, recurses := true, apart := false }
def LocalJoinsSaid : Prop := localJoinsRow.holds Try.pinned (OpenSpec.ofChange localJoinsSpec)

/-- ITS FALSE NEIGHBOUR: 'it returns false'. Refute it at one input. -/
def localJoinsWrong : ChangeSpec := { name := "localJoins", fn := fun _ => fun
  | [d1, d2, d3] => { results := [.lit (.bool false)], args := [d1, d2, d3] }
  | _ => none }
def LocalJoinsWrongFalsely : Prop := localJoinsRow.holds Try.pinned (OpenSpec.ofChange localJoinsWrong)

/-- 'aliblaw.SpansMake': WHATEVER THE INPUT: true; the input reads as it did. -/
def spansMakeSpec : ChangeSpec := { name := "spansMake", fn := fun _ => fun
  | [d] => { results := [.lit (.bool true)], args := [d] }
  | _ => none }
def spansMakeRow : OpenClaim := { program := "ytkhdihieepfcpaa", sum := "1d36cdead29912a12a3a8b5cc83c8b205cf2c302eb774c71217ded1205125f70", func := "alibi/aliblaw.SpansMake", spec := "spansMake", unfollowed := true, recurses := true, apart := false }
def SpansMakeSaid : Prop := spansMakeRow.holds Try.pinned (OpenSpec.ofChange spansMakeSpec)

/-- ITS FALSE NEIGHBOUR: 'it returns false'. Refute it at one input. -/
def spansMakeWrong : ChangeSpec := { name := "spansMake", fn := fun _ => fun
  | [d] => { results := [.lit (.bool false)], args := [d] }
  | _ => none }
def SpansMakeWrongFalsely : Prop := spansMakeRow.holds Try.pinned (OpenSpec.ofChange spansMakeWrong)

/-- 'aliblaw.ObjectSteps': WHATEVER THE INPUT: true; the input reads as it did. -/
def objectStepsSpec : ChangeSpec := { name := "objectSteps", fn := fun _ => fun
  | [d1, d2, d3, d4] => { results := [.lit (.bool true)], args := [d1, d2, d3, d4] }
  | _ => none }
def objectStepsRow : OpenClaim := { program := "ytkhdihieepfcpaa", sum := "1d36cdead29912a12a3a8b5cc83c8b205cf2c302eb774c71217ded1205125f70", func := "alibi/aliblaw.ObjectSteps", spec := "objectSteps", unfollowed := true, recurses := true, apart := false }
def ObjectStepsSaid : Prop := objectStepsRow.holds Try.pinned (OpenSpec.ofChange objectStepsSpec)

/-- ITS FALSE NEIGHBOUR: 'it returns false'. Refute it at one input. -/
def objectStepsWrong : ChangeSpec := { name := "objectSteps", fn := fun _ => fun
  | [d1, d2, d3, d4] => { results := [.lit (.bool false)], args := [d1, d2, d3, d4] }
  | _ => none }
def ObjectStepsWrongFalsely : Prop := objectStepsRow.holds Try.pinned (OpenSpec.ofChange objectStepsWrong)

/-- 'aliblaw.ObjectPlays': WHATEVER THE INPUT: true; the input reads as it did. -/
def objectPlaysSpec : ChangeSpec := { name := "objectPlays", fn := fun _ => fun
  | [d1, d2] => { results := [.lit (.bool true)], args := [d1, d2] }
  | _ => none }
def objectPlaysRow : OpenClaim := { program := "ytkhdihieepfcpaa", sum := "1d36cdead29912a12a3a8b5cc83c8b205cf2c302eb774c71217ded1205125f70", func := "alibi/aliblaw.ObjectPlays", spec := "objectPlays", unfollowed := true, recurses := true, apart := false }
def ObjectPlaysSaid : Prop := objectPlaysRow.holds Try.pinned (OpenSpec.ofChange objectPlaysSpec)

/-- ITS FALSE NEIGHBOUR: 'it returns false'. Refute it at one input. -/
def objectPlaysWrong : ChangeSpec := { name := "objectPlays", fn := fun _ => fun
  | [d1, d2] => { results := [.lit (.bool false)], args := [d1, d2] }
  | _ => none }
def ObjectPlaysWrongFalsely : Prop := objectPlaysRow.holds Try.pinned (OpenSpec.ofChange objectPlaysWrong)

/-- 'aliblaw.ThreadsSay': WHATEVER THE INPUT: true; the input reads as it did. -/
def threadsSaySpec : ChangeSpec := { name := "threadsSay", fn := fun _ => fun
  | [d1, d2, d3] => { results := [.lit (.bool true)], args := [d1, d2, d3] }
  | _ => none }
def threadsSayRow : OpenClaim := { program := "ytkhdihieepfcpaa", sum := "1d36cdead29912a12a3a8b5cc83c8b205cf2c302eb774c71217ded1205125f70", func := "alibi/aliblaw.ThreadsSay", spec := "threadsSay", unfollowed := true, recurses := true, apart := false }
def ThreadsSaySaid : Prop := threadsSayRow.holds Try.pinned (OpenSpec.ofChange threadsSaySpec)

/-- ITS FALSE NEIGHBOUR: 'it returns false'. Refute it at one input. -/
def threadsSayWrong : ChangeSpec := { name := "threadsSay", fn := fun _ => fun
  | [d1, d2, d3] => { results := [.lit (.bool false)], args := [d1, d2, d3] }
  | _ => none }
def ThreadsSayWrongFalsely : Prop := threadsSayRow.holds Try.pinned (OpenSpec.ofChange threadsSayWrong)

/-- 'aliblaw.TicketsSay': WHATEVER THE INPUT: true; the input reads as it did. -/
def ticketsSaySpec : ChangeSpec := { name := "ticketsSay", fn := fun _ => fun
  | [d] => { results := [.lit (.bool true)], args := [d] }
  | _ => none }
def ticketsSayRow : OpenClaim := { program := "ytkhdihieepfcpaa", sum := "1d36cdead29912a12a3a8b5cc83c8b205cf2c302eb774c71217ded1205125f70", func := "alibi/aliblaw.TicketsSay", spec := "ticketsSay", unfollowed := true, recurses := true, apart := false }
def TicketsSaySaid : Prop := ticketsSayRow.holds Try.pinned (OpenSpec.ofChange ticketsSaySpec)

/-- ITS FALSE NEIGHBOUR: 'it returns false'. Refute it at one input. -/
def ticketsSayWrong : ChangeSpec := { name := "ticketsSay", fn := fun _ => fun
  | [d] => { results := [.lit (.bool false)], args := [d] }
  | _ => none }
def TicketsSayWrongFalsely : Prop := ticketsSayRow.holds Try.pinned (OpenSpec.ofChange ticketsSayWrong)

/- THE SECOND FORM. 'bulk': how many values and letters a reading holds, each counted each time it is reached (what is shared counts as often as it is met; a slice's spare places count too). A statement '..UptoSaid' is the law's where the arguments, and the package variables that the reading takes, are together of bulk at most 1048576: NARROWER than '..Said'. Prove '..Said' where nothing that the law and all that it calls make is longer than what came in: it says more and counts as full. Else prove '..UptoSaid'. A law counts once. -/
mutual
def uptoBulk {H : Type} : DataW H → Nat
  | .lit (.string bytes) => bytes.length + 1
  | .lit _ => 1
  | .nil => 1
  | .ptr d => uptoBulk d + 1
  | .slice elems spare => uptoBulkAll elems + uptoBulkAll spare + 1
  | .agg parts => uptoBulkAll parts + 1
  | .iface _ d => uptoBulk d + 1
  | .map entries => uptoBulkEntries entries + 1
  | .held _ => 1
def uptoBulkAll {H : Type} : List (DataW H) → Nat
  | [] => 0
  | d :: r => uptoBulk d + uptoBulkAll r
def uptoBulkEntries {H : Type} : List (Lit × DataW H) → Nat
  | [] => 0
  | x :: r => uptoBulkEntry x + uptoBulkEntries r
def uptoBulkEntry {H : Type} : Lit × DataW H → Nat
  | (.string bytes, d) => bytes.length + uptoBulk d + 1
  | (_, d) => uptoBulk d + 1
 end
def uptoSmall : (H : Type) → List (DataW H) → Bool := fun _ ds => decide (uptoBulkAll ds ≤ 1048576)
def OpenSpec.upto (s : _root_.Go.ChangeSpec) : _root_.Go.OpenSpec := { _root_.Go.OpenSpec.ofChange s with cond := some uptoSmall }

/-- 'aliblaw.MutexSays', WHERE WHAT IT READS IS OF BULK AT MOST 1048576: true; the input reads as it did. -/
def mutexSaysUptoRow : OpenClaim := { program := "ytkhdihieepfcpaa", sum := "1d36cdead29912a12a3a8b5cc83c8b205cf2c302eb774c71217ded1205125f70", func := "alibi/aliblaw.MutexSays", spec := "mutexSays", unfollowed := true, recurses := true, apart := false, narrowed := true }
def MutexSaysUptoSaid : Prop := mutexSaysUptoRow.holds Try.pinned (OpenSpec.upto mutexSaysSpec)

/-- 'aliblaw.OrderLists', WHERE WHAT IT READS IS OF BULK AT MOST 1048576: true; the input reads as it did. -/
def orderListsUptoRow : OpenClaim := { program := "ytkhdihieepfcpaa", sum := "1d36cdead29912a12a3a8b5cc83c8b205cf2c302eb774c71217ded1205125f70", func := "alibi/aliblaw.OrderLists", spec := "orderLists", recurses := true, apart := false, narrowed := true }
def OrderListsUptoSaid : Prop := orderListsUptoRow.holds Try.pinned (OpenSpec.upto orderListsSpec)

/-- 'aliblaw.StepsSay', WHERE WHAT IT READS IS OF BULK AT MOST 1048576: true; the input reads as it did. -/
def stepsSayUptoRow : OpenClaim := { program := "ytkhdihieepfcpaa", sum := "1d36cdead29912a12a3a8b5cc83c8b205cf2c302eb774c71217ded1205125f70", func := "alibi/aliblaw.StepsSay", spec := "stepsSay", unfollowed := true, recurses := true, apart := false, narrowed := true }
def StepsSayUptoSaid : Prop := stepsSayUptoRow.holds Try.pinned (OpenSpec.upto stepsSaySpec)

/-- 'aliblaw.SitesSay', WHERE WHAT IT READS IS OF BULK AT MOST 1048576: true; the input reads as it did. -/
def sitesSayUptoRow : OpenClaim := { program := "ytkhdihieepfcpaa", sum := "1d36cdead29912a12a3a8b5cc83c8b205cf2c302eb774c71217ded1205125f70", func := "alibi/aliblaw.SitesSay", spec := "sitesSay", unfollowed := true, recurses := true, apart := false, narrowed := true }
def SitesSayUptoSaid : Prop := sitesSayUptoRow.holds Try.pinned (OpenSpec.upto sitesSaySpec)

/-- 'aliblaw.LocalJoins', WHERE WHAT IT READS IS OF BULK AT MOST 1048576: true; the input reads as it did. -/
def localJoinsUptoRow : OpenClaim := { program := "ytkhdihieepfcpaa", sum := "1d36cdead29912a12a3a8b5cc83c8b205cf2c302eb774c71217ded1205125f70", func := "alibi/aliblaw.LocalJoins", spec := "localJoins", unfollowed := true, recurses := true, apart := false, narrowed := true }
def LocalJoinsUptoSaid : Prop := localJoinsUptoRow.holds Try.pinned (OpenSpec.upto localJoinsSpec)

/-- 'aliblaw.SpansMake', WHERE WHAT IT READS IS OF BULK AT MOST 1048576: true; the input reads as it did. -/
def spansMakeUptoRow : OpenClaim := { program := "ytkhdihieepfcpaa", sum := "1d36cdead29912a12a3a8b5cc83c8b205cf2c302eb774c71217ded1205125f70", func := "alibi/aliblaw.SpansMake", spec := "spansMake", unfollowed := true, recurses := true, apart := false, narrowed := true }
def SpansMakeUptoSaid : Prop := spansMakeUptoRow.holds Try.pinned (OpenSpec.upto spansMakeSpec)

/-- 'aliblaw.ObjectSteps', WHERE WHAT IT READS IS OF BULK AT MOST 1048576: true; the input reads as it did. -/
def objectStepsUptoRow : OpenClaim := { program := "ytkhdihieepfcpaa", sum := "1d36cdead29912a12a3a8b5cc83c8b205cf2c302eb774c71217ded1205125f70", func := "alibi/aliblaw.ObjectSteps", spec := "objectSteps", unfollowed := true, recurses := true, apart := false, narrowed := true }
def ObjectStepsUptoSaid : Prop := objectStepsUptoRow.holds Try.pinned (OpenSpec.upto objectStepsSpec)

/-- 'aliblaw.ObjectPlays', WHERE WHAT IT READS IS OF BULK AT MOST 1048576: true; the input reads as it did. -/
def objectPlaysUptoRow : OpenClaim := { program := "ytkhdihieepfcpaa", sum := "1d36cdead29912a12a3a8b5cc83c8b205cf2c302eb774c71217ded1205125f70", func := "alibi/aliblaw.ObjectPlays", spec := "objectPlays", unfollowed := true, recurses := true, apart := false, narrowed := true }
def ObjectPlaysUptoSaid : Prop := objectPlaysUptoRow.holds Try.pinned (OpenSpec.upto objectPlaysSpec)

/-- 'aliblaw.ThreadsSay', WHERE WHAT IT READS IS OF BULK AT MOST 1048576: true; the input reads as it did. -/
def threadsSayUptoRow : OpenClaim := { program := "ytkhdihieepfcpaa", sum := "1d36cdead29912a12a3a8b5cc83c8b205cf2c302eb774c71217ded1205125f70", func := "alibi/aliblaw.ThreadsSay", spec := "threadsSay", unfollowed := true, recurses := true, apart := false, narrowed := true }
def ThreadsSayUptoSaid : Prop := threadsSayUptoRow.holds Try.pinned (OpenSpec.upto threadsSaySpec)

/-- 'aliblaw.TicketsSay', WHERE WHAT IT READS IS OF BULK AT MOST 1048576: true; the input reads as it did. -/
def ticketsSayUptoRow : OpenClaim := { program := "ytkhdihieepfcpaa", sum := "1d36cdead29912a12a3a8b5cc83c8b205cf2c302eb774c71217ded1205125f70", func := "alibi/aliblaw.TicketsSay", spec := "ticketsSay", unfollowed := true, recurses := true, apart := false, narrowed := true }
def TicketsSayUptoSaid : Prop := ticketsSayUptoRow.holds Try.pinned (OpenSpec.upto ticketsSaySpec)

end Rows
end Go.Proofs.Ytkhdihieepfcpaa
