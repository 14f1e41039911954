/-
  No cell of these rows narrows 'for every input' (looked for: loops, veiled, ifaces, maps, wideKeys, modest, calm, conditions, laid).
  DERIVED. THE GIVEN ROWS OF THIS SEAT. 10 by the template 'for every input the law returns true; each argument reads behind the call as it read before'; 0 by the template 'total and deterministic' (their statements: YtppicbdaijiifaaTotals.lean).
  GIVEN WITH THE SEED: the statements are not yours to turn. If you find one false, say at which input.
  Laid BY PROGRAM, IN A SANDBOX (cutbox-rows.mjs): the forced cells as the released guide's own fill.sh prints them over the translation 932a7c8b959e6ec2… (all of the seat's roots in one cut). By AI agents, Wed Nov 11 2026. No macro, syntax, notation, axiom, sorry.
-/
import Derived.Test.YtppicbdaijiifaaChecked
import GoSem.Claim
import GoSem.ClaimJoined
import GoSem.ClaimMapViews
import Derived.JoinedTies
import Derived.KernelRfl
namespace Go.Proofs.Ytppicbdaijiifaa
/- THE CELL 'sum', in the pinned program and in every row, IS THE sha256 OF THE DUMP (.gsa) THAT YtppicbdaijiifaaProg.lean LOADS. Nothing in Lean hashes anything: it is a label: what it is worth is what the hold of that sum in a sandbox is worth. -/
noncomputable def Try.pinned : Pinned := { name := "ytppicbdaijiifaa", sum := "932a7c8b959e6ec26e23ce2ae03e8c33c98514486d3bab963ab0ae0890a82b19", checked := Try.checked }
namespace Rows
def none {H : Type} : Left H := { results := [], args := [] }

/-- 'aliblaw.MutexSays': WHATEVER THE INPUT: true; the input reads as it did. -/
def mutexSaysSpec : ChangeSpec := { name := "mutexSays", fn := fun _ => fun
  | [d1, d2, d3, d4] => { results := [.lit (.bool true)], args := [d1, d2, d3, d4] }
  | _ => none }
def mutexSaysRow : OpenClaim := { program := "ytppicbdaijiifaa", sum := "932a7c8b959e6ec26e23ce2ae03e8c33c98514486d3bab963ab0ae0890a82b19", func := "alibi/aliblaw.MutexSays", spec := "mutexSays", unfollowed := true, recurses := true, apart := false }
def MutexSaysSaid : Prop := mutexSaysRow.holds Try.pinned (OpenSpec.ofChange mutexSaysSpec)

/-- ITS FALSE NEIGHBOUR: 'it returns false'. Refute it at one input. -/
def mutexSaysWrong : ChangeSpec := { name := "mutexSays", fn := fun _ => fun
  | [d1, d2, d3, d4] => { results := [.lit (.bool false)], args := [d1, d2, d3, d4] }
  | _ => none }
def MutexSaysWrongFalsely : Prop := mutexSaysRow.holds Try.pinned (OpenSpec.ofChange mutexSaysWrong)

/-- 'aliblaw.HistoryEvents': WHATEVER THE INPUT: true; the input reads as it did. -/
def historyEventsSpec : ChangeSpec := { name := "historyEvents", fn := fun _ => fun
  | [d1, d2, d3, d4] => { results := [.lit (.bool true)], args := [d1, d2, d3, d4] }
  | _ => none }
def historyEventsRow : OpenClaim := { program := "ytppicbdaijiifaa", sum := "932a7c8b959e6ec26e23ce2ae03e8c33c98514486d3bab963ab0ae0890a82b19", func := "alibi/aliblaw.HistoryEvents", spec := "historyEvents", unfollowed := true, recurses := true, apart := false }
def HistoryEventsSaid : Prop := historyEventsRow.holds Try.pinned (OpenSpec.ofChange historyEventsSpec)

/-- ITS FALSE NEIGHBOUR: 'it returns false'. Refute it at one input. -/
def historyEventsWrong : ChangeSpec := { name := "historyEvents", fn := fun _ => fun
  | [d1, d2, d3, d4] => { results := [.lit (.bool false)], args := [d1, d2, d3, d4] }
  | _ => none }
def HistoryEventsWrongFalsely : Prop := historyEventsRow.holds Try.pinned (OpenSpec.ofChange historyEventsWrong)

/-- 'aliblaw.RegularSays': WHATEVER THE INPUT: true; the input reads as it did. -/
def regularSaysSpec : ChangeSpec := { name := "regularSays", fn := fun _ => fun
  | [d] => { results := [.lit (.bool true)], args := [d] }
  | _ => none }
def regularSaysRow : OpenClaim := { program := "ytppicbdaijiifaa", sum := "932a7c8b959e6ec26e23ce2ae03e8c33c98514486d3bab963ab0ae0890a82b19", func := "alibi/aliblaw.RegularSays", spec := "regularSays", unfollowed := true, recurses := true, apart := false }
def RegularSaysSaid : Prop := regularSaysRow.holds Try.pinned (OpenSpec.ofChange regularSaysSpec)

/-- ITS FALSE NEIGHBOUR: 'it returns false'. Refute it at one input. -/
def regularSaysWrong : ChangeSpec := { name := "regularSays", fn := fun _ => fun
  | [d] => { results := [.lit (.bool false)], args := [d] }
  | _ => none }
def RegularSaysWrongFalsely : Prop := regularSaysRow.holds Try.pinned (OpenSpec.ofChange regularSaysWrong)

/-- 'aliblaw.OrderLists': WHATEVER THE INPUT: true; the input reads as it did. -/
def orderListsSpec : ChangeSpec := { name := "orderLists", fn := fun _ => fun
  | [d] => { results := [.lit (.bool true)], args := [d] }
  | _ => none }
def orderListsRow : OpenClaim := { program := "ytppicbdaijiifaa", sum := "932a7c8b959e6ec26e23ce2ae03e8c33c98514486d3bab963ab0ae0890a82b19", func := "alibi/aliblaw.OrderLists", spec := "orderLists", recurses := true, apart := false }
def OrderListsSaid : Prop := orderListsRow.holds Try.pinned (OpenSpec.ofChange orderListsSpec)

/-- ITS FALSE NEIGHBOUR: 'it returns false'. Refute it at one input. -/
def orderListsWrong : ChangeSpec := { name := "orderLists", fn := fun _ => fun
  | [d] => { results := [.lit (.bool false)], args := [d] }
  | _ => none }
def OrderListsWrongFalsely : Prop := orderListsRow.holds Try.pinned (OpenSpec.ofChange orderListsWrong)

/-- 'aliblaw.StepsSay': WHATEVER THE INPUT: true; the input reads as it did. -/
def stepsSaySpec : ChangeSpec := { name := "stepsSay", fn := fun _ => fun
  | [d1, d2, d3] => { results := [.lit (.bool true)], args := [d1, d2, d3] }
  | _ => none }
def stepsSayRow : OpenClaim := { program := "ytppicbdaijiifaa", sum := "932a7c8b959e6ec26e23ce2ae03e8c33c98514486d3bab963ab0ae0890a82b19", func := "alibi/aliblaw.StepsSay", spec := "stepsSay", unfollowed := true, recurses := true, apart := false }
def StepsSaySaid : Prop := stepsSayRow.holds Try.pinned (OpenSpec.ofChange stepsSaySpec)

/-- ITS FALSE NEIGHBOUR: 'it returns false'. Refute it at one input. -/
def stepsSayWrong : ChangeSpec := { name := "stepsSay", fn := fun _ => fun
  | [d1, d2, d3] => { results := [.lit (.bool false)], args := [d1, d2, d3] }
  | _ => none }
def StepsSayWrongFalsely : Prop := stepsSayRow.holds Try.pinned (OpenSpec.ofChange stepsSayWrong)

/-- 'aliblaw.CausalSays': WHATEVER THE INPUT: true; the input reads as it did. -/
def causalSaysSpec : ChangeSpec := { name := "causalSays", fn := fun _ => fun
  | [d1, d2] => { results := [.lit (.bool true)], args := [d1, d2] }
  | _ => none }
def causalSaysRow : OpenClaim := { program := "ytppicbdaijiifaa", sum := "932a7c8b959e6ec26e23ce2ae03e8c33c98514486d3bab963ab0ae0890a82b19", func := "alibi/aliblaw.CausalSays", spec := "causalSays", unfollowed := true, recurses := true, apart := false }
def CausalSaysSaid : Prop := causalSaysRow.holds Try.pinned (OpenSpec.ofChange causalSaysSpec)

/-- ITS FALSE NEIGHBOUR: 'it returns false'. Refute it at one input. -/
def causalSaysWrong : ChangeSpec := { name := "causalSays", fn := fun _ => fun
  | [d1, d2] => { results := [.lit (.bool false)], args := [d1, d2] }
  | _ => none }
def CausalSaysWrongFalsely : Prop := causalSaysRow.holds Try.pinned (OpenSpec.ofChange causalSaysWrong)

/-- 'aliblaw.SerialSays': WHATEVER THE INPUT: true; the input reads as it did. -/
def serialSaysSpec : ChangeSpec := { name := "serialSays", fn := fun _ => fun
  | [d] => { results := [.lit (.bool true)], args := [d] }
  | _ => none }
def serialSaysRow : OpenClaim := { program := "ytppicbdaijiifaa", sum := "932a7c8b959e6ec26e23ce2ae03e8c33c98514486d3bab963ab0ae0890a82b19", func := "alibi/aliblaw.SerialSays", spec := "serialSays", recurses := true, apart := false }
def SerialSaysSaid : Prop := serialSaysRow.holds Try.pinned (OpenSpec.ofChange serialSaysSpec)

/-- ITS FALSE NEIGHBOUR: 'it returns false'. Refute it at one input. -/
def serialSaysWrong : ChangeSpec := { name := "serialSays", fn := fun _ => fun
  | [d] => { results := [.lit (.bool false)], args := [d] }
  | _ => none }
def SerialSaysWrongFalsely : Prop := serialSaysRow.holds Try.pinned (OpenSpec.ofChange serialSaysWrong)

/-- 'aliblaw.SitesSay': WHATEVER THE INPUT: true; the input reads as it did. -/
def sitesSaySpec : ChangeSpec := { name := "sitesSay", fn := fun _ => fun
  | [d1, d2, d3, d4] => { results := [.lit (.bool true)], args := [d1, d2, d3, d4] }
  | _ => none }
def sitesSayRow : OpenClaim := { program := "ytppicbdaijiifaa", sum := "932a7c8b959e6ec26e23ce2ae03e8c33c98514486d3bab963ab0ae0890a82b19", func := "alibi/aliblaw.SitesSay", spec := "sitesSay", unfollowed := true, recurses := true, apart := false }
def SitesSaySaid : Prop := sitesSayRow.holds Try.pinned (OpenSpec.ofChange sitesSaySpec)

/-- ITS FALSE NEIGHBOUR: 'it returns false'. Refute it at one input. -/
def sitesSayWrong : ChangeSpec := { name := "sitesSay", fn := fun _ => fun
  | [d1, d2, d3, d4] => { results := [.lit (.bool false)], args := [d1, d2, d3, d4] }
  | _ => none }
def SitesSayWrongFalsely : Prop := sitesSayRow.holds Try.pinned (OpenSpec.ofChange sitesSayWrong)

/-- 'aliblaw.LocalJoins': WHATEVER THE INPUT: true; the input reads as it did. -/
def localJoinsSpec : ChangeSpec := { name := "localJoins", fn := fun _ => fun
  | [d1, d2, d3] => { results := [.lit (.bool true)], args := [d1, d2, d3] }
  | _ => none }
def localJoinsRow : OpenClaim := { program := "ytppicbdaijiifaa", sum := "932a7c8b959e6ec26e23ce2ae03e8c33c98514486d3bab963ab0ae0890a82b19", func := "alibi/aliblaw.LocalJoins", spec := "localJoins", unfollowed := true, recurses := true, apart := false }
def LocalJoinsSaid : Prop := localJoinsRow.holds Try.pinned (OpenSpec.ofChange localJoinsSpec)

/-- ITS FALSE NEIGHBOUR: 'it returns false'. Refute it at one input. -/
def localJoinsWrong : ChangeSpec := { name := "localJoins", fn := fun _ => fun
  | [d1, d2, d3] => { results := [.lit (.bool false)], args := [d1, d2, d3] }
  | _ => none }
def LocalJoinsWrongFalsely : Prop := localJoinsRow.holds Try.pinned (OpenSpec.ofChange localJoinsWrong)

/-- 'aliblaw.SpansMake': WHATEVER THE INPUT: true; the input reads as it did. -/
def spansMakeSpec : ChangeSpec := { name := "spansMake", fn := fun _ => fun
  | [d] => { results := [.lit (.bool true)], args := [d] }
  | _ => none }
def spansMakeRow : OpenClaim := { program := "ytppicbdaijiifaa", sum := "932a7c8b959e6ec26e23ce2ae03e8c33c98514486d3bab963ab0ae0890a82b19", func := "alibi/aliblaw.SpansMake", spec := "spansMake", unfollowed := true, recurses := true, apart := false }
def SpansMakeSaid : Prop := spansMakeRow.holds Try.pinned (OpenSpec.ofChange spansMakeSpec)

/-- ITS FALSE NEIGHBOUR: 'it returns false'. Refute it at one input. -/
def spansMakeWrong : ChangeSpec := { name := "spansMake", fn := fun _ => fun
  | [d] => { results := [.lit (.bool false)], args := [d] }
  | _ => none }
def SpansMakeWrongFalsely : Prop := spansMakeRow.holds Try.pinned (OpenSpec.ofChange spansMakeWrong)

/- THE SECOND FORM. 'bulk': how many values and letters a reading holds, each counted each time it is reached (what is shared counts as often as it is met; a slice's spare places count too). A statement '..UptoSaid' is the law's where the arguments, and the package variables that the reading takes, are together of bulk at most 1048576: NARROWER than '..Said'. Prove '..Said' where nothing that the law and all that it calls make is longer than what came in: it says more and counts as full. Else prove '..UptoSaid'. A law counts once. -/
mutual
def uptoBulk {H : Type} : DataW H → Nat
  | .lit (.string bytes) => bytes.length + 1
  | .lit _ => 1
  | .nil => 1
  | .ptr d => uptoBulk d + 1
  | .slice elems spare => uptoBulkAll elems + uptoBulkAll spare + 1
  | .agg parts => uptoBulkAll parts + 1
  | .iface _ d => uptoBulk d + 1
  | .map entries => uptoBulkEntries entries + 1
  | .held _ => 1
def uptoBulkAll {H : Type} : List (DataW H) → Nat
  | [] => 0
  | d :: r => uptoBulk d + uptoBulkAll r
def uptoBulkEntries {H : Type} : List (Lit × DataW H) → Nat
  | [] => 0
  | x :: r => uptoBulkEntry x + uptoBulkEntries r
def uptoBulkEntry {H : Type} : Lit × DataW H → Nat
  | (.string bytes, d) => bytes.length + uptoBulk d + 1
  | (_, d) => uptoBulk d + 1
 end
def uptoSmall : (H : Type) → List (DataW H) → Bool := fun _ ds => decide (uptoBulkAll ds ≤ 1048576)
def OpenSpec.upto (s : _root_.Go.ChangeSpec) : _root_.Go.OpenSpec := { _root_.Go.OpenSpec.ofChange s with cond := some uptoSmall }

/-- 'aliblaw.MutexSays', WHERE WHAT IT READS IS OF BULK AT MOST 1048576: true; the input reads as it did. -/
def mutexSaysUptoRow : OpenClaim := { program := "ytppicbdaijiifaa", sum := "932a7c8b959e6ec26e23ce2ae03e8c33c98514486d3bab963ab0ae0890a82b19", func := "alibi/aliblaw.MutexSays", spec := "mutexSays", unfollowed := true, recurses := true, apart := false, narrowed := true }
def MutexSaysUptoSaid : Prop := mutexSaysUptoRow.holds Try.pinned (OpenSpec.upto mutexSaysSpec)

/-- 'aliblaw.HistoryEvents', WHERE WHAT IT READS IS OF BULK AT MOST 1048576: true; the input reads as it did. -/
def historyEventsUptoRow : OpenClaim := { program := "ytppicbdaijiifaa", sum := "932a7c8b959e6ec26e23ce2ae03e8c33c98514486d3bab963ab0ae0890a82b19", func := "alibi/aliblaw.HistoryEvents", spec := "historyEvents", unfollowed := true, recurses := true, apart := false, narrowed := true }
def HistoryEventsUptoSaid : Prop := historyEventsUptoRow.holds Try.pinned (OpenSpec.upto historyEventsSpec)

/-- 'aliblaw.RegularSays', WHERE WHAT IT READS IS OF BULK AT MOST 1048576: true; the input reads as it did. -/
def regularSaysUptoRow : OpenClaim := { program := "ytppicbdaijiifaa", sum := "932a7c8b959e6ec26e23ce2ae03e8c33c98514486d3bab963ab0ae0890a82b19", func := "alibi/aliblaw.RegularSays", spec := "regularSays", unfollowed := true, recurses := true, apart := false, narrowed := true }
def RegularSaysUptoSaid : Prop := regularSaysUptoRow.holds Try.pinned (OpenSpec.upto regularSaysSpec)

/-- 'aliblaw.OrderLists', WHERE WHAT IT READS IS OF BULK AT MOST 1048576: true; the input reads as it did. -/
def orderListsUptoRow : OpenClaim := { program := "ytppicbdaijiifaa", sum := "932a7c8b959e6ec26e23ce2ae03e8c33c98514486d3bab963ab0ae0890a82b19", func := "alibi/aliblaw.OrderLists", spec := "orderLists", recurses := true, apart := false, narrowed := true }
def OrderListsUptoSaid : Prop := orderListsUptoRow.holds Try.pinned (OpenSpec.upto orderListsSpec)

/-- 'aliblaw.StepsSay', WHERE WHAT IT READS IS OF BULK AT MOST 1048576: true; the input reads as it did. -/
def stepsSayUptoRow : OpenClaim := { program := "ytppicbdaijiifaa", sum := "932a7c8b959e6ec26e23ce2ae03e8c33c98514486d3bab963ab0ae0890a82b19", func := "alibi/aliblaw.StepsSay", spec := "stepsSay", unfollowed := true, recurses := true, apart := false, narrowed := true }
def StepsSayUptoSaid : Prop := stepsSayUptoRow.holds Try.pinned (OpenSpec.upto stepsSaySpec)

/-- 'aliblaw.CausalSays', WHERE WHAT IT READS IS OF BULK AT MOST 1048576: true; the input reads as it did. -/
def causalSaysUptoRow : OpenClaim := { program := "ytppicbdaijiifaa", sum := "932a7c8b959e6ec26e23ce2ae03e8c33c98514486d3bab963ab0ae0890a82b19", func := "alibi/aliblaw.CausalSays", spec := "causalSays", unfollowed := true, recurses := true, apart := false, narrowed := true }
def CausalSaysUptoSaid : Prop := causalSaysUptoRow.holds Try.pinned (OpenSpec.upto causalSaysSpec)

/-- 'aliblaw.SerialSays', WHERE WHAT IT READS IS OF BULK AT MOST 1048576: true; the input reads as it did. -/
def serialSaysUptoRow : OpenClaim := { program := "ytppicbdaijiifaa", sum := "932a7c8b959e6ec26e23ce2ae03e8c33c98514486d3bab963ab0ae0890a82b19", func := "alibi/aliblaw.SerialSays", spec := "serialSays", recurses := true, apart := false, narrowed := true }
def SerialSaysUptoSaid : Prop := serialSaysUptoRow.holds Try.pinned (OpenSpec.upto serialSaysSpec)

/-- 'aliblaw.SitesSay', WHERE WHAT IT READS IS OF BULK AT MOST 1048576: true; the input reads as it did. -/
def sitesSayUptoRow : OpenClaim := { program := "ytppicbdaijiifaa", sum := "932a7c8b959e6ec26e23ce2ae03e8c33c98514486d3bab963ab0ae0890a82b19", func := "alibi/aliblaw.SitesSay", spec := "sitesSay", unfollowed := true, recurses := true, apart := false, narrowed := true }
def SitesSayUptoSaid : Prop := sitesSayUptoRow.holds Try.pinned (OpenSpec.upto sitesSaySpec)

/-- 'aliblaw.LocalJoins', WHERE WHAT IT READS IS OF BULK AT MOST 1048576: true; the input reads as it did. -/
def localJoinsUptoRow : OpenClaim := { program := "ytppicbdaijiifaa", sum := "932a7c8b959e6ec26e23ce2ae03e8c33c98514486d3bab963ab0ae0890a82b19", func := "alibi/aliblaw.LocalJoins", spec := "localJoins", unfollowed := true, recurses := true, apart := false, narrowed := true }
def LocalJoinsUptoSaid : Prop := localJoinsUptoRow.holds Try.pinned (OpenSpec.upto localJoinsSpec)

/-- 'aliblaw.SpansMake', WHERE WHAT IT READS IS OF BULK AT MOST 1048576: true; the input reads as it did. -/
def spansMakeUptoRow : OpenClaim := { program := "ytppicbdaijiifaa", sum := "932a7c8b959e6ec26e23ce2ae03e8c33c98514486d3bab963ab0ae0890a82b19", func := "alibi/aliblaw.SpansMake", spec := "spansMake", unfollowed := true, recurses := true, apart := false, narrowed := true }
def SpansMakeUptoSaid : Prop := spansMakeUptoRow.holds Try.pinned (OpenSpec.upto spansMakeSpec)

end Rows
end Go.Proofs.Ytppicbdaijiifaa
