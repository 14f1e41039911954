/-
  No cell of these rows narrows 'for every input' (looked for: loops, veiled, ifaces, maps, wideKeys, modest, calm, conditions, laid).
  DERIVED. THE GIVEN ROWS OF THIS SEAT. 8 by the template 'for every input the law returns true; each argument reads behind the call as it read before'; 0 by the template 'total and deterministic' (their statements: YtnbgcgpkpakicaaTotals.lean).
  GIVEN WITH THE SEED: the statements are not yours to turn. If you find one false, say at which input.
  Laid BY PROGRAM, IN A SANDBOX (cutbox-rows.mjs): the forced cells as the released guide's own fill.sh prints them over the translation 1508d7e1b10b8f71… (all of the seat's roots in one cut). By AI agents, Wed Nov 11 2026. No macro, syntax, notation, axiom, sorry.
-/
import Derived.Test.YtnbgcgpkpakicaaChecked
import GoSem.Claim
import GoSem.ClaimJoined
import GoSem.ClaimMapViews
import Derived.JoinedTies
import Derived.KernelRfl
namespace Go.Proofs.Ytnbgcgpkpakicaa
/- THE CELL 'sum', in the pinned program and in every row, IS THE sha256 OF THE DUMP (.gsa) THAT YtnbgcgpkpakicaaProg.lean LOADS. Nothing in Lean hashes anything: it is a label: what it is worth is what the hold of that sum in a sandbox is worth. -/
noncomputable def Try.pinned : Pinned := { name := "ytnbgcgpkpakicaa", sum := "1508d7e1b10b8f71526d7cc75ba3a6f0e5ded4a3aca57d647f3d66e2910f5559", checked := Try.checked }
namespace Rows
def none {H : Type} : Left H := { results := [], args := [] }

/-- 'aliblaw.Names': WHATEVER THE INPUT: true; the input reads as it did. -/
def namesSpec : ChangeSpec := { name := "names", fn := fun _ => fun
  | [] => { results := [.lit (.bool true)], args := [] }
  | _ => none }
def namesRow : OpenClaim := { program := "ytnbgcgpkpakicaa", sum := "1508d7e1b10b8f71526d7cc75ba3a6f0e5ded4a3aca57d647f3d66e2910f5559", func := "alibi/aliblaw.Names", spec := "names", apart := false }
def NamesSaid : Prop := namesRow.holds Try.pinned (OpenSpec.ofChange namesSpec)

/-- ITS FALSE NEIGHBOUR: 'it returns false'. Refute it at one input. -/
def namesWrong : ChangeSpec := { name := "names", fn := fun _ => fun
  | [] => { results := [.lit (.bool false)], args := [] }
  | _ => none }
def NamesWrongFalsely : Prop := namesRow.holds Try.pinned (OpenSpec.ofChange namesWrong)

/-- 'aliblaw.SpansSay': WHATEVER THE INPUT: true; the input reads as it did. -/
def spansSaySpec : ChangeSpec := { name := "spansSay", fn := fun _ => fun
  | [d] => { results := [.lit (.bool true)], args := [d] }
  | _ => none }
def spansSayRow : OpenClaim := { program := "ytnbgcgpkpakicaa", sum := "1508d7e1b10b8f71526d7cc75ba3a6f0e5ded4a3aca57d647f3d66e2910f5559", func := "alibi/aliblaw.SpansSay", spec := "spansSay", apart := false }
def SpansSaySaid : Prop := spansSayRow.holds Try.pinned (OpenSpec.ofChange spansSaySpec)

/-- ITS FALSE NEIGHBOUR: 'it returns false'. Refute it at one input. -/
def spansSayWrong : ChangeSpec := { name := "spansSay", fn := fun _ => fun
  | [d] => { results := [.lit (.bool false)], args := [d] }
  | _ => none }
def SpansSayWrongFalsely : Prop := spansSayRow.holds Try.pinned (OpenSpec.ofChange spansSayWrong)

/-- 'aliblaw.SerialLocks': WHATEVER THE INPUT: true; the input reads as it did. -/
def serialLocksSpec : ChangeSpec := { name := "serialLocks", fn := fun _ => fun
  | [d] => { results := [.lit (.bool true)], args := [d] }
  | _ => none }
def serialLocksRow : OpenClaim := { program := "ytnbgcgpkpakicaa", sum := "1508d7e1b10b8f71526d7cc75ba3a6f0e5ded4a3aca57d647f3d66e2910f5559", func := "alibi/aliblaw.SerialLocks", spec := "serialLocks", apart := false }
def SerialLocksSaid : Prop := serialLocksRow.holds Try.pinned (OpenSpec.ofChange serialLocksSpec)

/-- ITS FALSE NEIGHBOUR: 'it returns false'. Refute it at one input. -/
def serialLocksWrong : ChangeSpec := { name := "serialLocks", fn := fun _ => fun
  | [d] => { results := [.lit (.bool false)], args := [d] }
  | _ => none }
def SerialLocksWrongFalsely : Prop := serialLocksRow.holds Try.pinned (OpenSpec.ofChange serialLocksWrong)

/-- 'aliblaw.ClocksSay': WHATEVER THE INPUT: true; the input reads as it did. -/
def clocksSaySpec : ChangeSpec := { name := "clocksSay", fn := fun _ => fun
  | [d] => { results := [.lit (.bool true)], args := [d] }
  | _ => none }
def clocksSayRow : OpenClaim := { program := "ytnbgcgpkpakicaa", sum := "1508d7e1b10b8f71526d7cc75ba3a6f0e5ded4a3aca57d647f3d66e2910f5559", func := "alibi/aliblaw.ClocksSay", spec := "clocksSay", apart := false }
def ClocksSaySaid : Prop := clocksSayRow.holds Try.pinned (OpenSpec.ofChange clocksSaySpec)

/-- ITS FALSE NEIGHBOUR: 'it returns false'. Refute it at one input. -/
def clocksSayWrong : ChangeSpec := { name := "clocksSay", fn := fun _ => fun
  | [d] => { results := [.lit (.bool false)], args := [d] }
  | _ => none }
def ClocksSayWrongFalsely : Prop := clocksSayRow.holds Try.pinned (OpenSpec.ofChange clocksSayWrong)

/-- 'aliblaw.AgreeSays': WHATEVER THE INPUT: true; the input reads as it did. -/
def agreeSaysSpec : ChangeSpec := { name := "agreeSays", fn := fun _ => fun
  | [d1, d2, d3] => { results := [.lit (.bool true)], args := [d1, d2, d3] }
  | _ => none }
def agreeSaysRow : OpenClaim := { program := "ytnbgcgpkpakicaa", sum := "1508d7e1b10b8f71526d7cc75ba3a6f0e5ded4a3aca57d647f3d66e2910f5559", func := "alibi/aliblaw.AgreeSays", spec := "agreeSays", unfollowed := true, recurses := true, apart := false }
def AgreeSaysSaid : Prop := agreeSaysRow.holds Try.pinned (OpenSpec.ofChange agreeSaysSpec)

/-- ITS FALSE NEIGHBOUR: 'it returns false'. Refute it at one input. -/
def agreeSaysWrong : ChangeSpec := { name := "agreeSays", fn := fun _ => fun
  | [d1, d2, d3] => { results := [.lit (.bool false)], args := [d1, d2, d3] }
  | _ => none }
def AgreeSaysWrongFalsely : Prop := agreeSaysRow.holds Try.pinned (OpenSpec.ofChange agreeSaysWrong)

/-- 'aliblaw.ClocksCuts': WHATEVER THE INPUT: true; the input reads as it did. -/
def clocksCutsSpec : ChangeSpec := { name := "clocksCuts", fn := fun _ => fun
  | [d1, d2] => { results := [.lit (.bool true)], args := [d1, d2] }
  | _ => none }
def clocksCutsRow : OpenClaim := { program := "ytnbgcgpkpakicaa", sum := "1508d7e1b10b8f71526d7cc75ba3a6f0e5ded4a3aca57d647f3d66e2910f5559", func := "alibi/aliblaw.ClocksCuts", spec := "clocksCuts", apart := false }
def ClocksCutsSaid : Prop := clocksCutsRow.holds Try.pinned (OpenSpec.ofChange clocksCutsSpec)

/-- ITS FALSE NEIGHBOUR: 'it returns false'. Refute it at one input. -/
def clocksCutsWrong : ChangeSpec := { name := "clocksCuts", fn := fun _ => fun
  | [d1, d2] => { results := [.lit (.bool false)], args := [d1, d2] }
  | _ => none }
def ClocksCutsWrongFalsely : Prop := clocksCutsRow.holds Try.pinned (OpenSpec.ofChange clocksCutsWrong)

/-- 'aliblaw.OrderSays': WHATEVER THE INPUT: true; the input reads as it did. -/
def orderSaysSpec : ChangeSpec := { name := "orderSays", fn := fun _ => fun
  | [d] => { results := [.lit (.bool true)], args := [d] }
  | _ => none }
def orderSaysRow : OpenClaim := { program := "ytnbgcgpkpakicaa", sum := "1508d7e1b10b8f71526d7cc75ba3a6f0e5ded4a3aca57d647f3d66e2910f5559", func := "alibi/aliblaw.OrderSays", spec := "orderSays", recurses := true, apart := false }
def OrderSaysSaid : Prop := orderSaysRow.holds Try.pinned (OpenSpec.ofChange orderSaysSpec)

/-- ITS FALSE NEIGHBOUR: 'it returns false'. Refute it at one input. -/
def orderSaysWrong : ChangeSpec := { name := "orderSays", fn := fun _ => fun
  | [d] => { results := [.lit (.bool false)], args := [d] }
  | _ => none }
def OrderSaysWrongFalsely : Prop := orderSaysRow.holds Try.pinned (OpenSpec.ofChange orderSaysWrong)

/-- 'aliblaw.HistoryCalls': WHATEVER THE INPUT: true; the input reads as it did. -/
def historyCallsSpec : ChangeSpec := { name := "historyCalls", fn := fun _ => fun
  | [d1, d2, d3, d4] => { results := [.lit (.bool true)], args := [d1, d2, d3, d4] }
  | _ => none }
def historyCallsRow : OpenClaim := { program := "ytnbgcgpkpakicaa", sum := "1508d7e1b10b8f71526d7cc75ba3a6f0e5ded4a3aca57d647f3d66e2910f5559", func := "alibi/aliblaw.HistoryCalls", spec := "historyCalls", unfollowed := true, recurses := true, apart := false }
def HistoryCallsSaid : Prop := historyCallsRow.holds Try.pinned (OpenSpec.ofChange historyCallsSpec)

/-- ITS FALSE NEIGHBOUR: 'it returns false'. Refute it at one input. -/
def historyCallsWrong : ChangeSpec := { name := "historyCalls", fn := fun _ => fun
  | [d1, d2, d3, d4] => { results := [.lit (.bool false)], args := [d1, d2, d3, d4] }
  | _ => none }
def HistoryCallsWrongFalsely : Prop := historyCallsRow.holds Try.pinned (OpenSpec.ofChange historyCallsWrong)

/- THE SECOND FORM. 'bulk': how many values and letters a reading holds, each counted each time it is reached (what is shared counts as often as it is met; a slice's spare places count too). A statement '..UptoSaid' is the law's where the arguments, and the package variables that the reading takes, are together of bulk at most 1048576: NARROWER than '..Said'. Prove '..Said' where nothing that the law and all that it calls make is longer than what came in: it says more and counts as full. Else prove '..UptoSaid'. A law counts once. -/
mutual
def uptoBulk {H : Type} : DataW H → Nat
  | .lit (.string bytes) => bytes.length + 1
  | .lit _ => 1
  | .nil => 1
  | .ptr d => uptoBulk d + 1
  | .slice elems spare => uptoBulkAll elems + uptoBulkAll spare + 1
  | .agg parts => uptoBulkAll parts + 1
  | .iface _ d => uptoBulk d + 1
  | .map entries => uptoBulkEntries entries + 1
  | .held _ => 1
def uptoBulkAll {H : Type} : List (DataW H) → Nat
  | [] => 0
  | d :: r => uptoBulk d + uptoBulkAll r
def uptoBulkEntries {H : Type} : List (Lit × DataW H) → Nat
  | [] => 0
  | x :: r => uptoBulkEntry x + uptoBulkEntries r
def uptoBulkEntry {H : Type} : Lit × DataW H → Nat
  | (.string bytes, d) => bytes.length + uptoBulk d + 1
  | (_, d) => uptoBulk d + 1
 end
def uptoSmall : (H : Type) → List (DataW H) → Bool := fun _ ds => decide (uptoBulkAll ds ≤ 1048576)
def OpenSpec.upto (s : _root_.Go.ChangeSpec) : _root_.Go.OpenSpec := { _root_.Go.OpenSpec.ofChange s with cond := some uptoSmall }

/-- 'aliblaw.Names', WHERE WHAT IT READS IS OF BULK AT MOST 1048576: true; the input reads as it did. -/
def namesUptoRow : OpenClaim := { program := "ytnbgcgpkpakicaa", sum := "1508d7e1b10b8f71526d7cc75ba3a6f0e5ded4a3aca57d647f3d66e2910f5559", func := "alibi/aliblaw.Names", spec := "names", apart := false, narrowed := true }
def NamesUptoSaid : Prop := namesUptoRow.holds Try.pinned (OpenSpec.upto namesSpec)

/-- 'aliblaw.SpansSay', WHERE WHAT IT READS IS OF BULK AT MOST 1048576: true; the input reads as it did. -/
def spansSayUptoRow : OpenClaim := { program := "ytnbgcgpkpakicaa", sum := "1508d7e1b10b8f71526d7cc75ba3a6f0e5ded4a3aca57d647f3d66e2910f5559", func := "alibi/aliblaw.SpansSay", spec := "spansSay", apart := false, narrowed := true }
def SpansSayUptoSaid : Prop := spansSayUptoRow.holds Try.pinned (OpenSpec.upto spansSaySpec)

/-- 'aliblaw.SerialLocks', WHERE WHAT IT READS IS OF BULK AT MOST 1048576: true; the input reads as it did. -/
def serialLocksUptoRow : OpenClaim := { program := "ytnbgcgpkpakicaa", sum := "1508d7e1b10b8f71526d7cc75ba3a6f0e5ded4a3aca57d647f3d66e2910f5559", func := "alibi/aliblaw.SerialLocks", spec := "serialLocks", apart := false, narrowed := true }
def SerialLocksUptoSaid : Prop := serialLocksUptoRow.holds Try.pinned (OpenSpec.upto serialLocksSpec)

/-- 'aliblaw.ClocksSay', WHERE WHAT IT READS IS OF BULK AT MOST 1048576: true; the input reads as it did. -/
def clocksSayUptoRow : OpenClaim := { program := "ytnbgcgpkpakicaa", sum := "1508d7e1b10b8f71526d7cc75ba3a6f0e5ded4a3aca57d647f3d66e2910f5559", func := "alibi/aliblaw.ClocksSay", spec := "clocksSay", apart := false, narrowed := true }
def ClocksSayUptoSaid : Prop := clocksSayUptoRow.holds Try.pinned (OpenSpec.upto clocksSaySpec)

/-- 'aliblaw.AgreeSays', WHERE WHAT IT READS IS OF BULK AT MOST 1048576: true; the input reads as it did. -/
def agreeSaysUptoRow : OpenClaim := { program := "ytnbgcgpkpakicaa", sum := "1508d7e1b10b8f71526d7cc75ba3a6f0e5ded4a3aca57d647f3d66e2910f5559", func := "alibi/aliblaw.AgreeSays", spec := "agreeSays", unfollowed := true, recurses := true, apart := false, narrowed := true }
def AgreeSaysUptoSaid : Prop := agreeSaysUptoRow.holds Try.pinned (OpenSpec.upto agreeSaysSpec)

/-- 'aliblaw.ClocksCuts', WHERE WHAT IT READS IS OF BULK AT MOST 1048576: true; the input reads as it did. -/
def clocksCutsUptoRow : OpenClaim := { program := "ytnbgcgpkpakicaa", sum := "1508d7e1b10b8f71526d7cc75ba3a6f0e5ded4a3aca57d647f3d66e2910f5559", func := "alibi/aliblaw.ClocksCuts", spec := "clocksCuts", apart := false, narrowed := true }
def ClocksCutsUptoSaid : Prop := clocksCutsUptoRow.holds Try.pinned (OpenSpec.upto clocksCutsSpec)

/-- 'aliblaw.OrderSays', WHERE WHAT IT READS IS OF BULK AT MOST 1048576: true; the input reads as it did. -/
def orderSaysUptoRow : OpenClaim := { program := "ytnbgcgpkpakicaa", sum := "1508d7e1b10b8f71526d7cc75ba3a6f0e5ded4a3aca57d647f3d66e2910f5559", func := "alibi/aliblaw.OrderSays", spec := "orderSays", recurses := true, apart := false, narrowed := true }
def OrderSaysUptoSaid : Prop := orderSaysUptoRow.holds Try.pinned (OpenSpec.upto orderSaysSpec)

/-- 'aliblaw.HistoryCalls', WHERE WHAT IT READS IS OF BULK AT MOST 1048576: true; the input reads as it did. -/
def historyCallsUptoRow : OpenClaim := { program := "ytnbgcgpkpakicaa", sum := "1508d7e1b10b8f71526d7cc75ba3a6f0e5ded4a3aca57d647f3d66e2910f5559", func := "alibi/aliblaw.HistoryCalls", spec := "historyCalls", unfollowed := true, recurses := true, apart := false, narrowed := true }
def HistoryCallsUptoSaid : Prop := historyCallsUptoRow.holds Try.pinned (OpenSpec.upto historyCallsSpec)

end Rows
end Go.Proofs.Ytnbgcgpkpakicaa
