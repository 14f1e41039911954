/- The reference's Between: what it computes, for all numbers. -/
import Derived.Test.YtppicbdaijiifaaRows
import Derived.Test.YtppicbdaijiifaaBase
set_option linter.unusedSimpArgs false
set_option linter.unusedVariables false
set_option linter.unusedSectionVars false
set_option linter.unnecessarySimpa false
namespace Go.Proofs.Ytppicbdaijiifaa
open Go.RowKit
theorem between_any (a b c : Int) (w : World) :
    Calls Try.prog 23 #[.int .i64 a, .int .i64 b, .int .i64 c] w fun e w' => e = .returned (.bool (decide (b ≤ a) && decide (a ≤ c))) ∧ w = w' := by
  by_cases h1 : b ≤ a
  · by_cases h2 : a ≤ c
    · go_enter Try.func23, Try.ntmps23
      go_wp2
      go_ret
      simp [h1, h2]
    · go_enter Try.func23, Try.ntmps23
      go_wp2
      go_ret
      simp; omega
  · have h1' : decide (b ≤ a) = false := by simpa using h1
    go_enter Try.func23, Try.ntmps23
    go_wp2
    go_ret
    simp

end Go.Proofs.Ytppicbdaijiifaa
