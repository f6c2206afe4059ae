/-
  bit.at: eight bits at a place; bit.bytes: how many bytes so many bits need.
-/
import Derived.Test.YtokolgelmikfmaaProg
import Derived.Test.YtokolgelmikfmaaBase
import Derived.Test.YtokolgelmikfmaaPl2
import Derived.Deep.QuietTactic
import Derived.BigQuiet
import Derived.Laws.Pointers
namespace Go.Proofs.Ytokolgelmikfmaa
open Go.RowKit Pl
set_option linter.unusedVariables false

set_option maxHeartbeats 400000 in
theorem bytes_any (n : Int) (w : World) (h0 : 0 ≤ n) (h1 : n ≤ 9223372036854775807) :
    Calls Try.prog 28 #[.int .i64 n] w fun e w' => e = .returned (.int .i64 ((n + 7) / 8)) ∧ w = w' := by
  go_enter Try.func28, Try.ntmps28
  go_wp2
  all_goals
    go_ret
    exact ⟨ret_int (by omega), rfl⟩

end Go.Proofs.Ytokolgelmikfmaa
