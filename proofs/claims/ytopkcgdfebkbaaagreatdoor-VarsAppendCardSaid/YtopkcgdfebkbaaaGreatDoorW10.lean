/- Walks: how many arguments a function takes; the stack of what is open; parse.Cut. -/
import Derived.Test.YtopkcgdfebkbaaaGreatDoorW9
import Derived.ArgAppend
set_option linter.unusedVariables false
set_option linter.unusedSimpArgs false
namespace Go.Proofs.YtopkcgdfebkbaaaGreatDoor
open Go.RowKit
attribute [local go_sem] B_size B_toList B_extract B_append drop_take_all

set_option maxRecDepth 100000 in
set_option maxHeartbeats 1000000 in
theorem many_any (name : Bytes) (w : World) :
    Calls Tryz.prog 210 #[.string (B name)] w fun e w' => e = .returned (.int .i64 (manyB name)) ∧ w' = w := by
  go_enter Tryz.func210, Tryz.ntmps210
  go_wp2
  all_goals first
    | (exfalso; simp_all; done)
    | (go_ret; exact ⟨by simp_all [manyB], rfl⟩)
end Go.Proofs.YtopkcgdfebkbaaaGreatDoor
