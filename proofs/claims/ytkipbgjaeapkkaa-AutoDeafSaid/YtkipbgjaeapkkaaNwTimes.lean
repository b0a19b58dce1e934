/- What config.times does: a contract. -/
import Derived.Test.YtkipbgjaeapkkaaNwConfig
set_option linter.unusedSimpArgs false
set_option linter.unusedVariables false
namespace Go.Proofs.Ytkipbgjaeapkkaa
open Go.RowKit
namespace Nw

set_option maxRecDepth 100000 in
set_option maxHeartbeats 4000000 in
theorem config_times (c : Cf) (l : Cl) (w : World) :
    Calls Try.prog 45 #[c.v l] w fun e w' => e = .returned (I (must c.timesB 102)) ∧ Below w.heap.size w w' := by
  unfold Cf.timesB
  by_cases hx : c.rest < c.times.dwell
  all_goals
    go_enter Try.func45, Try.ntmps45
    go_wp2
    refine wp_loop_rounds 6 ?_
    repeat any_goals (rw [rounds_succ]; go_wp2_with (first | (go_at_call 67; refine (config_within _ _ _ _).mono ?_; rintro e w' ⟨rfl, rfl⟩) | (go_at_call 66; refine (config_must _ _ _).mono ?_; rintro e w' ⟨rfl, rfl⟩)))
    all_goals (go_ret; refine ⟨?_, below3 _ _ _ _⟩)
    all_goals (simp only [timesTo, Tm.five, List.getElem?_cons_zero, List.getElem?_cons_succ, Option.getD_some, mn, Bool.and_true, Bool.and_false, Bool.true_and, Bool.false_and, *]; first | done | rfl | (simp [*]; done) | (refine congrArg (fun z => Ending.returned (I (must (within c.times.lead 1 z) 102))) ?_; (first | simp only [if_true] | simp only [show ¬ (c.rest < c.times.dwell) by omega, if_false]); (repeat' split) <;> omega))
end Nw
end Go.Proofs.Ytkipbgjaeapkkaa
