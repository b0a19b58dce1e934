/- What the calls of package config do: contracts. -/
import Derived.Test.YtkipbgjaeapkkaaNwWords
set_option linter.unusedSimpArgs false
set_option linter.unusedVariables false
namespace Go.Proofs.Ytkipbgjaeapkkaa
open Go.RowKit
namespace Nw

set_option maxHeartbeats 400000 in
theorem config_within (n a b : Int) (w : World) :
    Calls Try.prog 67 #[I n, I a, I b] w fun e w' => e = .returned (.bool (within n a b)) ∧ w = w' := by
  unfold within
  by_cases h1 : a ≤ n
  · go_enter Try.func67, Try.ntmps67
    go_wp2
    go_ret
    simp [h1]
  · go_enter Try.func67, Try.ntmps67
    go_wp2
    go_ret
    simp; omega

set_option maxHeartbeats 400000 in
theorem config_must (b : Bool) (k : Int) (w : World) :
    Calls Try.prog 66 #[.bool b, I k] w fun e w' => e = .returned (I (must b k)) ∧ w = w' := by
  cases b
  · go_enter Try.func66, Try.ntmps66
    go_wp2
    go_ret
    simp
  · go_enter Try.func66, Try.ntmps66
    go_wp2
    go_ret
    simp

set_option maxHeartbeats 400000 in
theorem config_size (c : Cf) (l : Cl) (w : World) :
    Calls Try.prog 43 #[c.v l] w fun e w' => e = .returned (I (must c.sizeB 100)) ∧ Below w.heap.size w w' := by
  unfold Cf.sizeB
  go_enter Try.func43, Try.ntmps43
  go_wp2_with (first | (go_at_call 67; refine (config_within _ _ _ _).mono ?_; rintro e w' ⟨rfl, rfl⟩) | (go_at_call 66; refine (config_must _ _ _).mono ?_; rintro e w' ⟨rfl, rfl⟩))
  all_goals (go_ret; exact ⟨by simp [*], below1 _ _⟩)

set_option maxHeartbeats 4000000 in
theorem config_Window (x : Wn) (w : World) :
    Calls Try.prog 73 #[x.v] w fun e w' => e = .returned (I (must x.ok 104)) ∧ Below w.heap.size w w' := by
  unfold Wn.ok Wn.may Wn.timed
  cases hs : (x.shift == 0)
  all_goals
    go_enter Try.func73, Try.ntmps73
    go_wp2_with (first | (go_at_call 67; refine (config_within _ _ _ _).mono ?_; rintro e w' ⟨rfl, rfl⟩) | (go_at_call 66; refine (config_must _ _ _).mono ?_; rintro e w' ⟨rfl, rfl⟩))
    all_goals (go_ret; refine ⟨?_, below1 _ _⟩)
    all_goals (clear hs; first | (simp only [*, Bool.and_true, Bool.and_false, Bool.true_and, Bool.false_and, cond_true, cond_false]; done) | (simp only [*, Bool.and_true, Bool.and_false, Bool.true_and, Bool.false_and, cond_true, cond_false]; rfl) | (simp_all [must]; done) | (simp_all [must]; rw [show (x.arg == 0) = false from beq_eq_false_iff_ne.2 (by assumption)]; rfl))

end Nw
end Go.Proofs.Ytkipbgjaeapkkaa
