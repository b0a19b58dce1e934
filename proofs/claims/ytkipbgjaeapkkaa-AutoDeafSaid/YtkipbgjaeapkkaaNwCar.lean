/- What car.Check and car.check do: contracts. -/
import Derived.Test.YtkipbgjaeapkkaaNwDoor4
set_option linter.unusedSimpArgs false
set_option linter.unusedVariables false
namespace Go.Proofs.Ytkipbgjaeapkkaa
open Go.RowKit
namespace Nw

set_option maxHeartbeats 400000 in
theorem car_within (n a b : Int) (w : World) :
    Calls Try.prog 54 #[I n, I a, I b] w fun e w' => e = .returned (.bool (within n a b)) ∧ w = w' := by
  unfold within
  by_cases h1 : a ≤ n
  · go_enter Try.func54, Try.ntmps54
    go_wp2
    go_ret
    simp [h1]
  · go_enter Try.func54, Try.ntmps54
    go_wp2
    go_ret
    simp; omega

theorem must_is_false {b : Bool} {k : Int} (h : b = false) : k = must b k := by subst h; rfl
theorem must_is_true {b : Bool} {k : Int} (h : b = true) : 0 = must b k := by subst h; rfl

set_option maxRecDepth 100000 in
set_option maxHeartbeats 2000000 in
theorem car_Check_pre (floors : Int) (c : Cr) (w : World) (h : (within floors 2 64 && within c.floor 0 (wrap64 (floors - 1))) = false) :
    Calls Try.prog 27 #[I floors, c.v] w fun e w' => e = .returned (I 180) ∧ Below w.heap.size w w' := by
  cases h1 : within floors 2 64
  · go_enter Try.func27, Try.ntmps27
    go_wp2_with (go_at_call 54; refine (car_within _ _ _ _).mono ?_; rintro e w' ⟨rfl, rfl⟩)
    all_goals (go_ret; exact ⟨rfl, below1 _ _⟩)
  · rw [h1, Bool.true_and] at h
    go_enter Try.func27, Try.ntmps27
    go_wp2_with (go_at_call 54; refine (car_within _ _ _ _).mono ?_; rintro e w' ⟨rfl, rfl⟩)
    all_goals (go_ret; exact ⟨rfl, below1 _ _⟩)

set_option maxRecDepth 100000 in
set_option maxHeartbeats 4000000 in
theorem car_Check_in (floors : Int) (c : Cr) (w : World) (h1 : within floors 2 64 = true) (h2 : within c.floor 0 (wrap64 (floors - 1)) = true) :
    Calls Try.prog 27 #[I floors, c.v] w fun e w' => e = .returned (I (must (c.may floors) 180)) ∧ Below w.heap.size w w' := by
  unfold Cr.may
  cases hd : c.door.may
  · have HD := Lib.hid hd
    go_enter Try.func27, Try.ntmps27
    go_wp2_with (first | (go_at_call 54; refine (car_within _ _ _ _).mono ?_; rintro e w' ⟨rfl, rfl⟩) | (go_at_call 55; refine (door_Check c.door _).mono ?_; rw [HD.out]; rintro e w1 ⟨rfl, hb⟩; obtain ⟨hc, hf⟩ := bcell hb))
    all_goals (go_ret; exact ⟨by rw [h1, h2]; rfl, behind1 hb⟩)
  · have HD := Lib.hid hd
    rw [h1, h2]
    have H1 := Lib.hid h1
    go_enter Try.func27, Try.ntmps27
    go_wp2_with (first | (go_at_call 54; refine (car_within _ _ _ _).mono ?_; rintro e w' ⟨rfl, rfl⟩) | (go_at_call 55; refine (door_Check c.door _).mono ?_; rw [HD.out]; rintro e w1 ⟨rfl, hb⟩; obtain ⟨hc, hf⟩ := bcell hb))
    all_goals (go_ret; refine ⟨?_, behind1 hb⟩)
    all_goals (clear hc hf hb; refine congrArg (fun z => Ending.returned (I z)) ?_)
    all_goals first | refine must_is_false ?_ | refine must_is_true ?_
    all_goals (simp only [Bool.true_and, *]; first | done | rfl | (simp [Bool.cond_eq_ite] at *; first | done | omega | (repeat' split) <;> first | omega | (simp_all; done)))
end Nw
end Go.Proofs.Ytkipbgjaeapkkaa
