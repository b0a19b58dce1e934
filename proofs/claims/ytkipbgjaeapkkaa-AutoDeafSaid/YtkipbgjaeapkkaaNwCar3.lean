/- What (*car.work).begin does: a contract. -/
import Derived.Test.YtkipbgjaeapkkaaNwCar2
set_option linter.unusedSimpArgs false
set_option linter.unusedVariables false
namespace Go.Proofs.Ytkipbgjaeapkkaa
open Go.RowKit
namespace Nw

set_option maxRecDepth 100000 in
set_option maxHeartbeats 1000000 in
theorem car_begin3 (g : Ge) (c : Cr) (b : Nat) (w : World) (hB : Blk w b 115 (workC g c)) :
    Calls Try.prog 63 #[.pointer (some ⟨b, 0, none⟩), I 3] w fun e w' => e = .returned (.tuple #[]) ∧ Blk w' b 115 (workC g (c.begin_ g 3)) ∧ w.grownBy w' (some b) := by
  have hc := hB.cell
  have hf := hB.frozen
  have HB := Lib.hid hB; clear hB
  go_enter Try.func63, Try.ntmps63
  go_wp2
  go_quiet (fail)
  all_goals go_wp2
  all_goals go_end0
  all_goals exact ⟨rfl, ((HB.out.set_ 2 _).set_ 3 _).drewN _, grown_drewN (grown_set (grown_set (grown_refl _ _) _ _) _ _)⟩

set_option maxRecDepth 100000 in
set_option maxHeartbeats 1000000 in
theorem car_begin0 (g : Ge) (c : Cr) (b : Nat) (w : World) (hB : Blk w b 115 (workC g c)) :
    Calls Try.prog 63 #[.pointer (some ⟨b, 0, none⟩), I 0] w fun e w' => e = .returned (.tuple #[]) ∧ Blk w' b 115 (workC g (c.begin_ g 0)) ∧ w.grownBy w' (some b) := by
  have hc := hB.cell
  have hf := hB.frozen
  have HB := Lib.hid hB; clear hB
  go_enter Try.func63, Try.ntmps63
  go_wp2
  go_quiet (fail)
  all_goals go_wp2
  all_goals go_end0
  all_goals exact ⟨rfl, HB.out.drewN _, grown_drewN (grown_refl _ _)⟩

set_option maxRecDepth 100000 in
set_option maxHeartbeats 1000000 in
theorem car_begin1 (g : Ge) (c : Cr) (b : Nat) (w : World) (hB : Blk w b 115 (workC g c)) :
    Calls Try.prog 63 #[.pointer (some ⟨b, 0, none⟩), I 1] w fun e w' => e = .returned (.tuple #[]) ∧ Blk w' b 115 (workC g (c.begin_ g 1)) ∧ w.grownBy w' (some b) := by
  have hc := hB.cell
  have hf := hB.frozen
  have HB := Lib.hid hB; clear hB
  cases hw : within (wrap64 (c.floor + 1)) 0 (wrap64 (g.floors - 1))
  · have HV : Hid (c.begin_ g 1 = c) := by unfold Hid; show c.go g 1 = c; unfold Cr.go; rw [hw]; rfl
    go_enter Try.func63, Try.ntmps63
    go_wp2
    go_quiet ((go_at_call 54; exact quiet_left (car_within _ _ _ _)))
    all_goals go_wp2
    all_goals go_end0
    all_goals exact ⟨rfl, by rw [HV.out]; exact HB.out.drewN _, grown_drewN (grown_refl _ _)⟩
  · have HV : Hid (c.begin_ g 1 = ⟨c.floor, 1, 1, g.times.travel, c.door⟩) := by unfold Hid; show c.go g 1 = _; unfold Cr.go; rw [hw]; rfl
    go_enter Try.func63, Try.ntmps63
    go_wp2
    go_quiet ((go_at_call 54; exact quiet_left (car_within _ _ _ _)))
    all_goals go_wp2
    all_goals go_end0
    all_goals exact ⟨rfl, by rw [HV.out]; exact ((((HB.out.drewN _).set_ 2 _).set_ 1 _).set_ 3 _), grown_set (grown_set (grown_set (grown_drewN (grown_refl _ _)) _ _) _ _) _ _⟩

set_option maxRecDepth 100000 in
set_option maxHeartbeats 1000000 in
theorem car_begin2 (g : Ge) (c : Cr) (b : Nat) (w : World) (hB : Blk w b 115 (workC g c)) :
    Calls Try.prog 63 #[.pointer (some ⟨b, 0, none⟩), I 2] w fun e w' => e = .returned (.tuple #[]) ∧ Blk w' b 115 (workC g (c.begin_ g 2)) ∧ w.grownBy w' (some b) := by
  have hc := hB.cell
  have hf := hB.frozen
  have HB := Lib.hid hB; clear hB
  cases hw : within (wrap64 (c.floor + -1)) 0 (wrap64 (g.floors - 1))
  · have HV : Hid (c.begin_ g 2 = c) := by unfold Hid; show c.go g (-1) = c; unfold Cr.go; rw [hw]; rfl
    go_enter Try.func63, Try.ntmps63
    go_wp2
    go_quiet ((go_at_call 54; exact quiet_left (car_within _ _ _ _)))
    all_goals go_wp2
    all_goals go_end0
    all_goals exact ⟨rfl, by rw [HV.out]; exact HB.out.drewN _, grown_drewN (grown_refl _ _)⟩
  · have HV : Hid (c.begin_ g 2 = ⟨c.floor, -1, 1, g.times.travel, c.door⟩) := by unfold Hid; show c.go g (-1) = _; unfold Cr.go; rw [hw]; rfl
    go_enter Try.func63, Try.ntmps63
    go_wp2
    go_quiet ((go_at_call 54; exact quiet_left (car_within _ _ _ _)))
    all_goals go_wp2
    all_goals go_end0
    all_goals exact ⟨rfl, by rw [HV.out]; exact ((((HB.out.drewN _).set_ 2 _).set_ 1 _).set_ 3 _), grown_set (grown_set (grown_set (grown_drewN (grown_refl _ _)) _ _) _ _) _ _⟩

theorem car_begin (g : Ge) (c : Cr) (cmd : Int) (b : Nat) (w : World) (hB : Blk w b 115 (workC g c)) (hcmd : within cmd 0 3 = true) :
    Calls Try.prog 63 #[.pointer (some ⟨b, 0, none⟩), I cmd] w fun e w' => e = .returned (.tuple #[]) ∧ Blk w' b 115 (workC g (c.begin_ g cmd)) ∧ w.grownBy w' (some b) := by
  obtain ⟨h0, h3⟩ := within_iff.1 hcmd
  have hcase : cmd = 0 ∨ cmd = 1 ∨ cmd = 2 ∨ cmd = 3 := by omega
  rcases hcase with rfl | rfl | rfl | rfl
  · exact car_begin0 g c b w hB
  · exact car_begin1 g c b w hB
  · exact car_begin2 g c b w hB
  · exact car_begin3 g c b w hB
end Nw
end Go.Proofs.Ytkipbgjaeapkkaa
