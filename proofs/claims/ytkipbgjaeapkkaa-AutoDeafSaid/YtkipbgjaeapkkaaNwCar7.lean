/- What car.Step and car.Rest (of a car that is idle at floor 0) do: contracts, whole. -/
import Derived.Test.YtkipbgjaeapkkaaNwCar6
set_option linter.unusedSimpArgs false
set_option linter.unusedVariables false
namespace Go.Proofs.Ytkipbgjaeapkkaa
open Go.RowKit
namespace Nw

theorem Cr.begin_door (g : Ge) (c : Cr) (cmd : Int) : (c.begin_ g cmd).door = c.door := by
  unfold Cr.begin_ Cr.go
  simp only [Bool.cond_eq_ite]
  repeat' split
  all_goals rfl
theorem Cr.may_door {floors : Int} {c : Cr} (h : c.may floors = true) : c.door.may = true := by
  unfold Cr.may at h
  simp only [Bool.and_eq_true] at h
  exact h.1.2

theorem car_Step (g : Ge) (c : Cr) (o : Od) (w : World) (hg : g.ok = true) (hm : c.may g.floors = true) (hcmd : within o.cmd 0 3 = true) :
    Calls Try.prog 40 #[g.v, c.v, o.v] w fun e w' => e = .returned (.tuple #[(c.step g o).v, (c.shows g o).v, I 0]) ∧ Below w.heap.size w w' := by
  obtain ⟨cmd, held, fault⟩ := o
  cases fault
  · cases hp : (c.phase == 0)
    · refine (car_Step_busy g c cmd held w hg hm hcmd hp _ _ rfl rfl (Cr.may_door hm)).mono ?_
      rintro e w' ⟨rfl, hb⟩
      refine ⟨?_, hb⟩
      simp only [Cr.step, Cr.shows, Cr.begun, hp, cond_false]
    · refine (car_Step_idle g c cmd held w hg hm hcmd hp _ _ _ rfl rfl rfl (by rw [Cr.begin_door]; exact Cr.may_door hm)).mono ?_
      rintro e w' ⟨rfl, hb⟩
      refine ⟨?_, hb⟩
      simp only [Cr.step, Cr.shows, Cr.begun, hp, cond_false, cond_true]
  · exact car_Step_fault g c cmd held w hg hm hcmd

theorem Cr.zero_may {f : Int} (h : within f 2 64 = true) : Cr.zero.may f = true := by
  have h' := within_iff.1 h
  have hw : wrap64 (f - 1) = f - 1 := by unfold wrap64; omega
  have hd : Cr.zero.door.may = true := Dr.zero_may
  unfold Cr.may
  rw [h, hw, hd]
  simp [Cr.zero, Dr.zero, within]
  omega
theorem Ge.ok_floors {g : Ge} (h : g.ok = true) : within g.floors 2 64 = true := by
  unfold Ge.ok at h
  simp only [Bool.and_eq_true] at h
  exact h.1.1.2

set_option maxRecDepth 100000 in
set_option maxHeartbeats 1000000 in
theorem car_Rest_zero (g : Ge) (w : World) :
    Calls Try.prog 75 #[g.v, Cr.zero.v] w fun e w' => e = .returned (.tuple #[I 0, I (must g.ok 180)]) ∧ Below w.heap.size w w' := by
  cases hg : g.ok
  · have HM : Hid (must (g.ok && Cr.zero.may g.floors) 180 = 180) := by unfold Hid; rw [hg]; rfl
    go_enter Try.func75, Try.ntmps75
    go_wp2_with fail
    refine (car_check g Cr.zero _).mono ?_
    rintro e w1 ⟨rfl, hb1⟩
    rw [HM.out]
    go_wp2
    go_ret2
    exact ⟨rfl, behind (below2 _ _ _) hb1⟩
  · have HM : Hid (must (g.ok && Cr.zero.may g.floors) 180 = 0) := by unfold Hid; rw [hg, Cr.zero_may (Ge.ok_floors hg)]; rfl
    have HZ : Hid (must g.ok 170 = 0) := by unfold Hid; rw [hg]; rfl
    go_enter Try.func75, Try.ntmps75
    go_wp2_with fail
    refine (car_check g Cr.zero _).mono ?_
    rintro e w1 ⟨rfl, hb1⟩
    rw [HM.out]
    obtain ⟨hc1, hf1⟩ := bcell hb1
    have hzw10 : w.heap.size < w1.heap.size := by have := hb1.size; simp at this; omega
    have hzw11 : w.heap.size + 1 < w1.heap.size := by have := hb1.size; simp at this; omega
    go_wp2_with fail
    refine (door_Rest_zero g _).mono ?_
    rintro e w2 ⟨rfl, hb2⟩
    rw [HZ.out]
    have hb := behind (behind hb1 (below1 _ _)) hb2
    obtain ⟨hc2, hf2⟩ := bcell hb
    clear hc1 hf1
    go_wp2
    go_ret2
    exact ⟨by simp [Cr.zero, wrap64], behind (below2 _ _ _) hb⟩
end Nw
end Go.Proofs.Ytkipbgjaeapkkaa
