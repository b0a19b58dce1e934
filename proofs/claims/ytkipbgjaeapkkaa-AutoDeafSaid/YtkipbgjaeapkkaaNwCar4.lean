/- What (*car.work).tick does: a contract. -/
import Derived.Test.YtkipbgjaeapkkaaNwCar2
import Derived.Test.YtkipbgjaeapkkaaNwDoor5
import Derived.RegionTactic
import Derived.ChangeAlike
set_option linter.unusedSimpArgs false
set_option linter.unusedVariables false
namespace Go.Proofs.Ytkipbgjaeapkkaa
open Go.RowKit
namespace Nw

set_option maxRecDepth 100000 in
set_option maxHeartbeats 1000000 in
theorem car_tick0 (g : Ge) (c : Cr) (held : Bool) (b : Nat) (w : World) (hB : Blk w b 115 (workC g c)) (h1 : (c.phase == 1) = false) (h2 : (c.phase == 2) = false) (h3 : (c.phase == 3) = false) :
    Calls Try.prog 64 #[.pointer (some ⟨b, 0, none⟩), .bool held] w fun e w' => e = .returned (.bool (c.tickChime g held)) ∧ Blk w' b 115 (workC g (c.tick g held)) ∧ w.grownBy w' (some b) := by
  have HV : Hid (c.tick g held = c ∧ c.tickChime g held = false) := by unfold Hid Cr.tick Cr.tickChime; rw [h1, h2, h3]; exact ⟨rfl, rfl⟩
  have hc := hB.cell
  have hf := hB.frozen
  have HB := Lib.hid hB; clear hB
  go_enter Try.func64, Try.ntmps64
  go_wp2
  go_ret
  exact ⟨by rw [HV.out.2]; rfl, by rw [HV.out.1]; exact HB.out, grown_refl _ _⟩

set_option maxRecDepth 100000 in
set_option maxHeartbeats 1000000 in
theorem car_tick1 (g : Ge) (fl dir left : Int) (d : Dr) (held : Bool) (b : Nat) (w : World) (hB : Blk w b 115 (workC g ⟨fl, dir, 1, left, d⟩)) :
    Calls Try.prog 64 #[.pointer (some ⟨b, 0, none⟩), .bool held] w fun e w' => e = .returned (.bool (Cr.tickChime g ⟨fl, dir, 1, left, d⟩ held)) ∧ Blk w' b 115 (workC g (Cr.tick g ⟨fl, dir, 1, left, d⟩ held)) ∧ w.grownBy w' (some b) := by
  have hc := hB.cell
  have hf := hB.frozen
  have HB := Lib.hid hB; clear hB
  cases hl : (wrap64 (left - 1) == 0)
  · have HV : Hid (Cr.tick g ⟨fl, dir, 1, left, d⟩ held = ⟨fl, dir, 1, wrap64 (left - 1), d⟩) := by unfold Hid Cr.tick; simp only [hl]; rfl
    go_enter Try.func64, Try.ntmps64
    go_wp2_with fail
    refine (car_done g ⟨fl, dir, 1, left, d⟩ b _ HB.out).mono ?_
    rintro e w1 ⟨rfl, hB1, hg1⟩
    rw [hl]
    go_wp2
    go_ret
    exact ⟨rfl, by rw [HV.out]; exact hB1, hg1⟩
  · have HV : Hid (Cr.tick g ⟨fl, dir, 1, left, d⟩ held = ⟨wrap64 (fl + dir), 0, 0, 0, Dr.zero⟩) := by unfold Hid Cr.tick; simp only [hl]; rfl
    go_enter Try.func64, Try.ntmps64
    go_wp2_with fail
    refine (car_done g ⟨fl, dir, 1, left, d⟩ b _ HB.out).mono ?_
    rintro e w1 ⟨rfl, hB1, hg1⟩
    rw [hl]
    have hc1 := hB1.cell
    have hf1 := hB1.frozen
    have HB1 := Lib.hid hB1; clear hB1
    clear hc hf
    go_wp2_with fail
    go_region
    all_goals go_wp2
    go_ret
    exact ⟨rfl, by rw [HV.out]; exact ((((((((HB1.out.set_ 0 _).set_ 1 _).set_ 2 _).set_ 3 _).set_ 4 _).set_ 5 _).set_ 6 _).drew), grown_drew (grown_set (grown_set (grown_set (grown_set (grown_set (grown_set (grown_set hg1 _ _) _ _) _ _) _ _) _ _) _ _) _ _)⟩

set_option maxRecDepth 100000 in
set_option maxHeartbeats 2000000 in
theorem car_tick2 (g : Ge) (fl dir left : Int) (d : Dr) (held : Bool) (b : Nat) (w : World) (hB : Blk w b 115 (workC g ⟨fl, dir, 2, left, d⟩)) (ht : g.times.ok = true) (hd : d.may = true) :
    Calls Try.prog 64 #[.pointer (some ⟨b, 0, none⟩), .bool held] w fun e w' => e = .returned (.bool (Cr.tickChime g ⟨fl, dir, 2, left, d⟩ held)) ∧ Blk w' b 115 (workC g (Cr.tick g ⟨fl, dir, 2, left, d⟩ held)) ∧ w.grownBy w' (some b) := by
  have hc := hB.cell
  have hf := hB.frozen
  have HB := Lib.hid hB; clear hB
  cases hl : (wrap64 (left - 1) == 0)
  · have HV : Hid (Cr.tick g ⟨fl, dir, 2, left, d⟩ held = ⟨fl, dir, 2, wrap64 (left - 1), d⟩) := by unfold Hid Cr.tick; simp only [hl]; rfl
    go_enter Try.func64, Try.ntmps64
    go_wp2_with fail
    refine (car_done g ⟨fl, dir, 2, left, d⟩ b _ HB.out).mono ?_
    rintro e w1 ⟨rfl, hB1, hg1⟩
    rw [hl]
    go_wp2
    go_ret
    exact ⟨rfl, by rw [HV.out]; exact hB1, hg1⟩
  · have HV : Hid (Cr.tick g ⟨fl, dir, 2, left, d⟩ held = ⟨fl, dir, 3, wrap64 (left - 1), d.ask g.times⟩) := by unfold Hid Cr.tick; simp only [hl]; rfl
    generalize hask : d.ask g.times = d2 at HV
    have HA := Lib.hid hask; clear hask
    go_enter Try.func64, Try.ntmps64
    go_wp2_with fail
    refine (car_done g ⟨fl, dir, 2, left, d⟩ b _ HB.out).mono ?_
    rintro e w1 ⟨rfl, hB1, hg1⟩
    rw [hl]
    have hc1 := hB1.cell
    have hf1 := hB1.frozen
    have hlt := hB1.lt
    have HB1 := Lib.hid hB1; clear hB1
    clear hc hf
    go_wp2_with fail
    go_region_with (first | (go_at_call 84; refine (door_Ask g.times d _ ht hd).mono ?_; rw [HA.out]; rintro e w2 ⟨rfl, hb2⟩; obtain ⟨hc2, hf2⟩ := bcell (undrew hb2)))
    all_goals go_wp2
    all_goals go_ret
    all_goals exact ⟨rfl, by rw [HV.out]; exact (((((HB1.out.set_ 2 _).belowAll (undrew hb2)).set_ 4 _).set_ 5 _).set_ 6 _), grown_set (grown_set (grown_set (grown_below (grown_set hg1 _ _) (undrew hb2)) _ _) _ _) _ _⟩
end Nw
end Go.Proofs.Ytkipbgjaeapkkaa
