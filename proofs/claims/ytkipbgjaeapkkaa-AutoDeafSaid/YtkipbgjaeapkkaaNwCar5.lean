/- What (*car.work).tick does with a door: a contract. -/
import Derived.Test.YtkipbgjaeapkkaaNwCar4
set_option linter.unusedSimpArgs false
set_option linter.unusedVariables false
namespace Go.Proofs.Ytkipbgjaeapkkaa
open Go.RowKit
namespace Nw

set_option maxRecDepth 100000 in
set_option maxHeartbeats 4000000 in
theorem car_tick3 (g : Ge) (fl dir left : Int) (d : Dr) (held : Bool) (b : Nat) (w : World) (hB : Blk w b 115 (workC g ⟨fl, dir, 3, left, d⟩)) (hg : g.ok = true) (hd : d.may = true) :
    Calls Try.prog 64 #[.pointer (some ⟨b, 0, none⟩), .bool held] w fun e w' => e = .returned (.bool (Cr.tickChime g ⟨fl, dir, 3, left, d⟩ held)) ∧ Blk w' b 115 (workC g (Cr.tick g ⟨fl, dir, 3, left, d⟩ held)) ∧ w.grownBy w' (some b) := by
  have hc := hB.cell
  have hf := hB.frozen
  have hlt := hB.lt
  have HB := Lib.hid hB; clear hB
  have HV : Hid (Cr.tick g ⟨fl, dir, 3, left, d⟩ held = ⟨fl, dir, bif (d.step g held).phase == 0 then 0 else 3, left, d.step g held⟩ ∧ Cr.tickChime g ⟨fl, dir, 3, left, d⟩ held = d.chime g held) := ⟨rfl, rfl⟩
  have hcon := fun W => door_Step g d held W hg hd
  generalize d.step g held = d2 at HV hcon
  generalize d.chime g held = ch at HV hcon
  generalize Cr.tickChime g ⟨fl, dir, 3, left, d⟩ held = ch2 at *
  generalize Cr.tick g ⟨fl, dir, 3, left, d⟩ held = c2 at *
  have Hcon := Lib.hid hcon; clear hcon
  cases hp : (d2.phase == 0)
  all_goals
    rw [hp] at HV
    go_enter Try.func64, Try.ntmps64
    go_wp2_with fail
    go_region_with (first | (go_at_call 85; refine (Hcon.out _).mono ?_; rintro e w2 ⟨rfl, hb2⟩; obtain ⟨hc2, hf2⟩ := bcell (undrew hb2)))
    all_goals go_wp2
    all_goals go_ret
  · all_goals exact ⟨by rw [HV.out.2]; rfl, by rw [HV.out.1]; exact ((((HB.out.belowAll (undrew hb2)).set_ 4 _).set_ 5 _).set_ 6 _), grown_set (grown_set (grown_set (grown_below (grown_refl _ _) (undrew hb2)) _ _) _ _) _ _⟩
  · exact ⟨by rw [HV.out.2]; rfl, by rw [HV.out.1]; exact ((((HB.out.belowAll (undrew hb2)).set_ 4 _).set_ 5 _).set_ 6 _), grown_set (grown_set (grown_set (grown_below (grown_refl _ _) (undrew hb2)) _ _) _ _) _ _⟩
  · exact ⟨by rw [HV.out.2]; rfl, by rw [HV.out.1]; exact (((((HB.out.belowAll (undrew hb2)).set_ 4 _).set_ 5 _).set_ 6 _).set_ 2 _), grown_set (grown_set (grown_set (grown_set (grown_below (grown_refl _ _) (undrew hb2)) _ _) _ _) _ _) _ _⟩
  · exact ⟨by rw [HV.out.2]; rfl, by rw [HV.out.1]; exact (((((HB.out.belowAll (undrew hb2)).set_ 4 _).set_ 5 _).set_ 6 _).set_ 2 _), grown_set (grown_set (grown_set (grown_set (grown_below (grown_refl _ _) (undrew hb2)) _ _) _ _) _ _) _ _⟩

theorem car_tick (g : Ge) (c : Cr) (held : Bool) (b : Nat) (w : World) (hB : Blk w b 115 (workC g c)) (hg : g.ok = true) (hd : c.door.may = true) :
    Calls Try.prog 64 #[.pointer (some ⟨b, 0, none⟩), .bool held] w fun e w' => e = .returned (.bool (c.tickChime g held)) ∧ Blk w' b 115 (workC g (c.tick g held)) ∧ w.grownBy w' (some b) := by
  obtain ⟨fl, dir, phase, left, d⟩ := c
  have ht : g.times.ok = true := by
    unfold Ge.ok at hg
    simp only [Bool.and_eq_true] at hg
    exact hg.1.1.1
  cases h1 : (phase == 1)
  · cases h2 : (phase == 2)
    · cases h3 : (phase == 3)
      · exact car_tick0 g ⟨fl, dir, phase, left, d⟩ held b w hB h1 h2 h3
      · obtain rfl : phase = 3 := by simpa using h3
        exact car_tick3 g fl dir left d held b w hB hg hd
    · obtain rfl : phase = 2 := by simpa using h2
      exact car_tick2 g fl dir left d held b w hB ht hd
  · obtain rfl : phase = 1 := by simpa using h1
    exact car_tick1 g fl dir left d held b w hB
end Nw
end Go.Proofs.Ytkipbgjaeapkkaa
