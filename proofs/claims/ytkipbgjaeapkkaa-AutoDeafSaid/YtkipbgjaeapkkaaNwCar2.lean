/- What car.Check and car.check do: contracts, whole. -/
import Derived.Test.YtkipbgjaeapkkaaNwCar
import Derived.BigQuiet
import Derived.Deep.QuietTactic
set_option linter.unusedSimpArgs false
set_option linter.unusedVariables false
namespace Go.Proofs.Ytkipbgjaeapkkaa
open Go.RowKit
namespace Nw

theorem car_Check (floors : Int) (c : Cr) (w : World) :
    Calls Try.prog 27 #[I floors, c.v] w fun e w' => e = .returned (I (must (c.may floors) 180)) ∧ Below w.heap.size w w' := by
  cases h : (within floors 2 64 && within c.floor 0 (wrap64 (floors - 1)))
  · have hv : c.may floors = false := by unfold Cr.may; rw [h]; rfl
    rw [hv]
    exact car_Check_pre floors c w h
  · rw [Bool.and_eq_true] at h
    exact car_Check_in floors c w h.1 h.2

set_option maxHeartbeats 1000000 in
theorem car_check (g : Ge) (c : Cr) (w : World) :
    Calls Try.prog 62 #[g.v, c.v] w fun e w' => e = .returned (I (must (g.ok && c.may g.floors) 180)) ∧ Below w.heap.size w w' := by
  cases hg : g.ok
  · go_enter Try.func62, Try.ntmps62
    go_wp2_with fail
    refine (door_Rest_zero g _).mono ?_
    rintro e w1 ⟨rfl, hb1⟩
    rw [hg, must_false]
    go_wp2
    go_ret
    exact ⟨rfl, behind (below2 _ _ _) hb1⟩
  · rw [Bool.true_and]
    go_enter Try.func62, Try.ntmps62
    go_wp2_with fail
    refine (door_Rest_zero g _).mono ?_
    rintro e w1 ⟨rfl, hb1⟩
    rw [hg, must_true]
    obtain ⟨hc1, hf1⟩ := bcell hb1
    go_wp2_with fail
    refine (car_Check g.floors c _).mono ?_
    rintro e w2 ⟨rfl, hb2⟩
    go_wp2
    go_ret
    exact ⟨rfl, behind (below2 _ _ _) (behind hb1 hb2)⟩

/-- the cells of a car at work -/
abbrev workC (g : Ge) (c : Cr) : Array Value := #[I c.floor, I c.dir, I c.phase, I c.left, I c.door.phase, I c.door.left, I c.door.held, I g.floors, I g.times.travel, I g.times.level, I g.times.opn, I g.times.dwell, I g.times.lead, I g.times.close, I g.times.hold, I g.dwell, I g.most]

/-- Only block b, and what is new, has turned. -/
theorem grown_refl (w : World) (b : Nat) : w.grownBy w (some b) := ⟨rfl, rfl, rfl, Nat.le_refl _, fun _ _ _ => rfl⟩
theorem grown_set {a w : World} {b : Nat} (h : a.grownBy w (some b)) (i : Nat) (u : Value) : a.grownBy (w.setCell ⟨b, i, none⟩ u) (some b) :=
  ⟨h.os, h.tape, h.output, by simpa [World.setCell] using h.size, fun k hk hne => (Below.heap_setCell w ⟨b, i, none⟩ u k (fun e => hne (by rw [e]))).trans (h.block k hk hne)⟩
theorem grown_drew {a w : World} {b : Nat} (h : a.grownBy w (some b)) : a.grownBy w.drew (some b) := ⟨h.os, h.tape, h.output, h.size, h.block⟩
theorem grown_drewN {a w : World} {b n : Nat} (h : a.grownBy w (some b)) : a.grownBy (w.drewN n) (some b) := ⟨h.os, h.tape, h.output, h.size, h.block⟩
theorem grown_below {a w w' : World} {b : Nat} (h : a.grownBy w (some b)) (hb : Below w.heap.size w w') : a.grownBy w' (some b) :=
  ⟨hb.os.trans h.os, hb.tape.trans h.tape, hb.output.trans h.output, Nat.le_trans h.size hb.size, fun k hk hne => (hb.block k (Nat.lt_of_lt_of_le hk h.size)).trans (h.block k hk hne)⟩
theorem grown_trans_ {a w w' : World} {b : Nat} (h : a.grownBy w (some b)) (hb : w.grownBy w' (some b)) : a.grownBy w' (some b) :=
  ⟨hb.os.trans h.os, hb.tape.trans h.tape, hb.output.trans h.output, Nat.le_trans h.size hb.size, fun k hk hne => (hb.block k (Nat.lt_of_lt_of_le hk h.size) hne).trans (h.block k hk hne)⟩

set_option maxHeartbeats 400000 in
theorem car_done (g : Ge) (c : Cr) (b : Nat) (w : World) (hB : Blk w b 115 (workC g c)) :
    Calls Try.prog 83 #[.pointer (some ⟨b, 0, none⟩)] w fun e w' => e = .returned (.bool (wrap64 (c.left - 1) == 0)) ∧ Blk w' b 115 (workC g ⟨c.floor, c.dir, c.phase, wrap64 (c.left - 1), c.door⟩) ∧ w.grownBy w' (some b) := by
  have hc := hB.cell
  have hf := hB.frozen
  have HB := Lib.hid hB; clear hB
  go_enter Try.func83, Try.ntmps83
  go_wp2
  go_ret
  exact ⟨rfl, HB.out.set_ 3 _, grown_set (grown_refl _ _) _ _⟩

theorem quiet_left {P : Program} {f : FuncId} {args : Array Value} {w : World} {n : Nat} {v : Value}
    (h : Calls P f args (w.drewN n) fun e w' => e = .returned v ∧ w.drewN n = w') : Calls P f args (w.drewN n) fun e w'' => e = .returned v ∧ ∃ m, w'' = w.drewN m :=
  h.mono fun _ _ ⟨he, hm⟩ => ⟨he, n, hm.symm⟩
end Nw
end Go.Proofs.Ytkipbgjaeapkkaa
