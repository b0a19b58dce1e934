/- What door.Ask, door.Rest and door.Step do: contracts. -/
import Derived.Test.YtkipbgjaeapkkaaNwDoor3
set_option linter.unusedSimpArgs false
set_option linter.unusedVariables false
namespace Go.Proofs.Ytkipbgjaeapkkaa
open Go.RowKit
namespace Nw

set_option maxHeartbeats 1000000 in
theorem door_Ask (t : Tm) (d : Dr) (w : World) (ht : t.ok = true) (hd : d.may = true) :
    Calls Try.prog 84 #[t.v, d.v] w fun e w' => e = .returned (.tuple #[(d.ask t).v, I 0]) ∧ Below w.heap.size w w' := by
  unfold Dr.ask
  cases hp : (d.phase == 0)
  all_goals
    first | rw [cond_false] | rw [cond_true]
    go_enter Try.func84, Try.ntmps84
    go_wp2_with fail
    refine (door_times t _).mono ?_
    rintro e w1 ⟨rfl, hb1⟩
    rw [ht]
    obtain ⟨hc1, hf1⟩ := bcell hb1
    go_wp2_with fail
    refine (door_Check d _).mono ?_
    rintro e w2 ⟨rfl, hb2⟩
    rw [hd, must_true]
    have hb := behind hb1 hb2
    clear hc1 hf1 hb1 hb2
    obtain ⟨hc, hf⟩ := bcell hb
    have hz : w.heap.size + 1 + 1 < w2.heap.size := by have := hb.size; simp at this; omega
    go_wp2
  · exact bodyPost_ret (v := .tuple #[d.v, I 0]) (by simp [results, Try.results84, go_sem, hc, hz]) rfl ⟨rfl, (((behind (below3 _ _ _ _) hb).setCell (by show w.heap.size ≤ w.heap.size + 1 + 1; omega) _).setCell (by show w.heap.size ≤ w.heap.size + 1 + 1; omega) _).setCell (by show w.heap.size ≤ w.heap.size + 1 + 1; omega) _⟩
  · exact bodyPost_ret (v := .tuple #[.agg #[I 1, I t.opn, I 0], I 0]) (by simp [results, Try.results84, go_sem, hc, hz]) rfl ⟨rfl, ((((((behind (below3 _ _ _ _) hb).setCell (by show w.heap.size ≤ w.heap.size + 1; omega) _).setCell (by show w.heap.size ≤ w.heap.size + 1; omega) _).setCell (by show w.heap.size ≤ w.heap.size + 1; omega) _).setCell (by show w.heap.size ≤ w.heap.size + 1 + 1; omega) _).setCell (by show w.heap.size ≤ w.heap.size + 1 + 1; omega) _).setCell (by show w.heap.size ≤ w.heap.size + 1 + 1; omega) _⟩

/-- door.Rest of a door that is shut: whether the gear may be. -/
theorem Dr.zero_may : Dr.zero.may = true := by decide
set_option maxHeartbeats 1000000 in
theorem door_Rest_zero (g : Ge) (w : World) :
    Calls Try.prog 82 #[g.v, Dr.zero.v] w fun e w' => e = .returned (.tuple #[I 0, I (must g.ok 170)]) ∧ Below w.heap.size w w' := by
  cases hg : g.ok
  · go_enter Try.func82, Try.ntmps82
    go_wp2_with fail
    refine (door_gear g _).mono ?_
    rintro e w1 ⟨rfl, hb1⟩
    rw [hg]
    go_wp2
    go_ret2
    exact ⟨rfl, behind (below2 _ _ _) hb1⟩
  · go_enter Try.func82, Try.ntmps82
    go_wp2_with fail
    refine (door_gear g _).mono ?_
    rintro e w1 ⟨rfl, hb1⟩
    rw [hg]
    obtain ⟨hc1, hf1⟩ := bcell hb1
    go_wp2_with fail
    refine (door_Check Dr.zero _).mono ?_
    rintro e w2 ⟨rfl, hb2⟩
    rw [Dr.zero_may, must_true]
    have hb := behind hb1 hb2
    clear hc1 hf1 hb1 hb2
    obtain ⟨hc, hf⟩ := bcell hb
    go_wp2
    go_ret2
    exact ⟨rfl, behind (below2 _ _ _) hb⟩
end Nw
end Go.Proofs.Ytkipbgjaeapkkaa
