/- What the calls of package door do: contracts. -/
import Derived.Test.YtkipbgjaeapkkaaNwDoor
set_option linter.unusedSimpArgs false
set_option linter.unusedVariables false
namespace Go.Proofs.Ytkipbgjaeapkkaa
open Go.RowKit
namespace Nw

set_option maxHeartbeats 400000 in
theorem door_on (d : Dr) (next left : Int) (w : World) :
    Calls Try.prog 92 #[d.v, I next, I left] w fun e w' => e = .returned (d.on_ next left).v ∧ Below w.heap.size w w' := by
  by_cases h : wrap64 (d.left - 1) = 0
  · have hv : d.on_ next left = ⟨next, left, d.held⟩ := by unfold Dr.on_; rw [h]; rfl
    have hb : (wrap64 (d.left - 1) == 0) = true := by rw [h]; rfl
    clear h
    rw [hv]; clear hv
    go_enter Try.func92, Try.ntmps92
    go_wp2
    exact bodyPost_ret (v := .agg #[I next, I left, I d.held]) (by simp [results, Try.results92, go_sem]) rfl ⟨rfl, below2 _ _ _⟩
  · have hb : (wrap64 (d.left - 1) == 0) = false := beq_eq_false_iff_ne.2 h
    have hv : d.on_ next left = ⟨d.phase, wrap64 (d.left - 1), d.held⟩ := by unfold Dr.on_; rw [hb]; rfl
    clear h
    rw [hv]; clear hv
    go_enter Try.func92, Try.ntmps92
    go_wp2
    exact bodyPost_ret (v := .agg #[I d.phase, I (wrap64 (d.left - 1)), I d.held]) (by simp [results, Try.results92, go_sem]) rfl ⟨rfl, below2 _ _ _⟩

set_option maxHeartbeats 400000 in
theorem door_shut (g : Ge) (d : Dr) (held : Bool) (w : World) :
    Calls Try.prog 90 #[g.v, d.v, .bool held] w fun e w' => e = .returned d.v ∧ Below w.heap.size w w' := by
  go_enter Try.func90, Try.ntmps90
  go_wp2
  exact bodyPost_ret (v := d.v) (by simp [results, Try.results90, go_sem]) rfl ⟨rfl, below3 _ _ _ _⟩

set_option maxHeartbeats 400000 in
theorem door_opening (g : Ge) (d : Dr) (held : Bool) (w : World) :
    Calls Try.prog 91 #[g.v, d.v, .bool held] w fun e w' => e = .returned (d.on_ 2 g.dwell).v ∧ Below w.heap.size w w' := by
  generalize hd : d.on_ 2 g.dwell = d2
  have HD := Lib.hid hd; clear hd
  go_enter Try.func91, Try.ntmps91
  go_wp2_with fail
  refine (door_on d _ _ _).mono ?_
  rintro e w1 ⟨rfl, hb⟩
  rw [HD.out]
  obtain ⟨hc, hf⟩ := bcell hb
  have hz : w.heap.size + 1 + 1 < w1.heap.size + 1 := by have := hb.size; simp at this; omega
  go_wp2
  exact bodyPost_ret (v := d2.v) (by simp [results, Try.results91, go_sem, hc, hz]) rfl ⟨rfl, (((behind (below3 _ _ _ _) hb).setCell (by show w.heap.size ≤ w.heap.size + 1 + 1; omega) _).setCell (by show w.heap.size ≤ w.heap.size + 1 + 1; omega) _).setCell (by show w.heap.size ≤ w.heap.size + 1 + 1; omega) _⟩

set_option maxHeartbeats 400000 in
theorem door_open (g : Ge) (d : Dr) (held : Bool) (w : World) :
    Calls Try.prog 93 #[g.v, d.v, .bool held] w fun e w' => e = .returned (d.open_ g held).v ∧ Below w.heap.size w w' := by
  unfold Dr.open_
  cases held
  · rw [cond_false]
    generalize hd : d.on_ 3 g.times.close = d2
    have HD := Lib.hid hd; clear hd
    go_enter Try.func93, Try.ntmps93
    go_wp2_with fail
    refine (door_on d _ _ _).mono ?_
    rintro e w1 ⟨rfl, hb⟩
    rw [HD.out]
    obtain ⟨hc, hf⟩ := bcell hb
    have hz : w.heap.size + 1 + 1 < w1.heap.size + 1 := by have := hb.size; simp at this; omega
    go_wp2
    exact bodyPost_ret (v := d2.v) (by simp [results, Try.results93, go_sem, hc, hz]) rfl ⟨rfl, (((behind (below3 _ _ _ _) hb).setCell (by show w.heap.size ≤ w.heap.size + 1 + 1; omega) _).setCell (by show w.heap.size ≤ w.heap.size + 1 + 1; omega) _).setCell (by show w.heap.size ≤ w.heap.size + 1 + 1; omega) _⟩
  · rw [cond_true]
    go_enter Try.func93, Try.ntmps93
    go_wp2
    exact bodyPost_ret (v := .agg #[I d.phase, I g.dwell, I (wrap64 (d.held + 1))]) (by simp [results, Try.results93, go_sem]) rfl ⟨rfl, below3 _ _ _ _⟩

set_option maxHeartbeats 1000000 in
theorem door_closing (g : Ge) (d : Dr) (held : Bool) (w : World) :
    Calls Try.prog 94 #[g.v, d.v, .bool held] w fun e w' => e = .returned (d.closing g held).v ∧ Below w.heap.size w w' := by
  unfold Dr.closing
  cases held
  · rw [cond_false]
    generalize hd : d.on_ 0 0 = d2
    have HD := Lib.hid hd; clear hd
    cases hp : (d2.phase == 0)
    all_goals
      first | rw [cond_false] | rw [cond_true]
      go_enter Try.func94, Try.ntmps94
      go_wp2_with fail
      refine (door_on d _ _ _).mono ?_
      rintro e w1 ⟨rfl, hb⟩
      rw [HD.out]
      obtain ⟨hc, hf⟩ := bcell hb
      have hz : w.heap.size + 1 + 1 < w1.heap.size + 1 := by have := hb.size; simp at this; omega
      have hss := setCell_setCell
      go_wp2
      clear hss
    · exact bodyPost_ret (v := .agg #[I d2.phase, I d2.left, I d2.held]) (by simp [results, Try.results94, go_sem, hc, hz]) rfl ⟨rfl, ((((((behind (below3 _ _ _ _) hb).setCell (by show w.heap.size ≤ w.heap.size + 1; omega) _).setCell (by show w.heap.size ≤ w.heap.size + 1; omega) _).setCell (by show w.heap.size ≤ w.heap.size + 1; omega) _).setCell (by show w.heap.size ≤ w.heap.size + 1 + 1; omega) _).setCell (by show w.heap.size ≤ w.heap.size + 1 + 1; omega) _).setCell (by show w.heap.size ≤ w.heap.size + 1 + 1; omega) _⟩
    · exact bodyPost_ret (v := .agg #[I d2.phase, I d2.left, I 0]) (by simp [results, Try.results94, go_sem, hc, hz]) rfl ⟨rfl, ((((((behind (below3 _ _ _ _) hb).setCell (by show w.heap.size ≤ w.heap.size + 1; omega) _).setCell (by show w.heap.size ≤ w.heap.size + 1; omega) _).setCell (by show w.heap.size ≤ w.heap.size + 1; omega) _).setCell (by show w.heap.size ≤ w.heap.size + 1 + 1; omega) _).setCell (by show w.heap.size ≤ w.heap.size + 1 + 1; omega) _).setCell (by show w.heap.size ≤ w.heap.size + 1 + 1; omega) _⟩
  · rw [cond_true]
    go_enter Try.func94, Try.ntmps94
    go_wp2
    exact bodyPost_ret (v := .agg #[I 1, I g.times.opn, I (wrap64 (d.held + 1))]) (by simp [results, Try.results94, go_sem]) rfl ⟨rfl, below3 _ _ _ _⟩
end Nw
end Go.Proofs.Ytkipbgjaeapkkaa
