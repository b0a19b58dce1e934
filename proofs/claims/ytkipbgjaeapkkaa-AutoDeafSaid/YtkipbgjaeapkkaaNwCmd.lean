/- What cycle.Cmd, cycle.First and cycle.Length do: contracts. -/
import Derived.Test.YtkipbgjaeapkkaaNwWithin
set_option linter.unusedSimpArgs false
set_option linter.unusedVariables false
namespace Go.Proofs.Ytkipbgjaeapkkaa
open Go.RowKit
namespace Nw

theorem cycle_within_some (g : Ge) (p : Pl) (ll : Ll) (phase : Int) (x : Pt) (n : Int) (w : World) (hIn : p.In ll w) (hg : g.ok = true) (hp : p.Ok g.floors) (h : p.within g phase = some (x, n)) :
    Calls Try.prog 53 #[g.v, p.v ll, I phase] w fun e w' => e = .returned (.tuple #[x.v, I n, I 0]) ∧ Below w.heap.size w w' := by
  refine (cycle_within g p ll phase w hIn hg hp).mono ?_
  rintro e w' ⟨rfl, hb⟩
  refine ⟨?_, hb⟩
  unfold Pl.within at h
  unfold withinV
  cases hf : (p.parts g).find? (inPart phase) with
  | none => rw [hf] at h; cases h
  | some y => rw [hf] at h; simp at h; obtain ⟨rfl, rfl⟩ := h; rfl
theorem cycle_within_none (g : Ge) (p : Pl) (ll : Ll) (phase : Int) (w : World) (hIn : p.In ll w) (hg : g.ok = true) (hp : p.Ok g.floors) (h : p.within g phase = none) :
    Calls Try.prog 53 #[g.v, p.v ll, I phase] w fun e w' => e = .returned (.tuple #[(⟨0, 0, 0⟩ : Pt).v, I 0, I 221]) ∧ Below w.heap.size w w' := by
  refine (cycle_within g p ll phase w hIn hg hp).mono ?_
  rintro e w' ⟨rfl, hb⟩
  refine ⟨?_, hb⟩
  unfold Pl.within at h
  unfold withinV
  cases hf : (p.parts g).find? (inPart phase) with
  | none => rfl
  | some y => rw [hf] at h; cases h

set_option maxHeartbeats 1000000 in
theorem cycle_Cmd (g : Ge) (p : Pl) (ll : Ll) (phase : Int) (x : Pt) (n : Int) (w : World) (hIn : p.In ll w) (hg : g.ok = true) (hp : p.Ok g.floors) (h : p.within g phase = some (x, n)) :
    Calls Try.prog 65 #[g.v, p.v ll, I phase] w fun e w' => e = .returned (.tuple #[I (cmdOf x n), I 0]) ∧ Below w.heap.size w w' := by
  have HIn := Lib.hid hIn; have Hg := Lib.hid hg; have Hp := Lib.hid hp; have Hh := Lib.hid h
  clear hIn hp hg h
  unfold cmdOf
  cases h1 : decide (0 < n) <;> cases h2 : decide (0 < x.dir) <;> cases h3 : decide (x.dir < 0)
  all_goals
    go_enter Try.func65, Try.ntmps65
    go_wp2_with fail
  all_goals
    refine (cycle_within_some g p ll phase x n _ (by first | exact ((HIn.out.alloc _).alloc _).alloc _ | exact (HIn.out.alloc _).alloc _) Hg.out Hp.out Hh.out).mono ?_
    rintro e w1 ⟨rfl, hb1⟩
    obtain ⟨hc1, hf1⟩ := bcell hb1
    have hz0 : w.heap.size < w1.heap.size := by have := hb1.size; simp at this; omega
    have hz1 : w.heap.size + 1 < w1.heap.size := by have := hb1.size; simp at this; omega
    have hB := behind (below2 _ _ _) hb1
    have hs := hB.size
    go_wp2
    go_ret2
    exact ⟨rfl, hB.alloc hs _⟩

set_option maxHeartbeats 1000000 in
theorem cycle_Cmd_none (g : Ge) (p : Pl) (ll : Ll) (phase : Int) (w : World) (hIn : p.In ll w) (hg : g.ok = true) (hp : p.Ok g.floors) (h : p.within g phase = none) :
    Calls Try.prog 65 #[g.v, p.v ll, I phase] w fun e w' => e = .returned (.tuple #[I 0, I 221]) ∧ Below w.heap.size w w' := by
  have HIn := Lib.hid hIn; have Hg := Lib.hid hg; have Hp := Lib.hid hp; have Hh := Lib.hid h
  clear hIn hp hg h
  go_enter Try.func65, Try.ntmps65
  go_wp2_with fail
  refine (cycle_within_none g p ll phase _ ((HIn.out.alloc _).alloc _) Hg.out Hp.out Hh.out).mono ?_
  rintro e w1 ⟨rfl, hb1⟩
  obtain ⟨hc1, hf1⟩ := bcell hb1
  have hz0 : w.heap.size < w1.heap.size := by have := hb1.size; simp at this; omega
  have hz1 : w.heap.size + 1 < w1.heap.size := by have := hb1.size; simp at this; omega
  have hB := behind (below2 _ _ _) hb1
  have hs := hB.size
  go_wp2
  go_ret2
  exact ⟨rfl, hB.alloc hs _⟩
end Nw
end Go.Proofs.Ytkipbgjaeapkkaa
