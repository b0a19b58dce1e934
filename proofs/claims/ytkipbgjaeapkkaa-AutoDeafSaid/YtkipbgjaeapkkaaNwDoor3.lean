/- What door.Check does: a contract. -/
import Derived.Test.YtkipbgjaeapkkaaNwDoor2
import Derived.RegionTactic
import Derived.BigQuiet
import Derived.Deep.QuietTactic
import Derived.Deep.RegionWith
set_option linter.unusedSimpArgs false
set_option linter.unusedVariables false
namespace Go.Proofs.Ytkipbgjaeapkkaa
open Go.RowKit
namespace Nw

/-- what phases() hands out -/
abbrev phasesV : Value := .agg #[I 0, .func (.func 90) #[] #[], I 60, .func (.func 91) #[] #[], I 300, .func (.func 93) #[] #[], I 60, .func (.func 94) #[] #[]]

theorem phases_0 (w : World) : (Instr.index 132 phasesV (.int .i64 0)).run Try.prog w = .ok (.agg #[I 0, .func (.func 90) #[] #[]]) w := by kernel_rfl
theorem phases_most0 (w : World) : (Instr.field 131 (.agg #[I 0, .func (.func 90) #[] #[]]) 0).run Try.prog w = .ok (I 0) w := by kernel_rfl
theorem phases_tick0 (w : World) : (Instr.field 131 (.agg #[I 0, .func (.func 90) #[] #[]]) 1).run Try.prog w = .ok (.func (.func 90) #[] #[]) w := by kernel_rfl
theorem phases_1 (w : World) : (Instr.index 132 phasesV (.int .i64 1)).run Try.prog w = .ok (.agg #[I 60, .func (.func 91) #[] #[]]) w := by kernel_rfl
theorem phases_most1 (w : World) : (Instr.field 131 (.agg #[I 60, .func (.func 91) #[] #[]]) 0).run Try.prog w = .ok (I 60) w := by kernel_rfl
theorem phases_tick1 (w : World) : (Instr.field 131 (.agg #[I 60, .func (.func 91) #[] #[]]) 1).run Try.prog w = .ok (.func (.func 91) #[] #[]) w := by kernel_rfl
theorem phases_2 (w : World) : (Instr.index 132 phasesV (.int .i64 2)).run Try.prog w = .ok (.agg #[I 300, .func (.func 93) #[] #[]]) w := by kernel_rfl
theorem phases_most2 (w : World) : (Instr.field 131 (.agg #[I 300, .func (.func 93) #[] #[]]) 0).run Try.prog w = .ok (I 300) w := by kernel_rfl
theorem phases_tick2 (w : World) : (Instr.field 131 (.agg #[I 300, .func (.func 93) #[] #[]]) 1).run Try.prog w = .ok (.func (.func 93) #[] #[]) w := by kernel_rfl
theorem phases_3 (w : World) : (Instr.index 132 phasesV (.int .i64 3)).run Try.prog w = .ok (.agg #[I 60, .func (.func 94) #[] #[]]) w := by kernel_rfl
theorem phases_most3 (w : World) : (Instr.field 131 (.agg #[I 60, .func (.func 94) #[] #[]]) 0).run Try.prog w = .ok (I 60) w := by kernel_rfl
theorem phases_tick3 (w : World) : (Instr.field 131 (.agg #[I 60, .func (.func 94) #[] #[]]) 1).run Try.prog w = .ok (.func (.func 94) #[] #[]) w := by kernel_rfl

set_option maxRecDepth 100000 in
set_option maxHeartbeats 2000000 in
theorem door_Check (d : Dr) (w : World) :
    Calls Try.prog 55 #[d.v] w fun e w' => e = .returned (I (must d.may 170)) ∧ Below w.heap.size w w' := by
  cases hp : within d.phase 0 3
  · have HV : Hid (d.may = false) := by unfold Hid Dr.may; rw [hp]; rfl
    go_enter Try.func55, Try.ntmps55
    go_wp2_with (go_at_call 78; refine (door_within _ _ _ _).mono ?_; rintro e w' ⟨rfl, rfl⟩)
    go_ret
    exact ⟨by rw [HV.out]; rfl, below1 _ _⟩
  · obtain ⟨hp0, hp3⟩ := within_iff.1 hp
    obtain ⟨phase, left, held⟩ := d
    dsimp only at hp hp0 hp3 ⊢
    have hcase : phase = 0 ∨ phase = 1 ∨ phase = 2 ∨ phase = 3 := by omega
    rcases hcase with rfl | rfl | rfl | rfl
    · have HV : Hid (Dr.may ⟨0, left, held⟩ = (within left 0 0 && within held 0 0)) := rfl
      have hi := phases_0
      have hm := phases_most0
      go_enter Try.func55, Try.ntmps55
      go_wp2_with (go_at_call 78; refine (door_within _ _ _ _).mono ?_; rintro e w' ⟨rfl, rfl⟩)
      go_region_with (go_at_call 79; refine (door_phases _).mono ?_; rintro e w1 ⟨rfl, hb⟩; obtain ⟨hc, hf⟩ := bcell hb)
      all_goals go_wp2_with (go_at_call 78; refine (door_within _ _ _ _).mono ?_; rintro e w' ⟨rfl, rfl⟩)
      all_goals (go_ret; refine ⟨?_, behind (below1 _ _).drew hb⟩)
      all_goals (rw [HV.out]; clear hi hm hc hf hb; first | (simp [*]; done) | (simp_all [must]; done))
    · have HV : Hid (Dr.may ⟨1, left, held⟩ = (within left 1 60 && within held 0 60)) := rfl
      have hi := phases_1
      have hm := phases_most1
      go_enter Try.func55, Try.ntmps55
      go_wp2_with (go_at_call 78; refine (door_within _ _ _ _).mono ?_; rintro e w' ⟨rfl, rfl⟩)
      go_region_with (go_at_call 79; refine (door_phases _).mono ?_; rintro e w1 ⟨rfl, hb⟩; obtain ⟨hc, hf⟩ := bcell hb)
      all_goals go_wp2_with (go_at_call 78; refine (door_within _ _ _ _).mono ?_; rintro e w' ⟨rfl, rfl⟩)
      all_goals (go_ret; refine ⟨?_, behind (below1 _ _).drew hb⟩)
      all_goals (rw [HV.out]; clear hi hm hc hf hb; first | (simp [*]; done) | (simp_all [must]; done))
    · have HV : Hid (Dr.may ⟨2, left, held⟩ = (within left 1 300 && within held 0 60)) := rfl
      have hi := phases_2
      have hm := phases_most2
      go_enter Try.func55, Try.ntmps55
      go_wp2_with (go_at_call 78; refine (door_within _ _ _ _).mono ?_; rintro e w' ⟨rfl, rfl⟩)
      go_region_with (go_at_call 79; refine (door_phases _).mono ?_; rintro e w1 ⟨rfl, hb⟩; obtain ⟨hc, hf⟩ := bcell hb)
      all_goals go_wp2_with (go_at_call 78; refine (door_within _ _ _ _).mono ?_; rintro e w' ⟨rfl, rfl⟩)
      all_goals (go_ret; refine ⟨?_, behind (below1 _ _).drew hb⟩)
      all_goals (rw [HV.out]; clear hi hm hc hf hb; first | (simp [*]; done) | (simp_all [must]; done))
    · have HV : Hid (Dr.may ⟨3, left, held⟩ = (within left 1 60 && within held 0 60)) := rfl
      have hi := phases_3
      have hm := phases_most3
      go_enter Try.func55, Try.ntmps55
      go_wp2_with (go_at_call 78; refine (door_within _ _ _ _).mono ?_; rintro e w' ⟨rfl, rfl⟩)
      go_region_with (go_at_call 79; refine (door_phases _).mono ?_; rintro e w1 ⟨rfl, hb⟩; obtain ⟨hc, hf⟩ := bcell hb)
      all_goals go_wp2_with (go_at_call 78; refine (door_within _ _ _ _).mono ?_; rintro e w' ⟨rfl, rfl⟩)
      all_goals (go_ret; refine ⟨?_, behind (below1 _ _).drew hb⟩)
      all_goals (rw [HV.out]; clear hi hm hc hf hb; first | (simp [*]; done) | (simp_all [must]; done))
end Nw
end Go.Proofs.Ytkipbgjaeapkkaa
