/- What the calls of package door do: contracts. -/
import Derived.Test.YtkipbgjaeapkkaaNwBlk
import Derived.Test.YtkipbgjaeapkkaaNwModel
import Derived.Laws.EntriesVeiled
set_option linter.unusedSimpArgs false
set_option linter.unusedVariables false
namespace Go.Proofs.Ytkipbgjaeapkkaa
open Go.RowKit
namespace Nw

abbrev Dr.v (d : Dr) : Value := .agg #[I d.phase, I d.left, I d.held]
abbrev Ge.v (g : Ge) : Value := .agg #[I g.floors, I g.times.travel, I g.times.level, I g.times.opn, I g.times.dwell, I g.times.lead, I g.times.close, I g.times.hold, I g.dwell, I g.most]
abbrev Cr.v (c : Cr) : Value := .agg #[I c.floor, I c.dir, I c.phase, I c.left, I c.door.phase, I c.door.left, I c.door.held]
abbrev Ou.v (o : Ou) : Value := .agg #[I o.motor, I o.door, I o.floor, .bool o.chime]
abbrev Od.v (o : Od) : Value := .agg #[I o.cmd, .bool o.held, .bool o.fault]

set_option maxHeartbeats 400000 in
theorem door_within (n a b : Int) (w : World) :
    Calls Try.prog 78 #[I n, I a, I b] w fun e w' => e = .returned (.bool (within n a b)) ∧ w = w' := by
  unfold within
  by_cases h1 : a ≤ n
  · go_enter Try.func78, Try.ntmps78
    go_wp2
    go_ret
    simp [h1]
  · go_enter Try.func78, Try.ntmps78
    go_wp2
    go_ret
    simp; omega

set_option maxRecDepth 100000 in
set_option maxHeartbeats 1000000 in
theorem door_times (t : Tm) (w : World) :
    Calls Try.prog 96 #[t.v] w fun e w' => e = .returned (.bool t.ok) ∧ Below w.heap.size w w' := by
  unfold Tm.ok Tm.six
  go_enter Try.func96, Try.ntmps96
  go_wp2
  refine wp_loop_rounds 7 ?_
  repeat any_goals (rw [rounds_succ]; go_wp2_with (go_at_call 78; refine (door_within _ _ _ _).mono ?_; rintro e w' ⟨rfl, rfl⟩))
  all_goals (go_ret; refine ⟨?_, below2 _ _ _⟩)
  all_goals (simp only [List.all_cons, List.all_nil]; simp_all)

set_option maxHeartbeats 1000000 in
theorem door_gear (g : Ge) (w : World) :
    Calls Try.prog 95 #[g.v] w fun e w' => e = .returned (.bool g.ok) ∧ Below w.heap.size w w' := by
  unfold Ge.ok
  cases ht : g.times.ok
  all_goals
    go_enter Try.func95, Try.ntmps95
    go_wp2_with fail
    refine (door_times g.times _).mono ?_
    rintro e w1 ⟨rfl, hb⟩
    rw [ht]
    obtain ⟨hc, hf⟩ := bcell hb
    go_wp2_with (go_at_call 78; refine (door_within _ _ _ _).mono ?_; rintro e w' ⟨rfl, rfl⟩)
    all_goals (go_ret; refine ⟨?_, behind1 hb⟩)
    all_goals (clear hc hf hb; simp_all)

set_option maxHeartbeats 400000 in
theorem door_phases (w : World) :
    Calls Try.prog 79 #[] w fun e w' => e = .returned (.agg #[I 0, .func (.func 90) #[] #[], I 60, .func (.func 91) #[] #[], I 300, .func (.func 93) #[] #[], I 60, .func (.func 94) #[] #[]]) ∧ Below w.heap.size w w' := by
  go_enter Try.func79, Try.ntmps79
  go_wp2
  exact bodyPost_ret (v := .agg #[I 0, .func (.func 90) #[] #[], I 60, .func (.func 91) #[] #[], I 300, .func (.func 93) #[] #[], I 60, .func (.func 94) #[] #[]]) (by simp [results, Try.results79, go_sem]) rfl ⟨rfl, below1 _ _⟩
end Nw
end Go.Proofs.Ytkipbgjaeapkkaa
