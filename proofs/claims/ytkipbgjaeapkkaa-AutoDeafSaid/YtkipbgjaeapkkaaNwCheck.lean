/- What config.windows and config.Check do: contracts. -/
import Derived.Test.YtkipbgjaeapkkaaNwStops
import Derived.Test.YtkipbgjaeapkkaaNwTimes
import Derived.Test.YtkipbgjaeapkkaaNwZone2
import Derived.Test.YtkipbgjaeapkkaaNwSun2
set_option linter.unusedSimpArgs false
set_option linter.unusedVariables false
namespace Go.Proofs.Ytkipbgjaeapkkaa
open Go.RowKit
namespace Nw

theorem idxFrom_any (p : Wn → Bool) (xs : List Wn) : ∀ (m k : Nat), k + m = xs.length → decide (0 ≤ idxFrom (fun k => p (xs[k]?.getD default)) k m) = (xs.drop k).any p
  | 0, k, h => by
    rw [List.drop_eq_nil_of_le (by omega)]; rfl
  | m + 1, k, h => by
    have hk : k < xs.length := by omega
    rw [List.drop_eq_getElem_cons hk, List.any_cons]
    have hg : xs[k]?.getD default = xs[k] := by simp [hk]
    simp only [idxFrom, hg]
    cases hp : p xs[k]
    · rw [cond_false, idxFrom_any p xs m (k + 1) (by omega), Bool.false_or]
    · rw [cond_true, Bool.true_or]; simp

set_option maxHeartbeats 1000000 in
theorem config_windows (c : Cf) (l : Cl) (w : World) (h : c.In l w) :
    Calls Try.prog 50 #[c.v l] w fun e w' => e = .returned (I c.windowsE) ∧ Below w.heap.size w w' := by
  obtain ⟨hsn, hwn, -, hw⟩ := h
  obtain ⟨sa, sn, sc, wa, wn, wc⟩ := l
  dsimp only at hsn hwn hw ⊢
  have Hany := Lib.hid (idxFrom_any (fun x => !x.ok) c.windows wn 0 (by rw [hw.1]; omega))
  have HL := Lib.hid hw.1
  have Hw := Lib.hid (hw.alloc (.cells #[I c.floors, I c.cars, I c.park, .slice sa sn sc, I c.times.travel, I c.times.level, I c.times.opn, I c.times.dwell, I c.times.lead, I c.times.close, I c.times.hold, I c.rest, I c.pater,
    I c.zone.base, I c.zone.shift, I c.zone.on_.month, I c.zone.on_.week, I c.zone.on_.weekday, I c.zone.on_.minute, I c.zone.off.month, I c.zone.off.week, I c.zone.off.weekday, I c.zone.off.minute,
    I c.sun.s0, I c.sun.s1, I c.sun.s2, I c.sun.s3, I c.sun.s4, I c.sun.s5, I c.sun.s6, I c.sun.s7, I c.sun.s8, I c.sun.s9, I c.sun.s10, I c.sun.s11, .bool c.abroad, .slice wa wn wc] 33))
  clear hw
  by_cases h16 : 16 < wn
  · have HV : Hid (c.windowsE = 103) := by unfold Hid Cf.windowsE; rw [HL.out, decide_eq_true h16]; rfl
    go_enter Try.func50, Try.ntmps50
    go_wp2
    go_ret
    exact ⟨by rw [HV.out]; rfl, below1 _ _⟩
  · have HV : Hid (c.windowsE = must (!c.windows.any (fun x => !x.ok)) 104) := by unfold Hid Cf.windowsE; rw [HL.out, decide_eq_false h16]; rfl
    have hneg : ¬ (16 : Int) < wn := by omega
    go_enter Try.func50, Try.ntmps50
    go_wp2_with fail
    refine (ContainsFunc_Window c.windows wa wn wc _ hwn Hw.out).mono ?_
    rintro e w1 ⟨rfl, hb⟩
    rw [Hany.out, List.drop_zero]
    go_wp2_with (go_at_call 66; refine (config_must _ _ _).mono ?_; rintro e w' ⟨rfl, rfl⟩)
    go_ret
    exact ⟨by rw [HV.out]; rfl, behind1 hb⟩

set_option maxHeartbeats 400000 in
theorem config_Check_zone (c : Cf) (l : Cl) (w : World) :
    Calls Try.prog 46 #[c.v l] w fun e w' => e = .returned (I c.zone.check) ∧ Below w.heap.size w w' := by
  go_enter Try.func46, Try.ntmps46
  go_wp2_with (go_at_call 47; refine (zone_Check c.zone _).mono ?_; rintro e w1 ⟨rfl, hb1⟩)
  go_ret
  exact ⟨rfl, behind1 (by assumption)⟩

set_option maxHeartbeats 400000 in
theorem config_Check_sun (c : Cf) (l : Cl) (w : World) :
    Calls Try.prog 48 #[c.v l] w fun e w' => e = .returned (I c.sun.check) ∧ Below w.heap.size w w' := by
  go_enter Try.func48, Try.ntmps48
  go_wp2_with (go_at_call 49; refine (sunset_Check c.sun _).mono ?_; rintro e w1 ⟨rfl, hb1⟩)
  go_ret
  exact ⟨rfl, behind1 (by assumption)⟩

end Nw
end Go.Proofs.Ytkipbgjaeapkkaa
