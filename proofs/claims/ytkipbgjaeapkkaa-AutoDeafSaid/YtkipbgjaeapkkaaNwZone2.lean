/- What zone.Check does: a contract. -/
import Derived.Test.YtkipbgjaeapkkaaNwZone
set_option linter.unusedSimpArgs false
set_option linter.unusedVariables false
namespace Go.Proofs.Ytkipbgjaeapkkaa
open Go.RowKit
namespace Nw

set_option maxRecDepth 100000 in
set_option maxHeartbeats 2000000 in
theorem zone_Check (z : Zn) (w : World) :
    Calls Try.prog 47 #[z.v] w fun e w' => e = .returned (I z.check) ∧ Below w.heap.size w w' := by
  cases h0 : within z.base (-720) 840
  · have HV : Hid (z.check = 60) := by unfold Hid Zn.check; rw [h0]; rfl
    go_enter Try.func47, Try.ntmps47
    go_wp2_with (go_at_call 69; refine (zone_within _ _ _ _).mono ?_; rintro e w' ⟨rfl, rfl⟩)
    go_ret
    exact ⟨by rw [HV.out]; rfl, below2 _ _ _⟩
  · cases h1 : within z.shift 0 120
    · have HV : Hid (z.check = 61) := by unfold Hid Zn.check; rw [h0, h1]; rfl
      go_enter Try.func47, Try.ntmps47
      go_wp2_with (go_at_call 69; refine (zone_within _ _ _ _).mono ?_; rintro e w' ⟨rfl, rfl⟩)
      go_ret
      exact ⟨by rw [HV.out]; rfl, below2 _ _ _⟩
    · have HV : Hid (z.check = bif z.ok3 then 62 else bif z.ok4 then 62 else 0) := by unfold Hid Zn.check; rw [h0, h1]; rfl
      have HD : ∃ d, (mx z.on_.month z.off.month - mn z.on_.month z.off.month = d) ∧ ((z.on_.month < z.off.month ∧ d = z.off.month - z.on_.month) ∨ (z.on_.month ≤ z.off.month ∧ z.off.month ≤ z.on_.month ∧ d = z.on_.month - z.on_.month) ∨ (z.off.month < z.on_.month ∧ d = z.on_.month - z.off.month)) := by
        refine ⟨_, rfl, ?_⟩; unfold mx mn; split <;> split <;> omega
      obtain ⟨d, hd, hcase⟩ := HD
      have HM := Lib.hid hd; clear hd
      cases ho : (z.on_.odd || z.off.odd)
      all_goals
        have HO := Lib.hid ho; clear ho
        rcases hcase with ⟨hm, rfl⟩ | ⟨hm, hm2, rfl⟩ | ⟨hm, rfl⟩
        all_goals
          go_enter Try.func47, Try.ntmps47
          go_wp2_with (first | (go_at_call 69; refine (zone_within _ _ _ _).mono ?_; rintro e w' ⟨rfl, rfl⟩) | (go_at_call 70; refine (ContainsFunc_Turn z.on_ z.off _ _ _ HO.out (twoTn_new _ _ _ _ (by simp))).mono ?_; rintro e w1 ⟨rfl, hb⟩; obtain ⟨hc, hf⟩ := bcell hb))
          all_goals (go_ret; refine ⟨?_, ?_⟩)
          any_goals (first | exact below2 _ _ _ | exact behind (below3 _ _ _ _) hb)
          all_goals (clear h0 h1; rw [HV.out]; unfold Zn.ok3 Zn.ok4 Tn.none_; rw [HO.out, HM.out]; simp [Bool.cond_eq_ite, *]; try first | done | (simp [wrap64, within]; done) | omega | (intros; omega))
end Nw
end Go.Proofs.Ytkipbgjaeapkkaa
