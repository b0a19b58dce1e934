/- What sunset.Check does: a contract. -/
import Derived.Test.YtkipbgjaeapkkaaNwSun
import Derived.RegionTactic
import Derived.BigQuiet
import Derived.Deep.QuietTactic
set_option linter.unusedSimpArgs false
set_option linter.unusedVariables false
namespace Go.Proofs.Ytkipbgjaeapkkaa
open Go.RowKit
namespace Nw

theorem all_range_of {p : Nat → Bool} {n : Nat} (h : ∀ j, j < n → p j = true) : (List.range n).all p = true := by
  simp only [List.all_eq_true, List.mem_range]; exact h
theorem all_range_not {p : Nat → Bool} {n k : Nat} (hk : k < n) (h : p k = false) : (List.range n).all p = false := by
  cases e : (List.range n).all p
  · rfl
  · simp only [List.all_eq_true, List.mem_range] at e; rw [e k hk] at h; exact h
theorem Sn.check_70 {s : Sn} {k : Nat} (hk : k < 12) (h : s.minuteOk k = false) : s.check = 70 := by
  unfold Sn.check; rw [all_range_not hk h]; rfl
theorem Sn.check_71 {s : Sn} {k : Nat} (h0 : ∀ j, j < 12 → s.minuteOk j = true) (hk : k < 12) (h : s.stepOk k = false) : s.check = 71 := by
  unfold Sn.check; rw [all_range_of h0, all_range_not hk h]; rfl
theorem Sn.check_0 {s : Sn} (h0 : ∀ j, j < 12 → s.minuteOk j = true) (h : ∀ j, j < 12 → s.stepOk j = true) : s.check = 0 := by
  unfold Sn.check; rw [all_range_of h0, all_range_of h]; rfl

theorem sun_index (s : Sn) (k : Nat) (hk : k < 12) (w : World) : (Instr.index 30 s.v (.int .i64 k)).run Try.prog w = .ok (I (s.at_ k)) w := by
  unfold Sn.at_ Sn.list
  rcases k with _ | _ | _ | _ | _ | _ | _ | _ | _ | _ | _ | _ | k
  all_goals first | omega | kernel_rfl

set_option maxRecDepth 100000 in
set_option maxHeartbeats 2000000 in
theorem sunset_Check (s : Sn) (w : World) :
    Calls Try.prog 49 #[s.v] w fun e w' => e = .returned (I s.check) ∧ Below w.heap.size w w' := by
  go_enter Try.func49, Try.ntmps49
  go_wp2
  go_loop [9] (fun i => ∃ k : Nat, k ≤ 12 ∧ i = I k ∧ Hid (∀ j, j < k → s.minuteOk j = true)) (fun i => 12 - (intOf i).toNat)
  case atStart => exact ⟨0, by omega, rfl, fun j hj => by omega⟩
  case round =>
    obtain ⟨k, hk, rfl, hall⟩ := hrel
    by_cases hlt : k < 12
    · have hidx := sun_index s k hlt
      go_wp2
      · go_ret
        exact ⟨by rw [Sn.check_70 hlt (by unfold Sn.minuteOk; first | (simp; omega) | (simp [*]; done) | (simp_all; done))]; rfl, below1 _ _⟩
      · refine ⟨⟨k + 1, by omega, by go_num, ?_⟩, by simp [intOf]; omega⟩
        intro j hj
        rcases Nat.lt_or_ge j k with h | h
        · exact hall.out j h
        · obtain rfl : j = k := by omega
          unfold Sn.minuteOk
          simp
          omega
      · go_ret
        exact ⟨by rw [Sn.check_70 hlt (by unfold Sn.minuteOk; first | (simp; omega) | (simp [*]; done) | (simp_all; done))]; rfl, below1 _ _⟩
    · obtain rfl : k = 12 := by omega
      go_wp2
      go_loopw [19] (fun i wr => ∃ k : Nat, k ≤ 12 ∧ i = I k ∧ Hid (∀ j, j < k → s.stepOk j = true) ∧ Below (w.alloc (.cells #[I s.s0, I s.s1, I s.s2, I s.s3, I s.s4, I s.s5, I s.s6, I s.s7, I s.s8, I s.s9, I s.s10, I s.s11] 30)).heap.size (w.alloc (.cells #[I s.s0, I s.s1, I s.s2, I s.s3, I s.s4, I s.s5, I s.s6, I s.s7, I s.s8, I s.s9, I s.s10, I s.s11] 30)) wr) (fun i _ => 12 - (intOf i).toNat)
      case atStart => exact ⟨0, by omega, rfl, fun j hj => by omega, Below.refl _ _⟩
      case round =>
        obtain ⟨k, hk, rfl, hall2, hb⟩ := hrel
        obtain ⟨hc, hf⟩ := bcell hb
        by_cases hlt2 : k < 12
        · go_wp2_with fail
          refine (sunset_months2 s k (k + 1) (k : Int) ((k : Int) + 1) wr.heap.size _ (by omega) (by omega) rfl (by omega) (by simp) (by simp) (by simp)).mono ?_
          rintro e w1 ⟨g, cap, rfl, hg0, hg1, hgl, hgs, hb1⟩
          clear hc hf
          go_wp2_with fail
          go_quiet (fail)
          all_goals go_wp2
          · go_ret
            exact ⟨by rw [Sn.check_71 (fun j hj => hall.out j hj) hlt2 (by unfold Sn.stepOk Sn.by_; first | (simp; omega) | (simp [*]; done) | (simp_all; done))]; rfl, below_drewN (behind (below1 _ _) (behind hb (behind (below1 _ _) hb1))) _⟩
          · refine ⟨⟨k + 1, by omega, by go_num, ?_, below_drewN (behind hb (behind (below1 _ _) hb1)) _⟩, by simp [intOf]; omega⟩
            intro j hj
            rcases Nat.lt_or_ge j k with h | h
            · exact hall2.out j h
            · obtain rfl : j = k := by omega
              unfold Sn.stepOk Sn.by_
              simp
              omega
          · go_ret
            exact ⟨by rw [Sn.check_71 (fun j hj => hall.out j hj) hlt2 (by unfold Sn.stepOk Sn.by_; first | (simp; omega) | (simp [*]; done) | (simp_all; done))]; rfl, below_drewN (behind (below1 _ _) (behind hb (behind (below1 _ _) hb1))) _⟩
        · obtain rfl : k = 12 := by omega
          go_wp2
          go_ret
          exact ⟨by rw [Sn.check_0 (fun j hj => hall.out j hj) (fun j hj => hall2.out j hj)]; rfl, behind (below1 _ _) hb⟩
end Nw
end Go.Proofs.Ytkipbgjaeapkkaa
