/- What config.stops does: a contract. -/
import Derived.Test.YtkipbgjaeapkkaaNwConfig
set_option linter.unusedSimpArgs false
set_option linter.unusedVariables false
namespace Go.Proofs.Ytkipbgjaeapkkaa
open Go.RowKit
namespace Nw

theorem stopsTo_zero (f : Int) (xs : List Int) (n : Nat) (h : xs.length = n) : stopsTo f xs 0 = decide ((2 : Int) ≤ n) := by
  subst h; simp only [stopsTo]; exact decide_eq_decide.2 (by omega)

set_option maxHeartbeats 1000000 in
theorem config_stops (c : Cf) (l : Cl) (w : World) (h : c.In l w) :
    Calls Try.prog 44 #[c.v l] w fun e w' => e = .returned (I (must c.stopsB 101)) ∧ Below w.heap.size w w' := by
  obtain ⟨hsn, hwn, hs, -⟩ := h
  obtain ⟨sa, sn, sc, wa, wn, wc⟩ := l
  dsimp only at hsn hwn hs ⊢
  obtain ⟨hlen, hcells⟩ := hs
  have H0 := Lib.hid (stopsTo_zero c.floors c.stops sn hlen)
  have HB : Hid (c.stopsB = stopsTo c.floors c.stops sn) := by unfold Hid Cf.stopsB; rw [hlen]
  clear hlen
  by_cases hn : 0 < sn
  · obtain ⟨b, off, rfl, hlt, hc⟩ := hcells hn
    have hc' : ∀ k, k < sn → ∀ o, (w.alloc o).cell? ⟨b, off + k, none⟩ = some (I (c.stops[k]?.getD 0)) := fun k hk o => (World.cell?_alloc_lt w o _ hlt).trans (hc k hk)
    have Hc := Lib.hid hc'; clear hc hc' hcells
    go_enter Try.func44, Try.ntmps44
    go_wp2
    go_loop [3, 13] (fun b i => ∃ k : Nat, k ≤ sn ∧ i = I k ∧ b = .bool (stopsTo c.floors c.stops k)) (fun _ i => sn - (intOf i).toNat)
    case atStart => exact ⟨0, Nat.zero_le _, rfl, by rw [H0.out]⟩
    case round =>
      obtain ⟨k, hk, rfl, rfl⟩ := hrel
      by_cases hlt2 : k < sn
      · have hcell := Hc.out k hlt2
        have hprev := Hc.out (k - 1) (by omega)
        rcases Nat.eq_zero_or_pos k with hk0 | hk0
        · have hz : ((k : Int) == 0) = true := by rw [hk0]; rfl
          have hz' : (k == 0) = true := by rw [hk0]; rfl
          have HK := Lib.hid hz'; clear hk0 hprev hz'
          go_wp2_with (first | (go_at_call 67; refine (config_within _ _ _ _).mono ?_; rintro e w' ⟨rfl, rfl⟩))
          all_goals
            refine ⟨⟨k + 1, by omega, by go_num, ?_⟩, by simp [intOf]; omega⟩
            have hz' := HK.out
            simp only [stopsTo, stopOk, Bool.true_or, *]
            try simp
        · have hz : ((k : Int) == 0) = false := beq_eq_false_iff_ne.2 (by omega)
          have hz' : (k == 0) = false := beq_eq_false_iff_ne.2 (by omega)
          have HK := Lib.hid hz'; clear hz'
          go_wp2_with (first | (go_at_call 67; refine (config_within _ _ _ _).mono ?_; rintro e w' ⟨rfl, rfl⟩))
          all_goals
            refine ⟨⟨k + 1, by omega, by go_num, ?_⟩, by simp [intOf]; omega⟩
            have hz' := HK.out
            simp only [stopsTo, stopOk, Bool.false_or, *]
            try simp
      · obtain rfl : k = sn := by omega
        go_wp2_with (first | (go_at_call 66; refine (config_must _ _ _).mono ?_; rintro e w' ⟨rfl, rfl⟩))
        go_ret
        exact ⟨by rw [HB.out]; rfl, below1 _ _⟩
  · obtain rfl : sn = 0 := by omega
    go_enter Try.func44, Try.ntmps44
    go_wp2
    refine wp_loop_rounds 1 ?_
    rw [rounds_succ]
    go_wp2_with (first | (go_at_call 66; refine (config_must _ _ _).mono ?_; rintro e w' ⟨rfl, rfl⟩))
    go_ret
    exact ⟨by rw [HB.out, H0.out]; rfl, below1 _ _⟩
end Nw
end Go.Proofs.Ytkipbgjaeapkkaa
