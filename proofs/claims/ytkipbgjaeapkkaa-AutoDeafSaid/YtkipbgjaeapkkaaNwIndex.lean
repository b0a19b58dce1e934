/- slices.IndexFunc and slices.ContainsFunc, of turns and of windows: a contract for every predicate that a function value pays. -/
import Derived.Test.YtkipbgjaeapkkaaNwConfig
set_option linter.unusedSimpArgs false
set_option linter.unusedVariables false
namespace Go.Proofs.Ytkipbgjaeapkkaa
open Go.RowKit
namespace Nw
/-- the first place from k on, of n, at which p holds; -1: none -/
def idxFrom (p : Nat → Bool) (k : Nat) : Nat → Int
  | 0 => -1
  | m + 1 => bif p k then k else idxFrom p (k + 1) m

set_option maxHeartbeats 400000 in
theorem config_windows_odd (x : Wn) (w : World) :
    Calls Try.prog 72 #[x.v] w fun e w' => e = .returned (.bool (!x.ok)) ∧ Below w.heap.size w w' := by
  cases hx : x.ok
  · have hm : must x.ok 104 = 104 := by rw [hx]; rfl
    go_enter Try.func72, Try.ntmps72
    go_wp2_with (go_at_call 73; refine (config_Window _ _).mono ?_; rintro e w1 ⟨rfl, hb⟩)
    go_ret
    exact ⟨by simp [hm], behind1 (by assumption)⟩
  · have hm : must x.ok 104 = 0 := by rw [hx]; rfl
    go_enter Try.func72, Try.ntmps72
    go_wp2_with (go_at_call 73; refine (config_Window _ _).mono ?_; rintro e w1 ⟨rfl, hb⟩)
    go_ret
    exact ⟨by simp [hm], behind1 (by assumption)⟩

set_option maxRecDepth 100000 in
set_option maxHeartbeats 1000000 in
theorem IndexFunc_Window (xs : List Wn) (a : Option Addr) (n c : Nat) (w : World) (hn : n ≤ 100000) (h : RdW w a n xs) :
    Calls Try.prog 87 #[.slice a n c, .func (.func 72) #[] #[]] w fun e w' =>
      e = .returned (I (idxFrom (fun k => !(xs[k]?.getD default).ok) 0 n)) ∧ Below w.heap.size w w' := by
  by_cases h0 : 0 < n
  · have Hr := Lib.hid h
    obtain ⟨hlen, hcells⟩ := h
    obtain ⟨b, off, rfl, hlt, hc⟩ := hcells h0
    clear hlen hcells hc
    go_enter Try.func87, Try.ntmps87
    go_wp2
    go_loopw [8] (fun i wr => ∃ k : Nat, k ≤ n ∧ i = I k ∧ idxFrom (fun k => !(xs[k]?.getD default).ok) 0 n = idxFrom (fun k => !(xs[k]?.getD default).ok) k (n - k) ∧ Below w.heap.size w wr) (fun i _ => n - (intOf i).toNat)
    case atStart => exact ⟨0, Nat.zero_le _, rfl, rfl, Below.refl _ _⟩
    case round =>
      obtain ⟨k, hk, rfl, hi, hb⟩ := hrel
      have Hi := Lib.hid hi; clear hi
      by_cases hlt2 : k < n
      · obtain ⟨-, hcells⟩ := Hr.out.below hb
        obtain ⟨b', off', had, -, hc⟩ := hcells h0
        obtain ⟨rfl, rfl⟩ : b = b' ∧ off = off' := by simpa using had
        obtain ⟨h0', h1', h2', h3', h4', h5', h6'⟩ := hc k hlt2
        clear hc hcells had
        obtain ⟨m, hm⟩ : ∃ m, n - k = m + 1 := ⟨n - k - 1, by omega⟩
        have Hm : Hid (m = n - (k + 1)) := by unfold Hid; omega
        have Hi2 := Hi.out
        rw [hm] at Hi2
        simp only [idxFrom] at Hi2
        have HI := Lib.hid Hi2; clear Hi2 hm
        cases hx : (xs[k]?.getD default).ok
        · have HX := Lib.hid hx
          go_wp2_with (go_at_call 72; refine (config_windows_odd _ _).mono ?_; rintro e w1 ⟨rfl, hb1⟩)
          go_ret
          exact ⟨by rw [HI.out, HX.out]; rfl, behind hb (by assumption)⟩
        · have HX := Lib.hid hx
          go_wp2_with (go_at_call 72; refine (config_windows_odd _ _).mono ?_; rintro e w1 ⟨rfl, hb1⟩)
          refine ⟨⟨k + 1, by omega, by go_num, ?_, behind hb (by assumption)⟩, by simp [intOf]; omega⟩
          rw [HI.out, HX.out, Hm.out]; rfl
      · obtain rfl : k = n := by omega
        go_wp2
        go_ret
        exact ⟨by rw [Hi.out, Nat.sub_self]; rfl, hb⟩
  · obtain rfl : n = 0 := by omega
    go_enter Try.func87, Try.ntmps87
    go_wp2
    refine wp_loop_rounds 1 ?_
    rw [rounds_succ]
    go_wp2
    go_ret
    exact ⟨rfl, Below.refl _ _⟩
end Nw
end Go.Proofs.Ytkipbgjaeapkkaa
