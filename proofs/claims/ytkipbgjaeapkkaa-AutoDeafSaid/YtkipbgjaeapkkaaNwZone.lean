/- What zone.Check does: a contract. -/
import Derived.Test.YtkipbgjaeapkkaaNwIndex
set_option linter.unusedSimpArgs false
set_option linter.unusedVariables false
namespace Go.Proofs.Ytkipbgjaeapkkaa
open Go.RowKit
namespace Nw

set_option maxHeartbeats 400000 in
theorem zone_within (n a b : Int) (w : World) :
    Calls Try.prog 69 #[I n, I a, I b] w fun e w' => e = .returned (.bool (within n a b)) ∧ w = w' := by
  unfold within
  by_cases h1 : a ≤ n
  · go_enter Try.func69, Try.ntmps69
    go_wp2
    go_ret
    simp [h1]
  · go_enter Try.func69, Try.ntmps69
    go_wp2
    go_ret
    simp; omega

set_option maxHeartbeats 1000000 in
theorem zone_odd (x : Tn) (w : World) :
    Calls Try.prog 68 #[x.v] w fun e w' => e = .returned (.bool x.odd) ∧ Below w.heap.size w w' := by
  unfold Tn.odd
  go_enter Try.func68, Try.ntmps68
  go_wp2_with (go_at_call 69; refine (zone_within _ _ _ _).mono ?_; rintro e w' ⟨rfl, rfl⟩)
  all_goals (go_ret; refine ⟨?_, below1 _ _⟩)
  all_goals simp [*]

/-- Two turns in a row of one's own. -/
def twoTn (w : World) (b : Nat) (x y : Tn) : Prop :=
  b < w.heap.size ∧ w.cell? ⟨b, 0, none⟩ = some (I x.month) ∧ w.cell? ⟨b, 1, none⟩ = some (I x.week) ∧ w.cell? ⟨b, 2, none⟩ = some (I x.weekday) ∧ w.cell? ⟨b, 3, none⟩ = some (I x.minute) ∧
  w.cell? ⟨b, 4, none⟩ = some (I y.month) ∧ w.cell? ⟨b, 5, none⟩ = some (I y.week) ∧ w.cell? ⟨b, 6, none⟩ = some (I y.weekday) ∧ w.cell? ⟨b, 7, none⟩ = some (I y.minute)

theorem twoTn_new (W : World) (x y : Tn) (b : Nat) (hb : b = W.heap.size) :
    twoTn (W.alloc (.cells #[I x.month, I x.week, I x.weekday, I x.minute, I y.month, I y.week, I y.weekday, I y.minute] 26)) b x y := by
  subst hb
  exact ⟨by simp, by simp, by simp, by simp, by simp, by simp, by simp, by simp, by simp⟩

set_option maxRecDepth 100000 in
set_option maxHeartbeats 1000000 in
theorem IndexFunc_Turn (x y : Tn) (b : Nat) (w : World) (h : twoTn w b x y) :
    Calls Try.prog 86 #[.slice (some ⟨b, 0, none⟩) 2 2, .func (.func 68) #[] #[]] w fun e w' =>
      e = .returned (I (bif x.odd then 0 else bif y.odd then 1 else -1)) ∧ Below w.heap.size w w' := by
  obtain ⟨hb, h0, h1, h2, h3, h4, h5, h6, h7⟩ := h
  cases hx : x.odd
  · go_enter Try.func86, Try.ntmps86
    go_wp2
    refine wp_loop_rounds 3 ?_
    rw [rounds_succ]
    go_wp2_with (go_at_call 68; refine (zone_odd x _).mono ?_; rintro e w1 ⟨rfl, hb1⟩)
    have hb1' : Below w.heap.size w w1 := by assumption
    have h4' := (hb1'.cell (p := ⟨b, 4, none⟩) hb).trans h4
    have h5' := (hb1'.cell (p := ⟨b, 5, none⟩) hb).trans h5
    have h6' := (hb1'.cell (p := ⟨b, 6, none⟩) hb).trans h6
    have h7' := (hb1'.cell (p := ⟨b, 7, none⟩) hb).trans h7
    clear h0 h1 h2 h3 h4 h5 h6 h7
    cases hy : y.odd
    all_goals
      rw [rounds_succ]
      go_wp2_with (go_at_call 68; refine (zone_odd y _).mono ?_; rintro e w2 ⟨rfl, hb2⟩)
    · rw [rounds_succ]
      go_wp2
      go_ret
      exact ⟨by rw [hy]; rfl, behind hb1' hb2⟩
    · go_ret
      exact ⟨by rw [hy]; rfl, behind hb1' hb2⟩
  · go_enter Try.func86, Try.ntmps86
    go_wp2
    refine wp_loop_rounds 3 ?_
    rw [rounds_succ]
    go_wp2_with (go_at_call 68; refine (zone_odd x _).mono ?_; rintro e w1 ⟨rfl, hb1⟩)
    go_ret
    exact ⟨rfl, by assumption⟩

/-- The checked turns as ContainsFunc tells them. -/
theorem ContainsFunc_Turn (x y : Tn) (b : Nat) (w : World) (o : Bool) (ho : (x.odd || y.odd) = o) (h : twoTn w b x y) :
    Calls Try.prog 70 #[.slice (some ⟨b, 0, none⟩) 2 2, .func (.func 68) #[] #[]] w fun e w' =>
      e = .returned (.bool o) ∧ Below w.heap.size w w' := by
  subst ho
  cases hx : x.odd <;> cases hy : y.odd
  all_goals
    have hc := IndexFunc_Turn x y b w h
    rw [hx, hy] at hc
    simp only [cond_true, cond_false] at hc
    have Hc := Lib.hid hc; clear hc h
    go_enter Try.func70, Try.ntmps70
    go_wp2_with (go_at_call 86; refine Hc.out.mono ?_; rintro e w1 ⟨rfl, hb⟩)
    go_ret
    exact ⟨rfl, by assumption⟩

set_option maxHeartbeats 1000000 in
theorem ContainsFunc_Window (xs : List Wn) (a : Option Addr) (n c : Nat) (w : World) (hn : n ≤ 100000) (h : RdW w a n xs) :
    Calls Try.prog 74 #[.slice a n c, .func (.func 72) #[] #[]] w fun e w' =>
      e = .returned (.bool (decide (0 ≤ idxFrom (fun k => !(xs[k]?.getD default).ok) 0 n))) ∧ Below w.heap.size w w' := by
  have Hc := Lib.hid (IndexFunc_Window xs a n c w hn h); clear h
  go_enter Try.func74, Try.ntmps74
  go_wp2_with (go_at_call 87; refine Hc.out.mono ?_; rintro e w1 ⟨rfl, hb⟩)
  go_ret
  exact ⟨rfl, by assumption⟩
end Nw
end Go.Proofs.Ytkipbgjaeapkkaa
