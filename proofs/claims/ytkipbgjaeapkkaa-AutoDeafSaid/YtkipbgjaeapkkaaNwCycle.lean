/- What cycle.check and its small kin do: contracts. -/
import Derived.Test.YtkipbgjaeapkkaaNwCar7
import Derived.Test.YtkipbgjaeapkkaaNwModel
set_option linter.unusedSimpArgs false
set_option linter.unusedVariables false
namespace Go.Proofs.Ytkipbgjaeapkkaa
open Go.RowKit
namespace Nw

/-- where a plan's list lies -/
structure Ll where
  (a : Option Addr) (n c : Nat)
abbrev Pl.v (p : Pl) (l : Ll) : Value := .agg #[.slice l.a l.n l.c, I p.cars, I p.car]
abbrev Pt.v (x : Pt) : Value := .agg #[I x.floor, I x.dir, I x.ticks]
/-- A plan's list lies in w as its value says. -/
structure Pl.In (p : Pl) (l : Ll) (w : World) : Prop where
  n : l.n ≤ 100000
  s : RdI w l.a l.n p.stops
theorem Pl.In.below {p : Pl} {l : Ll} {w w' : World} (h : p.In l w) (hb : Below w.heap.size w w') : p.In l w' := ⟨h.n, h.s.below hb⟩
theorem Pl.In.alloc {p : Pl} {l : Ll} {w : World} (h : p.In l w) (o : Obj) : p.In l (w.alloc o) := ⟨h.n, h.s.alloc o⟩

set_option maxHeartbeats 400000 in
theorem cycle_stop (g : Ge) (w : World) :
    Calls Try.prog 76 #[g.v] w fun e w' => e = .returned (I g.stop) ∧ Below w.heap.size w w' := by
  unfold Ge.stop
  go_enter Try.func76, Try.ntmps76
  go_wp2
  go_ret
  exact ⟨rfl, below1 _ _⟩

set_option maxHeartbeats 400000 in
theorem cycle_sign (n : Int) (w : World) :
    Calls Try.prog 89 #[I n] w fun e w' => e = .returned (I (sign n)) ∧ w = w' := by
  unfold sign
  by_cases h : 0 < n
  all_goals
    go_enter Try.func89, Try.ntmps89
    go_wp2
    go_ret
    simp [h]

set_option maxHeartbeats 400000 in
theorem cycle_place (p : Pl) (l : Ll) (nth : Int) (w : World) (hn : l.n ≤ 100000) (hl : p.stops.length = l.n) (h2 : 2 ≤ l.n) (h0 : 0 ≤ nth) (h1 : nth < p.cars) (h8 : p.cars ≤ 8) :
    Calls Try.prog 81 #[p.v l, I nth] w fun e w' => e = .returned (I (p.place nth)) ∧ Below w.heap.size w w' := by
  have HV : Hid (p.place nth = (nth * (2 * (l.n : Int) - 2)) / p.cars) := by unfold Hid Pl.place; rw [hl]
  have hm : nth * (2 * (l.n : Int) - 2) ≤ 8 * (2 * (l.n : Int) - 2) := Int.mul_le_mul_of_nonneg_right (by omega) (by omega)
  have hm0 : 0 ≤ nth * (2 * (l.n : Int) - 2) := Int.mul_nonneg h0 (by omega)
  have hc : 1 ≤ p.cars := by omega
  clear hl
  go_enter Try.func81, Try.ntmps81
  go_wp2
  go_ret
  exact ⟨by rw [HV.out]; rfl, below1 _ _⟩

set_option maxRecDepth 100000 in
set_option maxHeartbeats 2000000 in
theorem cycle_check (g : Ge) (p : Pl) (l : Ll) (w : World) (hIn : p.In l w) (hg : g.ok = true) (hp : p.Ok g.floors) :
    Calls Try.prog 51 #[g.v, p.v l] w fun e w' => e = .returned (I 0) ∧ Below w.heap.size w w' := by
  obtain ⟨hn, hs⟩ := hIn
  obtain ⟨sa, sn, sc⟩ := l
  dsimp only at hn hs ⊢
  obtain ⟨hlen, hcells⟩ := hs
  obtain ⟨h2, hc1, hc8, hn0, hn1, hlo, hhi, hinc⟩ := hp
  rw [hlen] at h2 hlo hhi hinc
  obtain ⟨b, off, rfl, hlt, hc⟩ := hcells (by omega)
  have hc' : ∀ k, k < sn → ∀ o o2, ((w.alloc o).alloc o2).cell? ⟨b, off + k, none⟩ = some (I (p.stops[k]?.getD 0)) := fun k hk o o2 => ((World.cell?_alloc_lt _ o2 _ (by simp; omega)).trans (World.cell?_alloc_lt w o _ hlt)).trans (hc k hk)
  have Hc := Lib.hid hc'; have Hlo := Lib.hid hlo; have Hhi := Lib.hid hhi; have Hinc := Lib.hid hinc
  have HG := Lib.hid hg
  have hd0 : decide ((2 : Int) ≤ sn) = true := by simp; omega
  have hd1 : decide (1 ≤ p.cars) = true := by simpa using hc1
  have hd2 : decide (p.cars ≤ 8) = true := by simpa using hc8
  have hd3 : decide (0 ≤ p.car) = true := by simpa using hn0
  have hd4 : decide (p.car < p.cars) = true := by simpa using hn1
  have HM : Hid (must g.ok 180 = 0) := by unfold Hid; rw [hg]; rfl
  clear hc hc' hcells hlen hlo hhi hinc hg
  go_enter Try.func51, Try.ntmps51
  go_wp2
  go_loop [5, 39] (fun m i => ∃ k : Nat, k ≤ sn ∧ i = I k ∧ m = .bool true) (fun _ i => sn - (intOf i).toNat)
  case atStart => exact ⟨0, Nat.zero_le _, rfl, rfl⟩
  case round =>
    obtain ⟨k, hk, rfl, rfl⟩ := hrel
    by_cases hlt2 : k < sn
    · have hcell := Hc.out k hlt2
      have hprev := Hc.out (k - 1) (by omega)
      have hl := Hlo.out k hlt2
      have hh := Hhi.out k hlt2
      have hl' : decide (0 ≤ p.stops[k]?.getD 0) = true := by simpa using hl
      have hh' : decide (p.stops[k]?.getD 0 < g.floors) = true := by simpa using hh
      rcases Nat.eq_zero_or_pos k with hk0 | hk0
      · have hz : ((k : Int) == 0) = true := by rw [hk0]; rfl
        clear hk0 hprev
        go_wp2
        refine ⟨⟨k + 1, by omega, by go_num, ?_⟩, by simp [intOf]; omega⟩
        simp
      · have hz : ((k : Int) == 0) = false := beq_eq_false_iff_ne.2 (by omega)
        have hi := Hinc.out (k - 1) (by omega)
        rw [show k - 1 + 1 = k from by omega] at hi
        have hi' : decide (p.stops[k - 1]?.getD 0 < p.stops[k]?.getD 0) = true := by simpa using hi
        go_wp2
        refine ⟨⟨k + 1, by omega, by go_num, ?_⟩, by simp [intOf]; omega⟩
        simp
    · obtain rfl : k = sn := by omega
      go_wp2_with fail
      refine (car_Rest_zero g _).mono ?_
      rintro e w1 ⟨rfl, hb⟩
      rw [HM.out]
      go_wp2
      go_ret
      exact ⟨rfl, behind (below2 _ _ _) hb⟩
end Nw
end Go.Proofs.Ytkipbgjaeapkkaa
