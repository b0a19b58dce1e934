/- What cycle.length and cycle.Length do: contracts. -/
import Derived.Test.YtkipbgjaeapkkaaNwCmd
set_option linter.unusedSimpArgs false
set_option linter.unusedVariables false
namespace Go.Proofs.Ytkipbgjaeapkkaa
open Go.RowKit
namespace Nw

set_option maxRecDepth 100000 in
set_option maxHeartbeats 4000000 in
theorem cycle_length (g : Ge) (p : Pl) (ll : Ll) (w : World) (hIn : p.In ll w) (hg : g.ok = true) (hp : p.Ok g.floors) :
    Calls Try.prog 52 #[g.v, p.v ll] w fun e w' => e = .returned (I (p.len g)) ∧ Below w.heap.size w w' := by
  obtain ⟨hn, hs⟩ := hIn
  obtain ⟨sa, sn, sc⟩ := ll
  dsimp only at hn hs ⊢
  obtain ⟨hlen, hcells⟩ := hs
  obtain ⟨hgf0, hgf1, ht0, ht1, hs0, hs1⟩ := ge_bounds g hg
  have h2 := hp.len
  obtain ⟨m, rfl⟩ : ∃ m, sn = m + 1 := ⟨sn - 1, by omega⟩
  have hl1 := hp.lo (m) (by omega)
  have hh1 := hp.hi (m) (by omega)
  have hl0 := hp.lo 0 (by omega)
  have hh0 := hp.hi 0 (by omega)
  rw [hlen] at h2
  obtain ⟨b, off, rfl, hlt, hc⟩ := hcells (by omega)
  have hc0 := hc 0 (by omega)
  have hc1 := hc (m) (by omega)
  rw [Nat.add_zero] at hc0
  have HL : Hid (p.len g = (2 * ((m : Int) + 1) - 2) * g.stop + 2 * (p.stops[m]?.getD 0 - p.stops[0]?.getD 0) * g.times.travel) := by unfold Hid Pl.len; rw [hlen, Nat.add_sub_cancel, show ((m + 1 : Nat) : Int) = (m : Int) + 1 from by omega]
  obtain ⟨fa, hfa⟩ : ∃ fa, p.stops[0]?.getD 0 = fa := ⟨_, rfl⟩
  obtain ⟨fb, hfb⟩ : ∃ fb, p.stops[m]?.getD 0 = fb := ⟨_, rfl⟩
  rw [hfa] at hc0 hl0 hh0; rw [hfb] at hc1 hl1 hh1; rw [hfa, hfb] at HL
  have hm1 : 0 ≤ (2 * ((m : Int) + 1) - 2) * g.stop := Int.mul_nonneg (by omega) (by omega)
  have hm2 : (2 * ((m : Int) + 1) - 2) * g.stop ≤ 200000 * 480 := Int.mul_le_mul (by omega) hs1 (by omega) (by omega)
  have hm3 : 2 * (fb - fa) * g.times.travel ≤ 200 * 60 := by
    rcases Int.le_total 0 (fb - fa) with h | h
    · exact Int.mul_le_mul (by omega) ht1 (by omega) (by omega)
    · have : 2 * (fb - fa) * g.times.travel ≤ 0 := Int.mul_nonpos_of_nonpos_of_nonneg (by omega) (by omega)
      omega
  have hm4 : -(200 * 60) ≤ 2 * (fb - fa) * g.times.travel := by
    rcases Int.le_total 0 (fb - fa) with h | h
    · have : 0 ≤ 2 * (fb - fa) * g.times.travel := Int.mul_nonneg (by omega) (by omega)
      omega
    · have h1 : -(2 * (fb - fa)) * g.times.travel ≤ 200 * 60 := Int.mul_le_mul (by omega) ht1 (by omega) (by omega)
      rw [Int.neg_mul] at h1
      omega
  have hw : ∀ z : Int, -9000000000000 ≤ z → z ≤ 9000000000000 → IntKind.i64.wrap z = z := fun z h h' => by rw [wrapEq]; exact IntWalk.wrap64_in _ (by omega)
  have hw1 : IntKind.i64.wrap (m : Int) = m := hw _ (by omega) (by omega)
  have hw2 : IntKind.i64.wrap (2 * ((m : Int) + 1)) = 2 * ((m : Int) + 1) := hw _ (by omega) (by omega)
  have hw3 : IntKind.i64.wrap (2 * ((m : Int) + 1) - 2) = 2 * ((m : Int) + 1) - 2 := hw _ (by omega) (by omega)
  have hw4 : IntKind.i64.wrap ((2 * ((m : Int) + 1) - 2) * g.stop) = (2 * ((m : Int) + 1) - 2) * g.stop := hw _ (by omega) (by omega)
  have hw5 : IntKind.i64.wrap (fb - fa) = fb - fa := hw _ (by omega) (by omega)
  have hw6 : IntKind.i64.wrap (2 * (fb - fa)) = 2 * (fb - fa) := hw _ (by omega) (by omega)
  have hw7 : IntKind.i64.wrap (2 * (fb - fa) * g.times.travel) = 2 * (fb - fa) * g.times.travel := hw _ (by omega) (by omega)
  have hw8 : IntKind.i64.wrap ((2 * ((m : Int) + 1) - 2) * g.stop + 2 * (fb - fa) * g.times.travel) = (2 * ((m : Int) + 1) - 2) * g.stop + 2 * (fb - fa) * g.times.travel := hw _ (by omega) (by omega)
  have hd3 : (m : Int) < (m : Int) + 1 := by omega
  have hd4 : 0 ≤ (m : Int) := by omega
  clear hw hm1 hm2 hm3 hm4
  have hlt1 : b < w.heap.size + 1 := by omega
  have hlt2 : b < w.heap.size + 1 + 1 := by omega
  have hlt3 : b < w.heap.size + 2 := by omega
  clear hfa hfb hcells hlen hc hg hp
  go_enter Try.func52, Try.ntmps52
  go_wp2
  go_region_held3 (fun W => W.cell? ⟨w.heap.size, 0, none⟩ = some (I g.floors) ∧ W.cell? ⟨w.heap.size, 1, none⟩ = some (I g.times.travel) ∧ W.cell? ⟨w.heap.size, 2, none⟩ = some (I g.times.level) ∧ W.cell? ⟨w.heap.size, 3, none⟩ = some (I g.times.opn) ∧ W.cell? ⟨w.heap.size, 4, none⟩ = some (I g.times.dwell) ∧ W.cell? ⟨w.heap.size, 5, none⟩ = some (I g.times.lead) ∧ W.cell? ⟨w.heap.size, 6, none⟩ = some (I g.times.close) ∧ W.cell? ⟨w.heap.size, 7, none⟩ = some (I g.times.hold) ∧ W.cell? ⟨w.heap.size, 8, none⟩ = some (I g.dwell) ∧ W.cell? ⟨w.heap.size, 9, none⟩ = some (I g.most) ∧ W.cell? ⟨w.heap.size + 1, 0, none⟩ = some (.slice (some ⟨b, off, none⟩) (m + 1) sc) ∧ W.cell? ⟨b, off, none⟩ = some (I fa) ∧ W.cell? ⟨b, off + m, none⟩ = some (I fb)) (go_simp) (first | (go_at_call 76; refine (cycle_stop g _).mono ?_; rintro e w1 ⟨rfl, hb1⟩; obtain ⟨hc1, hf1⟩ := bcell hb1))
  go_wp2
  go_ret
  exact ⟨by rw [HL.out]; rfl, by first | exact behind (below2 _ _ _) (undrew hb1) | exact (behind (below2 _ _ _) (undrew hb1)).drew⟩
end Nw
end Go.Proofs.Ytkipbgjaeapkkaa

namespace Go.Proofs.Ytkipbgjaeapkkaa
open Go.RowKit
namespace Nw

set_option maxHeartbeats 1000000 in
theorem cycle_Length (g : Ge) (p : Pl) (ll : Ll) (w : World) (hIn : p.In ll w) (hg : g.ok = true) (hp : p.Ok g.floors) :
    Calls Try.prog 25 #[g.v, p.v ll] w fun e w' => e = .returned (.tuple #[I (p.len g), I 0]) ∧ Below w.heap.size w w' := by
  have HIn := Lib.hid hIn; have Hg := Lib.hid hg; have Hp := Lib.hid hp
  clear hIn hp hg
  go_enter Try.func25, Try.ntmps25
  go_wp2_with fail
  refine (cycle_check g p ll _ ((HIn.out.alloc _).alloc _) Hg.out Hp.out).mono ?_
  rintro e w1 ⟨rfl, hb1⟩
  obtain ⟨hc1, hf1⟩ := bcell hb1
  have hz0 : w.heap.size < w1.heap.size := by have := hb1.size; simp at this; omega
  have hz1 : w.heap.size + 1 < w1.heap.size := by have := hb1.size; simp at this; omega
  have hB := behind (below2 _ _ _) hb1
  go_wp2_with fail
  refine (cycle_length g p ll _ (HIn.out.below hB) Hg.out Hp.out).mono ?_
  rintro e w2 ⟨rfl, hb2⟩
  go_wp2
  go_ret2
  exact ⟨rfl, behind hB hb2⟩
end Nw
end Go.Proofs.Ytkipbgjaeapkkaa
