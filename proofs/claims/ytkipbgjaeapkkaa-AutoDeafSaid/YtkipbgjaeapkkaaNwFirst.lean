/- What cycle.First does: a contract. -/
import Derived.Test.YtkipbgjaeapkkaaNwLength
set_option linter.unusedSimpArgs false
set_option linter.unusedVariables false
namespace Go.Proofs.Ytkipbgjaeapkkaa
open Go.RowKit
namespace Nw

set_option maxHeartbeats 2000000 in
theorem cycle_First (g : Ge) (p : Pl) (ll : Ll) (w : World) (hIn : p.In ll w) (hg : g.ok = true) (hp : p.Ok g.floors) :
    Calls Try.prog 57 #[g.v, p.v ll] w fun e w' => e = .returned (.tuple #[I (p.row[(p.place p.car).toNat]?.getD 0), I 0]) ∧ Below w.heap.size w w' := by
  have HIn := Lib.hid hIn; have Hg := Lib.hid hg; have Hp := Lib.hid hp
  clear hIn hp hg
  go_enter Try.func57, Try.ntmps57
  go_wp2_with fail
  refine (cycle_check g p ll _ ((HIn.out.alloc _).alloc _) Hg.out Hp.out).mono ?_
  rintro e w1 ⟨rfl, hb1⟩
  obtain ⟨hc1, hf1⟩ := bcell hb1
  have hz0 : w.heap.size < w1.heap.size := by have := hb1.size; simp at this; omega
  have hz1 : w.heap.size + 1 < w1.heap.size := by have := hb1.size; simp at this; omega
  have hB := behind (below2 _ _ _) hb1
  go_wp2_with fail
  have hIn1 := HIn.out.below hB
  have hlen := Hp.out.len
  have hs1 := hIn1.s.1
  have hn1 := hIn1.n
  have hn0 := Hp.out.n0; have hnc := Hp.out.n1; have hc8 := Hp.out.c8
  obtain ⟨hpl0, hpl1⟩ := place_bd p _ Hp.out
  obtain ⟨f, hf⟩ : ∃ f : Nat, p.place p.car = f := ⟨(p.place p.car).toNat, by omega⟩
  have Hf := Lib.hid hf
  rw [hf] at hpl0 hpl1
  have hrl : p.row.length ≤ 200000 := by have := row_length p hlen; omega
  obtain ⟨m, hm⟩ : ∃ m : Nat, p.row.length = m := ⟨_, rfl⟩
  rw [hm] at hpl1 hrl
  have hfm : f < m := by omega
  have HR : Hid (p.row.length = m) := hm
  have hw : IntKind.i64.wrap (f : Int) = f := by rw [wrapEq]; exact IntWalk.wrap64_in _ (by omega)
  clear hf hm
  go_region_with (first | (go_at_call 80; refine (cycle_row p ll _ (by first | exact hIn1 | exact ⟨hIn1.n, hIn1.s⟩ | exact hIn1.below hb3 | exact hIn1.below (undrew hb3)) hlen).mono ?_; rintro e w2 ⟨g1, cap1, rfl, hrow, hb2⟩; rw [HR.out] at hrow ⊢; obtain ⟨b0, off, hbo, hlt0, hrc⟩ := hrow.2 (by omega); have hbo2 : b0 = g1 ∧ off = 0 := (by simp at hbo; exact ⟨hbo.1.symm, hbo.2.symm⟩); obtain ⟨rfl, rfl⟩ := hbo2; have hrf := hrc f hfm; rw [Nat.zero_add] at hrf; (try replace hb2 := undrew hb2); obtain ⟨hc2, hf2⟩ := bcell hb2; have hz20 : w.heap.size < w2.heap.size := (by have := hb2.size; (try simp at this); omega); have hz21 : w.heap.size + 1 < w2.heap.size := (by have := hb2.size; (try simp at this); omega); clear hrc hrow hbo) | (go_at_call 81; refine (cycle_place p ll p.car _ hn1 hs1 (by omega) hn0 hnc hc8).mono ?_; rw [Hf.out]; rintro e w3 ⟨rfl, hb3⟩; (try replace hb3 := undrew hb3); obtain ⟨hc3, hf3⟩ := bcell hb3; have hz30 : w.heap.size < w3.heap.size := (by have := hb3.size; (try simp at this); omega); have hz31 : w.heap.size + 1 < w3.heap.size := (by have := hb3.size; (try simp at this); omega)))
  all_goals go_wp2
  all_goals go_ret2
  all_goals exact ⟨by rw [Hf.out, Int.toNat_natCast]; rfl, by first | exact behind hB (behind hb2 hb3) | exact behind hB (behind hb3 hb2) | exact (behind hB (behind hb2 hb3)).drew | exact (behind hB (behind hb3 hb2)).drew⟩
end Nw
end Go.Proofs.Ytkipbgjaeapkkaa
