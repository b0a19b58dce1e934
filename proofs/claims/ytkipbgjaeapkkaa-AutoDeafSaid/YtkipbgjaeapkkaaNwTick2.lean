/- What auto.tick does: a contract. -/
import Derived.Test.YtkipbgjaeapkkaaNwTick
import Derived.Test.YtkipbgjaeapkkaaNwEq
import Derived.Deep.RegionLaw
set_option linter.unusedSimpArgs false
set_option linter.unusedVariables false
namespace Go.Proofs.Ytkipbgjaeapkkaa
open Go.RowKit
namespace Nw

attribute [local go_sem ↓] ld_rule eq_rule
theorem ld_au_cf {W : World} {g : Nat} {a : Au} {l : Cl} (h : Blk W g 60 (auC a l)) : Ld Try.prog W 33 (.pointer (some ⟨g, 0, none⟩)) ∧ ldV Try.prog W 33 (.pointer (some ⟨g, 0, none⟩)) = a.c.v l :=
  Ld.of_part h 33 0 _ (cfC a.c l).toList (au_cf a l) Try.underlying33 rfl (by kernel_rfl)

theorem ld_au_cr {W : World} {g : Nat} {a : Au} {l : Cl} (h : Blk W g 60 (auC a l)) : Ld Try.prog W 58 (.pointer (some ⟨g, 40, none⟩)) ∧ ldV Try.prog W 58 (.pointer (some ⟨g, 40, none⟩)) = a.car.v :=
  Ld.of_part h 58 40 _ (crC a.car).toList (au_cr a l) Try.underlying58 rfl (by kernel_rfl)

/-- What is known of what moves a car: no stops, or a plan that may be. -/
def Mv.Ok (m : Mv) : Prop := m.p.stops = [] ∨ (m.g.ok = true ∧ m.p.Ok m.g.floors)

set_option maxRecDepth 100000 in
set_option maxHeartbeats 2000000 in
theorem auto_tick_neg (a : Au) (l : Cl) (m : Mv) (ll : Ll) (w : World) (hc : a.c.check = 0) (hs : decide (a.since < 0) = true) :
    Calls Try.prog 42 #[a.v l, m.v ll] w fun e w' => e = .returned (.tuple #[I (a.phase m), .bool (a.is m)]) ∧ Below w.heap.size w w' := by
  have HV : Hid (a.phase m = 0 ∧ a.is m = false) := by unfold Hid Au.phase Au.is; rw [hs]; exact ⟨rfl, rfl⟩
  rw [HV.out.1, HV.out.2]
  have hs' : decide (wrap64 (a.age - a.c.settle) < 0) = true := hs
  clear hs
  have HC := Lib.hid hc; clear hc
  have hB := (Blk.new w 60 (auC a l)).alloc (.cells (mvC m ll) 84)
  have HB := Lib.hid hB; clear hB
  have HT : Hid (Below w.heap.size w ((w.alloc (.cells (auC a l) 60)).alloc (.cells (mvC m ll) 84))) := below2 _ _ _
  have HBM : Hid (Blk ((w.alloc (.cells (auC a l) 60)).alloc (.cells (mvC m ll) 84)) (w.heap.size + 1) 84 (mvC m ll)) := Blk.new_ _ _ _ _ (by simp)
  go_enter Try.func42, Try.ntmps42
  go_wp2_with fail
  obtain ⟨W0, hW0⟩ : ∃ W0, (w.alloc (.cells (auC a l) 60)).alloc (.cells (mvC m ll) 84) = W0 := ⟨_, rfl⟩
  rw [hW0] at HB HT HBM ⊢
  clear hW0
  have hage : W0.cell? ⟨w.heap.size, 39, none⟩ = some (I a.age) := HB.out.cell 39
  obtain ⟨hl1, hl2⟩ := ld_au_cf (HB.out.drew)
  generalize a.v l = av
  generalize m.v ll = mv
  go_region_law (go_simp; refine (auto_settle a.c l _ HC.out).mono ?_; rintro e w1 ⟨rfl, hb1⟩; have hage1 : w1.cell? ⟨w.heap.size, 39, none⟩ = some (I a.age) := (HB.out.drew.belowAll hb1).cell 39; go_simp)
  all_goals go_wp2
  all_goals go_ret2
  all_goals exact ⟨rfl, HT.out.trans ((undrew hb1).mono HT.out.size)⟩

set_option maxRecDepth 100000 in
set_option maxHeartbeats 2000000 in
theorem auto_tick_none (a : Au) (l : Cl) (m : Mv) (ll : Ll) (w : World) (hc : a.c.check = 0) (hs : decide (a.since < 0) = false) (hm : m.p.stops = []) (hn : ll.n = 0) :
    Calls Try.prog 42 #[a.v l, m.v ll] w fun e w' => e = .returned (.tuple #[I (a.phase m), .bool (a.is m)]) ∧ Below w.heap.size w w' := by
  have HV : Hid (a.phase m = 0 ∧ a.is m = a.car.same (Cr.idle m.home)) := by unfold Hid Au.phase Au.is; rw [hs, hm]; exact ⟨rfl, rfl⟩
  rw [HV.out.1, HV.out.2]
  have hs' : decide (wrap64 (a.age - a.c.settle) < 0) = false := hs
  have HN := Lib.hid hn
  clear hs hm hn
  have HC := Lib.hid hc; clear hc
  have hB := (Blk.new w 60 (auC a l)).alloc (.cells (mvC m ll) 84)
  have HB := Lib.hid hB; clear hB
  have HT : Hid (Below w.heap.size w ((w.alloc (.cells (auC a l) 60)).alloc (.cells (mvC m ll) 84))) := below2 _ _ _
  have HBM : Hid (Blk ((w.alloc (.cells (auC a l) 60)).alloc (.cells (mvC m ll) 84)) (w.heap.size + 1) 84 (mvC m ll)) := Blk.new_ _ _ _ _ (by simp)
  go_enter Try.func42, Try.ntmps42
  go_wp2_with fail
  obtain ⟨W0, hW0⟩ : ∃ W0, (w.alloc (.cells (auC a l) 60)).alloc (.cells (mvC m ll) 84) = W0 := ⟨_, rfl⟩
  rw [hW0] at HB HT HBM ⊢
  clear hW0
  have hage : W0.cell? ⟨w.heap.size, 39, none⟩ = some (I a.age) := HB.out.cell 39
  obtain ⟨hl1, hl2⟩ := ld_au_cf (HB.out.drew)
  generalize a.v l = av
  generalize m.v ll = mv
  go_region_law (go_simp; refine (auto_settle a.c l _ HC.out).mono ?_; rintro e w1 ⟨rfl, hb1⟩; have hage1 : w1.cell? ⟨w.heap.size, 39, none⟩ = some (I a.age) := (HB.out.drew.belowAll hb1).cell 39; go_simp)
  all_goals
    have hT1 := HT.out.trans ((undrew hb1).mono HT.out.size)
    have hm1 := HBM.out.drew.belowAll hb1
    have hcs : w1.cell? ⟨w.heap.size + 1, 0, none⟩ = some (.slice ll.a 0 ll.c) := (hm1.cell 0).trans ((show (mvC m ll)[0]? = some (.slice ll.a ll.n ll.c) from rfl).trans (by rw [HN.out]))
    have heq : ∀ W x y, EqR Try.prog W 58 x y a.car.v (Cr.idle m.home).v := fun W x y => (eq_cr W _ _ x y).1
    have heqv : ∀ W x y, eqV Try.prog W 58 x y a.car.v (Cr.idle m.home).v = .bool (a.car.same (Cr.idle m.home)) := fun W x y => (eq_cr W _ _ x y).2
    unfold Cr.idle Dr.zero at heq heqv
    have hch : w1.cell? ⟨w.heap.size + 1, 13, none⟩ = some (I m.home) := hm1.cell 13
    obtain ⟨hl3, hl4⟩ := ld_au_cr (HB.out.drew.belowAll hb1).drew
    clear hage hage1 hl1 hl2
    go_wp2_with fail
    go_region_law fail
  all_goals go_wp2
  all_goals go_ret2
  all_goals exact ⟨rfl, hT1.drew⟩
end Nw
end Go.Proofs.Ytkipbgjaeapkkaa
