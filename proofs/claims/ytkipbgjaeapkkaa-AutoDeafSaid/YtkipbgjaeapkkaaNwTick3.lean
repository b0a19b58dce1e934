/- What auto.tick does in a mode with plans: a contract. -/
import Derived.Test.YtkipbgjaeapkkaaNwTick2
import Derived.Deep.DeepCutAuto
set_option linter.unusedSimpArgs false
set_option linter.unusedVariables false
namespace Go.Proofs.Ytkipbgjaeapkkaa
open Go.RowKit
attribute [local go_sem ↓] Nw.ld_rule Nw.eq_rule
namespace Nw

abbrev crZ : Array Value := #[I 0, I 0, I 0, I 0, I 0, I 0, I 0]
abbrev geC' (g : Ge) : List Value := [I g.floors, I g.times.travel, I g.times.level, I g.times.opn, I g.times.dwell, I g.times.lead, I g.times.close, I g.times.hold, I g.dwell, I g.most]
theorem mv_ge (m : Mv) (ll : Ll) : ∀ j v, (geC' m.g)[j]? = some v → (mvC m ll)[3 + j]? = some v := hl_take (n := 10) rfl
theorem mv_pl (m : Mv) (ll : Ll) : ∀ j v, (plC m.p ll).toList[j]? = some v → (mvC m ll)[0 + j]? = some v := hl_take (n := 3) rfl
theorem ld_mv_ge {W : World} {g : Nat} {m : Mv} {ll : Ll} (h : Blk W g 84 (mvC m ll)) : Ld Try.prog W 37 (.pointer (some ⟨g, 3, none⟩)) ∧ ldV Try.prog W 37 (.pointer (some ⟨g, 3, none⟩)) = m.g.v :=
  Ld.of_part h 37 3 _ (geC' m.g) (mv_ge m ll) Try.underlying37 rfl (by kernel_rfl)
theorem ld_mv_pl {W : World} {g : Nat} {m : Mv} {ll : Ll} (h : Blk W g 84 (mvC m ll)) : Ld Try.prog W 45 (.pointer (some ⟨g, 0, none⟩)) ∧ ldV Try.prog W 45 (.pointer (some ⟨g, 0, none⟩)) = m.p.v ll :=
  Ld.of_part h 45 0 _ (plC m.p ll).toList (mv_pl m ll) Try.underlying45 rfl (by kernel_rfl)

theorem len_bd {g : Ge} {p : Pl} (hg : g.ok = true) (hp : p.Ok g.floors) (hn : p.stops.length ≤ 100000) : 1 ≤ p.len g ∧ p.len g ≤ 200000000 := by
  obtain ⟨hgf0, hgf1, ht0, ht1, hs0, hs1⟩ := ge_bounds g hg
  have h2 := hp.len
  have hinc : ∀ k, k < p.stops.length → p.stops[0]?.getD 0 ≤ p.stops[k]?.getD 0 := by
    intro k
    induction k with
    | zero => intro _; omega
    | succ k ih => intro hk; have := ih (by omega); have := hp.inc k hk; omega
  have hl := hinc (p.stops.length - 1) (by omega)
  have h0 := hp.lo 0 (by omega)
  have h1 := hp.hi (p.stops.length - 1) (by omega)
  unfold Pl.len
  generalize p.stops[p.stops.length - 1]?.getD 0 = y at *
  generalize p.stops[0]?.getD 0 = x at *
  have e1 : 2 * 4 ≤ (2 * (p.stops.length : Int) - 2) * g.stop := Int.mul_le_mul (by omega) hs0 (by omega) (by omega)
  have e2 : (2 * (p.stops.length : Int) - 2) * g.stop ≤ 200000 * 480 := Int.mul_le_mul (by omega) hs1 (by omega) (by omega)
  have e3 : 0 ≤ 2 * (y - x) * g.times.travel := Int.mul_nonneg (by omega) (by omega)
  have e4 : 2 * (y - x) * g.times.travel ≤ 128 * 60 := Int.mul_le_mul (by omega) ht1 (by omega) (by omega)
  omega

set_option maxRecDepth 100000 in
set_option maxHeartbeats 4000000 in
theorem auto_tick_plan (a : Au) (l : Cl) (m : Mv) (ll : Ll) (w : World) (hc : a.c.check = 0) (hs : decide (a.since < 0) = false) (hIn : m.p.In ll w) (hg : m.g.ok = true) (hp : m.p.Ok m.g.floors) :
    Calls Try.prog 42 #[a.v l, m.v ll] w fun e w' => e = .returned (.tuple #[I (a.phase m), .bool (a.is m)]) ∧ Below w.heap.size w w' := by
  have hn := hIn.s.1
  have hn2 : 2 ≤ ll.n := by have := hp.len; omega
  have hlen := len_bd hg hp (by have := hIn.n; omega)
  have hz : (m.p.stops.length == 0) = false := beq_eq_false_iff_ne.2 (by omega)
  have HV : Hid (a.phase m = a.since % m.p.len m.g ∧ a.is m = a.car.same (m.p.at_ m.g (a.since % m.p.len m.g))) := by unfold Hid Au.phase Au.is; rw [hs, hz]; exact ⟨rfl, rfl⟩
  rw [HV.out.1, HV.out.2]
  have hs' : decide (wrap64 (a.age - a.c.settle) < 0) = false := hs
  have HS : Hid (a.since = wrap64 (a.age - a.c.settle)) := rfl
  obtain ⟨d, hd⟩ : ∃ d, m.p.at_ m.g ((wrap64 (a.age - a.c.settle)).tmod (m.p.len m.g)) = d := ⟨_, rfl⟩
  have HD := Lib.hid hd
  have hs0 : 0 ≤ wrap64 (a.age - a.c.settle) := by have := of_decide_eq_false hs'; omega
  rw [HS.out, ← Int.tmod_eq_emod_of_nonneg hs0, hd]
  clear hd
  have HN2 := Lib.hid hn2
  clear hs hz hn hn2 HV
  have HC := Lib.hid hc; have HIn := Lib.hid hIn; have Hg := Lib.hid hg; have Hp := Lib.hid hp
  clear hc hIn hg hp
  have hB := (Blk.new w 60 (auC a l)).alloc (.cells (mvC m ll) 84)
  have HB := Lib.hid hB; clear hB
  have HT : Hid (Below w.heap.size w ((w.alloc (.cells (auC a l) 60)).alloc (.cells (mvC m ll) 84))) := below2 _ _ _
  have HBM : Hid (Blk ((w.alloc (.cells (auC a l) 60)).alloc (.cells (mvC m ll) 84)) (w.heap.size + 1) 84 (mvC m ll)) := Blk.new_ _ _ _ _ (by simp)
  go_enter Try.func42, Try.ntmps42
  go_wp2_with fail
  obtain ⟨W0, hW0⟩ : ∃ W0, (w.alloc (.cells (auC a l) 60)).alloc (.cells (mvC m ll) 84) = W0 := ⟨_, rfl⟩
  rw [hW0] at HB HT HBM ⊢
  clear hW0
  have hage : W0.cell? ⟨w.heap.size, 39, none⟩ = some (I a.age) := HB.out.cell 39
  obtain ⟨hl1, hl2⟩ := ld_au_cf (HB.out.drew)
  generalize a.v l = av
  generalize m.v ll = mv
  go_cut [6] from 11 to 16 (fun s6 wx => s6 = I (wrap64 (a.age - a.c.settle)) ∧ Below W0.heap.size W0 wx)
  case first =>
    go_region_law (go_simp; refine (auto_settle a.c l _ HC.out).mono ?_; rintro e w1 ⟨rfl, hb1⟩; have hage1 : w1.cell? ⟨w.heap.size, 39, none⟩ = some (I a.age) := (HB.out.drew.belowAll hb1).cell 39; go_simp)
    all_goals (go_wp2_with fail; go_meet; exact ⟨by rw [wrapEq], undrew hb1⟩)
  case rest =>
    obtain ⟨rfl, hb1⟩ := hcut
    have hT1 := HT.out.trans (hb1.mono HT.out.size)
    have hA1 := HB.out.belowAll hb1
    have hm1 := HBM.out.belowAll hb1
    have hcs := hm1.cell 0
    have hcs' : wc.cell? ⟨w.heap.size + 1, 0, none⟩ = some (.slice ll.a ll.n ll.c) := hcs
    have hn0 : (ll.n == 0) = false := beq_eq_false_iff_ne.2 (by have := HN2.out; omega)
    have hn1 : ((ll.n : Int) == 0) = false := beq_eq_false_iff_ne.2 (by have := HN2.out; omega)
    have hn2 : ¬ ll.n = 0 := by have := HN2.out; omega
    obtain ⟨hl3, hl4⟩ := ld_mv_ge hm1
    obtain ⟨hl5, hl6⟩ := ld_mv_pl hm1
    clear hage hl1 hl2 hcs
    go_wp2_with fail
    refine (cycle_Length m.g m.p ll _ (HIn.out.below hT1) Hg.out Hp.out).mono ?_
    rintro e w2 ⟨rfl, hb2⟩
    have hT2 := behind hT1 hb2
    have hA2 := hA1.belowAll hb2
    have hm2 := hm1.belowAll hb2
    clear hl3 hl4 hl5 hl6 hcs'
    obtain ⟨hl3, hl4⟩ := ld_mv_ge hm2.drew
    obtain ⟨hl5, hl6⟩ := ld_mv_pl hm2.drew
    have hL0 : ¬ m.p.len m.g = 0 := by omega
    have hL1 : (m.p.len m.g == 0) = false := beq_eq_false_iff_ne.2 hL0
    have hT2d := hT2.drew
    have hT2e := (hT2.alloc hT2.size (.cells crZ 58)).drew
    obtain ⟨hl3e, hl4e⟩ := ld_mv_ge (hm2.alloc (.cells crZ 58)).drew
    obtain ⟨hl5e, hl6e⟩ := ld_mv_pl (hm2.alloc (.cells crZ 58)).drew
    have hA2l := hA2.lt
    go_wp2_with fail
    go_cut [9] from 38 to 48 (fun s9 wx => ∃ g, s9 = .pointer (some ⟨g, 0, none⟩) ∧ w2.heap.size ≤ g ∧ Blk wx g 58 (crC d) ∧ Below w2.heap.size w2 wx)
    case first =>
      go_region_law (go_simp; refine (cycle_At2 m.g m.p ll _ _ ?hi Hg.out Hp.out).mono ?_; (case hi => first | exact HIn.out.below hT2d | exact HIn.out.below hT2e); rw [HD.out]; rintro e w3 ⟨rfl, hb3⟩; try (have hN := (Blk.new w2 58 crZ).drew.belowAll hb3; have hNc := hN.cell; have hNf := hN.frozen); go_simp)
      all_goals (go_wp2_with fail; go_meet)
      all_goals first
        | exact ⟨w3.heap.size, rfl, (undrew hb3).size, Blk.new _ _ _, (undrew hb3).alloc (undrew hb3).size _⟩
        | (have hb4 : Below w2.heap.size w2 w3 := (below1 w2 _).trans ((undrew hb3).mono (by simp))
           exact ⟨w2.heap.size, rfl, Nat.le_refl _, (((((((hN.set_ 0 (I d.floor)).set_ 1 (I d.dir)).set_ 2 (I d.phase)).set_ 3 (I d.left)).set_ 4 (I d.door.phase)).set_ 5 (I d.door.left)).set_ 6 (I d.door.held)).conv (by simp), ((((((hb4.setCell (p := ⟨w2.heap.size, 0, none⟩) (Nat.le_refl _) (I d.floor)).setCell (p := ⟨w2.heap.size, 1, none⟩) (Nat.le_refl _) (I d.dir)).setCell (p := ⟨w2.heap.size, 2, none⟩) (Nat.le_refl _) (I d.phase)).setCell (p := ⟨w2.heap.size, 3, none⟩) (Nat.le_refl _) (I d.left)).setCell (p := ⟨w2.heap.size, 4, none⟩) (Nat.le_refl _) (I d.door.phase)).setCell (p := ⟨w2.heap.size, 5, none⟩) (Nat.le_refl _) (I d.door.left)).setCell (p := ⟨w2.heap.size, 6, none⟩) (Nat.le_refl _) (I d.door.held)⟩)
    case rest =>
      obtain ⟨g, rfl, hge, hcar, hb3⟩ := hcut
      have hA3 := hA2.belowAll hb3
      obtain ⟨hl7, hl8⟩ := ld_au_cr hA3.drew
      obtain ⟨hl9, hl10⟩ := Ld.of_part (P := Try.prog) hcar.drew 58 0 _ (crC d).toList (hl_take (n := 7) rfl) Try.underlying58 rfl (by kernel_rfl)
      have heq : ∀ W x y, EqR Try.prog W 58 x y a.car.v d.v := fun W x y => (eq_cr W _ _ x y).1
      have heqv : ∀ W x y, eqV Try.prog W 58 x y a.car.v d.v = .bool (a.car.same d) := fun W x y => (eq_cr W _ _ x y).2
      have hT4 := hT2.trans (hb3.mono hT2.size)
      clear hl3 hl4 hl5 hl6 hl3e hl4e hl5e hl6e
      go_wp2_with fail
      go_region_law fail
      all_goals go_wp2
      all_goals go_ret2
      all_goals exact ⟨rfl, hT4.drew⟩

/-- What is known of what moves a car that may be. -/
theorem moves_ok {c : Cf} (hc : c.check = 0) {mode nth : Int} (h0 : 0 ≤ nth) (h1 : nth < c.cars) : ((c.moves mode nth).p.stops = []) ∨ ((c.moves mode nth).g.ok = true ∧ (c.moves mode nth).p.Ok (c.moves mode nth).g.floors) := by
  cases hp : planned mode
  · refine .inl ?_
    unfold planned at hp
    show (c.plan mode nth).stops = []
    unfold Cf.plan
    simp only [Bool.or_eq_false_iff] at hp
    rw [hp.1, hp.2]
    rfl
  · exact .inr ⟨Cf.gear_ok hc mode, Cf.plan_ok hc hp h0 h1⟩
theorem auto_tick (a : Au) (l : Cl) (m : Mv) (ll : Ll) (w : World) (hc : a.c.check = 0) (hIn : m.p.In ll w) (hm : m.p.stops = [] ∨ (m.g.ok = true ∧ m.p.Ok m.g.floors)) :
    Calls Try.prog 42 #[a.v l, m.v ll] w fun e w' => e = .returned (.tuple #[I (a.phase m), .bool (a.is m)]) ∧ Below w.heap.size w w' := by
  cases hs : decide (a.since < 0)
  · rcases hm with hm | ⟨hg, hp⟩
    · exact auto_tick_none a l m ll w hc hs hm (by rw [← hIn.s.1, hm]; rfl)
    · exact auto_tick_plan a l m ll w hc hs hIn hg hp
  · exact auto_tick_neg a l m ll w hc hs
end Nw
end Go.Proofs.Ytkipbgjaeapkkaa
