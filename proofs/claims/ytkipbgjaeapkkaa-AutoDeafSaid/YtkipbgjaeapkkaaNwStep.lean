/- What auto.InStep does: a contract. -/
import Derived.Test.YtkipbgjaeapkkaaNwTold
set_option linter.unusedSimpArgs false
set_option linter.unusedVariables false
namespace Go.Proofs.Ytkipbgjaeapkkaa
open Go.RowKit
attribute [local go_sem ↓] Nw.ld_rule Nw.eq_rule
namespace Nw

theorem Au.check_parts {a : Au} (ha : a.check = 0) : a.c.check = 0 ∧ (1 ≤ a.mode ∧ a.mode ≤ 5) ∧ (0 ≤ a.nth ∧ a.nth < a.c.cars) ∧ 0 ≤ a.age ∧ a.car.may a.c.floors = true := by
  obtain ⟨h1, h2⟩ : a.c.homeE a.mode a.nth = 0 ∧ (decide (a.age < 0) || !a.car.may a.c.floors) = false := by
    unfold Au.check at ha
    cases h : (a.c.homeE a.mode a.nth != 0)
    · rw [h] at ha
      refine ⟨by simpa using h, ?_⟩
      cases hb : (decide (a.age < 0) || !a.car.may a.c.floors)
      · rfl
      · rw [hb] at ha; cases ha
    · rw [h] at ha
      rw [cond_true] at ha
      rw [ha] at h
      cases h
  simp only [Bool.or_eq_false_iff, decide_eq_false_iff_not, Bool.not_eq_false'] at h2
  unfold Cf.homeE at h1
  cases hk : (a.c.check != 0)
  · rw [hk] at h1
    cases hw : within a.mode 1 5
    · rw [hw] at h1; cases h1
    · rw [hw] at h1
      cases hn : (decide (a.nth < 0) || decide (a.c.cars ≤ a.nth))
      · simp only [Bool.or_eq_false_iff, decide_eq_false_iff_not] at hn
        exact ⟨by simpa using hk, within_iff.1 hw, by omega, by omega, h2.2⟩
      · rw [hn] at h1; cases h1
  · rw [hk, cond_true] at h1
    rw [h1] at hk
    cases hk

theorem au_cells {W : World} {g : Nat} {a : Au} {l : Cl} (h : Blk W g 60 (auC a l)) : W.cell? ⟨g, 37, none⟩ = some (I a.mode) ∧ W.cell? ⟨g, 38, none⟩ = some (I a.nth) := ⟨h.cell 37, h.cell 38⟩

set_option maxRecDepth 100000 in
set_option maxHeartbeats 4000000 in
theorem auto_InStep (a : Au) (l : Cl) (w : World) (hIn : a.c.In l w) :
    Calls Try.prog 23 #[a.v l] w fun e w' => e = .returned (.tuple #[.bool (bif a.check != 0 then false else a.is a.moves), I a.check]) ∧ Below w.heap.size w w' := by
  have HIn := Lib.hid hIn; clear hIn
  have hB := Blk.new w 60 (auC a l)
  have HB := Lib.hid hB; clear hB
  have HT : Hid (Below w.heap.size w (w.alloc (.cells (auC a l) 60))) := below1 _ _
  obtain ⟨hl1, hl2⟩ := ld_au HB.out
  cases hk : (a.check != 0)
  · have hk0 : a.check = 0 := by simpa using hk
    obtain ⟨hc, ⟨hm1, hm5⟩, ⟨hn0, hn1⟩, hage, hmay⟩ := Au.check_parts hk0
    have HK := Lib.hid hk0
    have HC := Lib.hid hc
    have HM : Hid (within a.mode 0 5 = true) := within_iff.2 ⟨by omega, hm5⟩
    have HN0 := Lib.hid hn0; have HN1 := Lib.hid hn1
    have hok := moves_ok hc (mode := a.mode) hn0 hn1
    have HMM : Hid (a.c.moves a.mode a.nth = a.moves) := rfl
    rw [HMM.out] at hok
    rw [HK.out]
    generalize a.moves = M at hok HMM ⊢
    have HOk := Lib.hid hok
    clear hk hk0 hc hm1 hm5 hn0 hn1 hage hmay hok
    go_enter Try.func23, Try.ntmps23
    go_wp2_with fail
    refine (auto_check a l _ (HIn.out.below HT.out)).mono ?_
    rw [HK.out]
    rintro e w1 ⟨rfl, hb1⟩
    have hA1 := HB.out.belowAll hb1
    have hT1 := HT.out.trans (hb1.mono HT.out.size)
    clear hl1 hl2 hb1
    obtain ⟨hl1, hl2⟩ := ld_au hA1.drew
    obtain ⟨hl3, hl4⟩ := ld_au_cf hA1.drew
    obtain ⟨hm1, hn1⟩ := au_cells hA1
    go_wp2_with fail
    have hT1d := hT1.drew
    go_region_law (go_simp; first
      | (refine (auto_of a.c l a.mode a.nth _ ?hi HC.out HM.out HN0.out HN1.out).mono ?_; (case hi => exact HIn.out.below hT1d); rw [HMM.out]; rintro e w2 ⟨ll, rfl, hmi, hma, hb2⟩; have hA2 := hA1.drew.belowAll hb2; obtain ⟨hl5, hl6⟩ := ld_au hA2; go_simp)
      | (refine (auto_tick a l M ll _ HC.out ?hi HOk.out).mono ?_; (case hi => exact hmi); rintro e w3 ⟨rfl, hb3⟩; go_simp))
    all_goals go_wp2
    all_goals go_ret2
    all_goals exact ⟨rfl, (hT1.trans ((undrew hb2).mono hT1.size)).trans (hb3.mono (hT1.trans ((undrew hb2).mono hT1.size)).size)⟩
  · have HK := Lib.hid hk
    go_enter Try.func23, Try.ntmps23
    go_wp2_with fail
    refine (auto_check a l _ (HIn.out.below HT.out)).mono ?_
    rintro e w1 ⟨rfl, hb1⟩
    clear hl1 hl2
    go_wp2
    go_ret2
    exact ⟨rfl, HT.out.trans (hb1.mono HT.out.size)⟩
end Nw
end Go.Proofs.Ytkipbgjaeapkkaa
