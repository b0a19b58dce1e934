/- What newellaw23.awake does: it returns true. -/
import Derived.Test.YtkipbgjaeapkkaaNwLaw
import Derived.Test.YtkipbgjaeapkkaaNwPlain
set_option linter.unusedSimpArgs false
set_option linter.unusedVariables false
namespace Go.Proofs.Ytkipbgjaeapkkaa
open Go.RowKit
attribute [local go_sem ↓] Nw.ld_rule Nw.eq_rule Nw.st_rule
namespace Nw

abbrev plA (c : Cf) : Au := ⟨c, 1, 0, 488, ⟨0, 0, 0, 0, ⟨0, 0, 0⟩⟩⟩
abbrev plT : To := ⟨true, false, false⟩
theorem plain_check : plainC.check = 0 := by kernel_rfl
theorem plain_settle : (bif plainC.check != 0 then 0 else plainC.settle) = 488 := by kernel_rfl
theorem plain_acheck : (plA plainC).check = 0 := by kernel_rfl
theorem plain_is : (bif (plA plainC).check != 0 then false else (plA plainC).is (plA plainC).moves) = true := by kernel_rfl
theorem plain_step : (bif (plA plainC).check != 0 then Cr.zero else (plA plainC).step plT).phase = 3 := by kernel_rfl
theorem plain_shows : (bif (plA plainC).check != 0 then Ou.zero else (plA plainC).shows plT) = ⟨0, 0, 0, false⟩ := by kernel_rfl
theorem plain_homeE : plainC.homeE 1 0 = 0 := by kernel_rfl
theorem plain_home : plainC.home 1 0 = 0 := by kernel_rfl
theorem plain_plan : (plainC.plan 1 0).stops.length = 3 := by kernel_rfl
theorem plain_gear : (plainC.gear 1).dwell = 5 := by kernel_rfl

set_option maxRecDepth 100000 in
set_option maxHeartbeats 4000000 in
theorem law23_awake (w : World) : Calls Try.prog 10 #[] w fun e w' => e = .returned (.bool true) ∧ Below w.heap.size w w' := by
  have HPl := Lib.hid (law10_Plain w)
  have h1 := plain_check; have h2 := plain_settle; have h3 := plain_acheck; have h4 := plain_is; have h5 := plain_step; have h6 := plain_shows
  have h7 := plain_homeE; have h8 := plain_home; have h9 := plain_plan; have h10 := plain_gear
  generalize plainC = c at HPl h1 h2 h3 h4 h5 h6 h7 h8 h9 h10
  generalize hd : (bif (plA c).check != 0 then Cr.zero else (plA c).step plT) = d at h5
  have H1 := Lib.hid h1; have H2 := Lib.hid h2; have H3 := Lib.hid h3; have H4 := Lib.hid h4; have H5 := Lib.hid h5; have H6 := Lib.hid h6
  have H7 := Lib.hid h7; have H8 := Lib.hid h8; have H9 := Lib.hid h9; have H10 := Lib.hid h10; have HD := Lib.hid hd
  clear h1 h2 h3 h4 h5 h6 h7 h8 h9 h10 hd
  go_enter Try.func10, Try.ntmps10
  go_wp2_with fail
  refine HPl.out.mono ?_
  rintro e w1 ⟨l, rfl, hi1, -, -, hb1⟩
  have hst := st_cfg (c := c) (l := l) (Blk.new w1 33 cfZ) (by simp)
  have hs1 := hst.1; have hs2 := hst.2; clear hst
  have hC2 := (Blk.new w1 33 cfZ).setCells_own (cfC c l) (by simp)
  have hb2 : Below w1.heap.size w1 ((w1.alloc (.cells cfZ 33)).setCells w1.heap.size 0 (cfC c l).toList) := Below.setCells_ (Nat.le_refl _) _ 0 (below1 w1 _)
  generalize hWW : (w1.alloc (.cells cfZ 33)).setCells w1.heap.size 0 (cfC c l).toList = W2 at hs2 hC2 hb2
  clear hWW
  have hT2 := hb1.trans (hb2.mono hb1.size)
  have hi2 := hi1.below hb2
  obtain ⟨hl1, hl2⟩ := ld_cfg hC2
  go_wp2_with fail
  refine (auto_Settle c l _ hi2).mono ?_
  rw [H2.out, H1.out]
  rintro e w3 ⟨rfl, hb3⟩
  have hC3 := hC2.belowAll hb3
  have hi3 := hi2.below hb3
  have hT3 := behind hT2 hb3
  clear hs1 hs2 hl1 hl2
  obtain ⟨hl1, hl2⟩ := ld_cfg hC3
  have hst := st_au (a := plA c) (l := l) (Blk.new w3 60 auZ) (by simp)
  have hs1 := hst.1; have hs2 := hst.2; clear hst
  have hA4 := (Blk.new w3 60 auZ).setCells_own (auC (plA c) l) (by simp)
  have hb4 : Below w3.heap.size w3 ((w3.alloc (.cells auZ 60)).setCells w3.heap.size 0 (auC (plA c) l).toList) := Below.setCells_ (Nat.le_refl _) _ 0 (below1 w3 _)
  generalize hWW : (w3.alloc (.cells auZ 60)).setCells w3.heap.size 0 (auC (plA c) l).toList = W4 at hs2 hA4 hb4
  clear hWW
  have hC4 := hC3.belowAll hb4
  have hi4 := hi3.below hb4
  have hT4 := behind hT3 hb4
  obtain ⟨hl3, hl4⟩ := ld_au hA4
  go_wp2_with fail
  refine (auto_InStep (plA c) l _ hi4).mono ?_
  rw [H4.out, H3.out]
  rintro e w5 ⟨rfl, hb5⟩
  have hC5 := hC4.belowAll hb5
  have hA5 := hA4.belowAll hb5
  have hi5 := hi4.below hb5
  have hT5 := behind hT4 hb5
  clear hs1 hs2 hl1 hl2 hl3 hl4
  obtain ⟨hl3, hl4⟩ := ld_au hA5
  go_wp2_with fail
  refine (auto_Step (plA c) l plT _ hi5).mono ?_
  rw [HD.out, H6.out, H3.out]
  rintro e w6 ⟨rfl, hb6⟩
  have hC6 := (hC5.belowAll hb6).alloc (.cells (crC d) 58) |>.alloc (.cells #[I 0, I 0, I 0, .bool false] 64)
  have hi6 := ((hi5.below hb6).alloc (.cells (crC d) 58)).alloc (.cells #[I 0, I 0, I 0, .bool false] 64)
  have hT6 := (behind hT5 hb6).trans (below2 w6 (.cells (crC d) 58) (.cells #[I 0, I 0, I 0, .bool false] 64) |>.mono (behind hT5 hb6).size)
  have hP6 := Blk.new w6 58 (crC d) |>.alloc (.cells #[I 0, I 0, I 0, .bool false] 64)
  have hO6 := Blk.new_ (w6.alloc (.cells (crC d) 58)) 64 #[I 0, I 0, I 0, .bool false] (w6.heap.size + 1) (by simp)
  obtain ⟨hl5, hl6⟩ := ld_cfg hC6
  clear hl3 hl4
  go_wp2_with fail
  refine (auto_Home c l 1 0 _ hi6).mono ?_
  rintro e w7 ⟨home, p, ⟨pa, pn, pc⟩, rfl, hhp, hpi, -, hb7⟩
  rw [H7.out] at hhp ⊢
  have hh : home = 0 := by have := congrArg Prod.fst hhp; simpa [H8.out] using this
  have hpp : pn = 3 := by have := congrArg Prod.snd hhp; have h3 := hpi.s.1; simp at this; rw [this, H9.out] at h3; exact h3.symm
  subst hh hpp
  have hC7 := (hC6.belowAll hb7).alloc (.cells #[.slice pa 3 pc, I p.cars, I p.car] 45)
  have hi7 := (hi6.below hb7).alloc (.cells #[.slice pa 3 pc, I p.cars, I p.car] 45)
  have hP7 := (hP6.belowAll hb7).alloc (.cells #[.slice pa 3 pc, I p.cars, I p.car] 45)
  have hO7 := (hO6.belowAll hb7).alloc (.cells #[.slice pa 3 pc, I p.cars, I p.car] 45)
  have hQ7 := Blk.new w7 45 #[.slice pa 3 pc, I p.cars, I p.car]
  have hT7 := (behind hT6 hb7).alloc (behind hT6 hb7).size (.cells #[.slice pa 3 pc, I p.cars, I p.car] 45)
  obtain ⟨hl7, hl8⟩ := ld_cfg hC7
  clear hl5 hl6
  go_wp2_with fail
  refine (auto_Gear_ok c l 1 _ hi7 H1.out (by decide)).mono ?_
  rintro e w8 ⟨rfl, hb8⟩
  have hP8 := hP7.belowAll hb8
  have hO8 := hO7.belowAll hb8
  have hQ8 := hQ7.belowAll hb8
  have hT8 := behind hT7 hb8
  have hc1 : w8.cell? ⟨w6.heap.size, 2, none⟩ = some (I 3) := (hP8.cell 2).trans (show some (I d.phase) = _ by rw [H5.out])
  have hc2 : w8.cell? ⟨w7.heap.size, 0, none⟩ = some (.slice pa 3 pc) := hQ8.cell 0
  have hz1 : w6.heap.size < w8.heap.size := hP8.lt
  have hz2 : w7.heap.size < w8.heap.size := hQ8.lt
  have hO8c := hO8.cell
  have hz3 := hO8.lt
  have h10 := H10.out
  generalize c.gear 1 = G at h10
  clear hl7 hl8
  go_wp2
  go_ret
  exact ⟨rfl, hT8.alloc hT8.size _⟩
end Nw
end Go.Proofs.Ytkipbgjaeapkkaa
