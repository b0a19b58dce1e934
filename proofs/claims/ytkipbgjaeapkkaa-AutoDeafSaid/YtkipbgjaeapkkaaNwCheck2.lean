/- What config.Check does: a contract. (Printed by wip/mkcheck.py.) -/
import Derived.Test.YtkipbgjaeapkkaaNwCheck
import Derived.Test.YtkipbgjaeapkkaaNwBlk
import Derived.Laws.EntriesVeiled
set_option linter.unusedSimpArgs false
set_option linter.unusedVariables false
namespace Go.Proofs.Ytkipbgjaeapkkaa
open Go.RowKit
namespace Nw

set_option maxRecDepth 100000 in
set_option maxHeartbeats 4000000 in
theorem config_Check (c : Cf) (l : Cl) (w : World) (hIn : c.In l w) :
    Calls Try.prog 24 #[c.v l] w fun e w' => e = .returned (I c.check) ∧ Below w.heap.size w w' := by
  have HV : Hid (c.check = bif !c.sizeB then 100 else bif !c.stopsB then 101 else bif !c.timesB then 102 else bif c.zone.check != 0 then c.zone.check else bif c.sun.check != 0 then c.sun.check else c.windowsE) := rfl
  generalize c.check = V at *
  have hT0 := below2 w (.cells #[I c.floors, I c.cars, I c.park, .slice l.sa l.sn l.sc, I c.times.travel, I c.times.level, I c.times.opn, I c.times.dwell, I c.times.lead, I c.times.close, I c.times.hold, I c.rest, I c.pater, I c.zone.base, I c.zone.shift, I c.zone.on_.month, I c.zone.on_.week, I c.zone.on_.weekday, I c.zone.on_.minute, I c.zone.off.month, I c.zone.off.week, I c.zone.off.weekday, I c.zone.off.minute, I c.sun.s0, I c.sun.s1, I c.sun.s2, I c.sun.s3, I c.sun.s4, I c.sun.s5, I c.sun.s6, I c.sun.s7, I c.sun.s8, I c.sun.s9, I c.sun.s10, I c.sun.s11, .bool c.abroad, .slice l.wa l.wn l.wc] 33) (.cells #[.func (.func 43) #[] #[], .func (.func 44) #[] #[], .func (.func 45) #[] #[], .func (.func 46) #[] #[], .func (.func 48) #[] #[], .func (.func 50) #[] #[]] 101)
  have hI0 := Lib.hid ((hIn.alloc (.cells #[I c.floors, I c.cars, I c.park, .slice l.sa l.sn l.sc, I c.times.travel, I c.times.level, I c.times.opn, I c.times.dwell, I c.times.lead, I c.times.close, I c.times.hold, I c.rest, I c.pater, I c.zone.base, I c.zone.shift, I c.zone.on_.month, I c.zone.on_.week, I c.zone.on_.weekday, I c.zone.on_.minute, I c.zone.off.month, I c.zone.off.week, I c.zone.off.weekday, I c.zone.off.minute, I c.sun.s0, I c.sun.s1, I c.sun.s2, I c.sun.s3, I c.sun.s4, I c.sun.s5, I c.sun.s6, I c.sun.s7, I c.sun.s8, I c.sun.s9, I c.sun.s10, I c.sun.s11, .bool c.abroad, .slice l.wa l.wn l.wc] 33)).alloc (.cells #[.func (.func 43) #[] #[], .func (.func 44) #[] #[], .func (.func 45) #[] #[], .func (.func 46) #[] #[], .func (.func 48) #[] #[], .func (.func 50) #[] #[]] 101))
  have hB0 := (Blk.new w 33 #[I c.floors, I c.cars, I c.park, .slice l.sa l.sn l.sc, I c.times.travel, I c.times.level, I c.times.opn, I c.times.dwell, I c.times.lead, I c.times.close, I c.times.hold, I c.rest, I c.pater, I c.zone.base, I c.zone.shift, I c.zone.on_.month, I c.zone.on_.week, I c.zone.on_.weekday, I c.zone.on_.minute, I c.zone.off.month, I c.zone.off.week, I c.zone.off.weekday, I c.zone.off.minute, I c.sun.s0, I c.sun.s1, I c.sun.s2, I c.sun.s3, I c.sun.s4, I c.sun.s5, I c.sun.s6, I c.sun.s7, I c.sun.s8, I c.sun.s9, I c.sun.s10, I c.sun.s11, .bool c.abroad, .slice l.wa l.wn l.wc]).alloc (.cells #[.func (.func 43) #[] #[], .func (.func 44) #[] #[], .func (.func 45) #[] #[], .func (.func 46) #[] #[], .func (.func 48) #[] #[], .func (.func 50) #[] #[]] 101)
  have hR0 := Blk.new_ (w.alloc (.cells #[I c.floors, I c.cars, I c.park, .slice l.sa l.sn l.sc, I c.times.travel, I c.times.level, I c.times.opn, I c.times.dwell, I c.times.lead, I c.times.close, I c.times.hold, I c.rest, I c.pater, I c.zone.base, I c.zone.shift, I c.zone.on_.month, I c.zone.on_.week, I c.zone.on_.weekday, I c.zone.on_.minute, I c.zone.off.month, I c.zone.off.week, I c.zone.off.weekday, I c.zone.off.minute, I c.sun.s0, I c.sun.s1, I c.sun.s2, I c.sun.s3, I c.sun.s4, I c.sun.s5, I c.sun.s6, I c.sun.s7, I c.sun.s8, I c.sun.s9, I c.sun.s10, I c.sun.s11, .bool c.abroad, .slice l.wa l.wn l.wc] 33)) 101 #[.func (.func 43) #[] #[], .func (.func 44) #[] #[], .func (.func 45) #[] #[], .func (.func 46) #[] #[], .func (.func 48) #[] #[], .func (.func 50) #[] #[]] (w.heap.size + 1) (by simp)
  clear hIn
  go_enter Try.func24, Try.ntmps24
  go_wp2
  go_step3
  go_wp2
  go_step3
  go_wp2
  refine wp_loop_rounds 7 ?_
  rw [rounds_succ]
  have hr0 := hR0.cell 0
  go_wp2_with (refine wpList_load_blk (hB0.alloc _) rfl 33 _ rfl rfl _ Try.underlying33 rfl (by kernel_rfl) ?_)
  refine (config_size c l _).mono ?_
  rintro e w1 ⟨rfl, hb1⟩
  have hT1 := behind hT0 (behind (below1 _ _) hb1)
  have hI1 := Lib.hid ((hI0.out.alloc _).below hb1)
  have hB1 := (hB0.alloc _).belowAll hb1
  have hR1 := (hR0.alloc _).belowAll hb1
  clear hr0
  cases hs : c.sizeB
  · go_wp2
    try rw [Exit.noGoto_ret]
    go_ret
    exact ⟨by rw [HV.out, hs]; rfl, hT1⟩
  go_wp2
  rw [rounds_succ]
  have hr1 := hR1.cell 1
  go_wp2_with (refine wpList_load_blk (hB1.alloc _) rfl 33 _ rfl rfl _ Try.underlying33 rfl (by kernel_rfl) ?_)
  refine (config_stops c l _ (hI1.out.alloc _)).mono ?_
  rintro e w2 ⟨rfl, hb2⟩
  have hT2 := behind hT1 (behind (below1 _ _) hb2)
  have hI2 := Lib.hid ((hI1.out.alloc _).below hb2)
  have hB2 := (hB1.alloc _).belowAll hb2
  have hR2 := (hR1.alloc _).belowAll hb2
  clear hr1
  cases ht : c.stopsB
  · go_wp2
    try rw [Exit.noGoto_ret]
    go_ret
    exact ⟨by rw [HV.out, hs, ht]; rfl, hT2⟩
  go_wp2
  rw [rounds_succ]
  have hr2 := hR2.cell 2
  go_wp2_with (refine wpList_load_blk (hB2.alloc _) rfl 33 _ rfl rfl _ Try.underlying33 rfl (by kernel_rfl) ?_)
  refine (config_times c l _).mono ?_
  rintro e w3 ⟨rfl, hb3⟩
  have hT3 := behind hT2 (behind (below1 _ _) hb3)
  have hI3 := Lib.hid ((hI2.out.alloc _).below hb3)
  have hB3 := (hB2.alloc _).belowAll hb3
  have hR3 := (hR2.alloc _).belowAll hb3
  clear hr2
  cases hu : c.timesB
  · go_wp2
    try rw [Exit.noGoto_ret]
    go_ret
    exact ⟨by rw [HV.out, hs, ht, hu]; rfl, hT3⟩
  go_wp2
  rw [rounds_succ]
  have hr3 := hR3.cell 3
  go_wp2_with (refine wpList_load_blk (hB3.alloc _) rfl 33 _ rfl rfl _ Try.underlying33 rfl (by kernel_rfl) ?_)
  refine (config_Check_zone c l _).mono ?_
  rintro e w4 ⟨rfl, hb4⟩
  have hT4 := behind hT3 (behind (below1 _ _) hb4)
  have hI4 := Lib.hid ((hI3.out.alloc _).below hb4)
  have hB4 := (hB3.alloc _).belowAll hb4
  have hR4 := (hR3.alloc _).belowAll hb4
  clear hr3
  by_cases hz : c.zone.check = 0
  rotate_left
  · have hz' : (c.zone.check != 0) = true := by simpa using hz
    have hz'' : (c.zone.check == 0) = false := by simpa using hz
    go_wp2
    try rw [Exit.noGoto_ret]
    go_ret
    exact ⟨by rw [HV.out, hs, ht, hu, hz']; rfl, hT4⟩
  have hz' : (c.zone.check != 0) = false := by rw [hz]; rfl
  rw [hz]
  go_wp2
  rw [rounds_succ]
  have hr4 := hR4.cell 4
  go_wp2_with (refine wpList_load_blk (hB4.alloc _) rfl 33 _ rfl rfl _ Try.underlying33 rfl (by kernel_rfl) ?_)
  refine (config_Check_sun c l _).mono ?_
  rintro e w5 ⟨rfl, hb5⟩
  have hT5 := behind hT4 (behind (below1 _ _) hb5)
  have hI5 := Lib.hid ((hI4.out.alloc _).below hb5)
  have hB5 := (hB4.alloc _).belowAll hb5
  have hR5 := (hR4.alloc _).belowAll hb5
  clear hr4
  by_cases hn : c.sun.check = 0
  rotate_left
  · have hn' : (c.sun.check != 0) = true := by simpa using hn
    have hn'' : (c.sun.check == 0) = false := by simpa using hn
    go_wp2
    try rw [Exit.noGoto_ret]
    go_ret
    exact ⟨by rw [HV.out, hs, ht, hu, hz', hn']; rfl, hT5⟩
  have hn' : (c.sun.check != 0) = false := by rw [hn]; rfl
  rw [hn]
  go_wp2
  rw [rounds_succ]
  have hr5 := hR5.cell 5
  go_wp2_with (refine wpList_load_blk (hB5.alloc _) rfl 33 _ rfl rfl _ Try.underlying33 rfl (by kernel_rfl) ?_)
  refine (config_windows c l _ (hI5.out.alloc _)).mono ?_
  rintro e w6 ⟨rfl, hb6⟩
  have hT6 := behind hT5 (behind (below1 _ _) hb6)
  have hI6 := Lib.hid ((hI5.out.alloc _).below hb6)
  have hB6 := (hB5.alloc _).belowAll hb6
  have hR6 := (hR5.alloc _).belowAll hb6
  clear hr5
  by_cases hw : c.windowsE = 0
  rotate_left
  · have hw' : (c.windowsE != 0) = true := by simpa using hw
    have hw'' : (c.windowsE == 0) = false := by simpa using hw
    go_wp2
    try rw [Exit.noGoto_ret]
    go_ret
    exact ⟨by rw [HV.out, hs, ht, hu, hz', hn']; rfl, hT6⟩
  have HW := Lib.hid hw
  rw [hw]
  go_wp2
  rw [rounds_succ]
  go_wp2
  try rw [Exit.noGoto_ret]
  go_ret
  exact ⟨by rw [HV.out, hs, ht, hu, hz', hn', HW.out]; rfl, hT6⟩
end Nw
end Go.Proofs.Ytkipbgjaeapkkaa
