/- What auto.told, auto.InStep do: contracts. -/
import Derived.Test.YtkipbgjaeapkkaaNwTick3
set_option linter.unusedSimpArgs false
set_option linter.unusedVariables false
namespace Go.Proofs.Ytkipbgjaeapkkaa
open Go.RowKit
attribute [local go_sem ↓] Nw.ld_rule Nw.eq_rule
namespace Nw

theorem ld_au {W : World} {g : Nat} {a : Au} {l : Cl} (h : Blk W g 60 (auC a l)) : Ld Try.prog W 60 (.pointer (some ⟨g, 0, none⟩)) ∧ ldV Try.prog W 60 (.pointer (some ⟨g, 0, none⟩)) = a.v l :=
  Ld.of_part h 60 0 _ (auC a l).toList (hl_take (n := 47) rfl) Try.underlying60 rfl (by kernel_rfl)
theorem ld_mv {W : World} {g : Nat} {m : Mv} {ll : Ll} (h : Blk W g 84 (mvC m ll)) : Ld Try.prog W 84 (.pointer (some ⟨g, 0, none⟩)) ∧ ldV Try.prog W 84 (.pointer (some ⟨g, 0, none⟩)) = m.v ll :=
  Ld.of_part h 84 0 _ (mvC m ll).toList (hl_take (n := 14) rfl) Try.underlying84 rfl (by kernel_rfl)

theorem told_not {a : Au} {m : Mv} {key : Bool} (h : a.is m = false) : a.told m key = bif decide (a.car.floor < m.home) then 1 else bif decide (m.home < a.car.floor) then 2 else 0 := by unfold Au.told; rw [h]; rfl
theorem told_none {a : Au} {m : Mv} {key : Bool} (h : a.is m = true) (hs : m.p.stops = []) : a.told m key = bif key && a.mode == 4 then 3 else 0 := by unfold Au.told; rw [h, hs]; rfl
theorem told_plan {a : Au} {m : Mv} {key : Bool} (h : a.is m = true) (hs : m.p.stops.length ≠ 0) : a.told m key = m.p.cmd m.g (a.phase m) := by unfold Au.told; rw [h, show (m.p.stops.length == 0) = false from beq_eq_false_iff_ne.2 hs]; rfl

set_option maxRecDepth 100000 in
set_option maxHeartbeats 4000000 in
theorem auto_told (a : Au) (l : Cl) (m : Mv) (ll : Ll) (key : Bool) (w : World) (hc : a.c.check = 0) (hIn : m.p.In ll w) (hm : m.p.stops = [] ∨ (m.g.ok = true ∧ m.p.Ok m.g.floors)) :
    Calls Try.prog 41 #[a.v l, m.v ll, .bool key] w fun e w' => e = .returned (I (a.told m key)) ∧ Below w.heap.size w w' := by
  have hcase : (∃ V, a.is m = false ∧ a.told m key = V ∧ V = bif decide (a.car.floor < m.home) then 1 else bif decide (m.home < a.car.floor) then 2 else 0) ∨ (a.is m = true ∧ ll.n = 0 ∧ a.told m key = bif key && a.mode == 4 then 3 else 0) ∨ (a.is m = true ∧ 0 < ll.n ∧ m.g.ok = true ∧ m.p.Ok m.g.floors ∧ a.told m key = m.p.cmd m.g (a.phase m)) := by
    cases h : a.is m
    · exact .inl ⟨_, rfl, rfl, told_not h⟩
    · rcases hm with hs | ⟨hg, hp⟩
      · exact .inr (.inl ⟨rfl, by rw [← hIn.s.1, hs]; rfl, told_none h hs⟩)
      · have := hp.len
        exact .inr (.inr ⟨rfl, by rw [← hIn.s.1]; omega, hg, hp, told_plan h (by omega)⟩)
  have HIn := Lib.hid hIn; have HMv := Lib.hid hm; have HC := Lib.hid hc
  clear hIn hm hc
  have hB := (Blk.new w 60 (auC a l)).alloc (.cells (mvC m ll) 84)
  have HB := Lib.hid hB; clear hB
  have HT : Hid (Below w.heap.size w ((w.alloc (.cells (auC a l) 60)).alloc (.cells (mvC m ll) 84))) := below2 _ _ _
  have HBM : Hid (Blk ((w.alloc (.cells (auC a l) 60)).alloc (.cells (mvC m ll) 84)) (w.heap.size + 1) 84 (mvC m ll)) := Blk.new_ _ _ _ _ (by simp)
  obtain ⟨hl1, hl2⟩ := ld_au HB.out
  obtain ⟨hl3, hl4⟩ := ld_mv HBM.out
  have hT1 : ∀ w1, Below ((w.alloc (.cells (auC a l) 60)).alloc (.cells (mvC m ll) 84)).heap.size ((w.alloc (.cells (auC a l) 60)).alloc (.cells (mvC m ll) 84)) w1 →
      w1.cell? ⟨w.heap.size, 37, none⟩ = some (I a.mode) ∧ w1.cell? ⟨w.heap.size, 40, none⟩ = some (I a.car.floor) ∧ w1.cell? ⟨w.heap.size + 1, 0, none⟩ = some (.slice ll.a ll.n ll.c) ∧ w1.cell? ⟨w.heap.size + 1, 13, none⟩ = some (I m.home) ∧ Below w.heap.size w w1 := fun w1 hb =>
    ⟨(HB.out.belowAll hb).cell 37, (HB.out.belowAll hb).cell 40, (HBM.out.belowAll hb).cell 0, (HBM.out.belowAll hb).cell 13, HT.out.trans (hb.mono HT.out.size)⟩
  have HT1 := Lib.hid hT1; clear hT1
  rcases hcase with ⟨V, hi, hV, hV2⟩ | ⟨hi, hn, hV⟩ | ⟨hi, hn, hg, hp, hV⟩
  · rw [hV]
    clear hV
    have HV := Lib.hid hV2; clear hV2
    have HI := Lib.hid hi; clear hi
    cases hf1 : decide (a.car.floor < m.home)
    · cases hf2 : decide (m.home < a.car.floor)
      all_goals
        go_enter Try.func41, Try.ntmps41
        go_wp2_with fail
        refine (auto_tick a l m ll _ HC.out (HIn.out.below HT.out) HMv.out).mono ?_
        rw [HI.out]
        rintro e w1 ⟨rfl, hb1⟩
        obtain ⟨hc1, hc2, hc3, hc4, hb⟩ := HT1.out w1 hb1
        clear hl1 hl2 hl3 hl4 hb1
        go_wp2
        go_ret
        exact ⟨by rw [HV.out, hf1, hf2]; rfl, hb⟩
    · go_enter Try.func41, Try.ntmps41
      go_wp2_with fail
      refine (auto_tick a l m ll _ HC.out (HIn.out.below HT.out) HMv.out).mono ?_
      rw [HI.out]
      rintro e w1 ⟨rfl, hb1⟩
      obtain ⟨hc1, hc2, hc3, hc4, hb⟩ := HT1.out w1 hb1
      clear hl1 hl2 hl3 hl4 hb1
      go_wp2
      go_ret
      exact ⟨by rw [HV.out, hf1]; rfl, hb⟩
  · rw [hV]
    clear hV
    have HI := Lib.hid hi; clear hi
    have HN := Lib.hid hn; clear hn
    cases key <;> cases hmo : (a.mode == 4)
    all_goals
      go_enter Try.func41, Try.ntmps41
      go_wp2_with fail
      refine (auto_tick a l m ll _ HC.out (HIn.out.below HT.out) HMv.out).mono ?_
      rw [HI.out]
      rintro e w1 ⟨rfl, hb1⟩
      obtain ⟨hc1, hc2, hc3, hc4, hb⟩ := HT1.out w1 hb1
      rw [HN.out] at hc3
      clear hl1 hl2 hl3 hl4 hb1
      go_wp2
      go_ret
      exact ⟨rfl, hb⟩
  · rw [hV]
    clear hV
    have HI := Lib.hid hi; clear hi
    have Hg := Lib.hid hg; have Hp := Lib.hid hp; clear hg hp
    have hd : decide (0 < ll.n) = true := by simpa using hn
    generalize hph : a.phase m = ph
    have HP := Lib.hid hph; clear hph
    generalize hcm : m.p.cmd m.g ph = cm
    have HCM := Lib.hid hcm; clear hcm
    go_enter Try.func41, Try.ntmps41
    go_wp2_with fail
    refine (auto_tick a l m ll _ HC.out (HIn.out.below HT.out) HMv.out).mono ?_
    rw [HI.out, HP.out]
    rintro e w1 ⟨rfl, hb1⟩
    obtain ⟨hc1, hc2, hc3, hc4, hb⟩ := HT1.out w1 hb1
    have hm1 := HBM.out.belowAll hb1
    obtain ⟨hl5, hl6⟩ := ld_mv_ge hm1
    obtain ⟨hl7, hl8⟩ := ld_mv_pl hm1
    clear hl1 hl2 hl3 hl4 hb1
    go_wp2_with fail
    refine (cycle_Cmd2 m.g m.p ll ph _ (HIn.out.below hb) Hg.out Hp.out).mono ?_
    rw [HCM.out]
    rintro e w2 ⟨rfl, hb2⟩
    go_wp2
    go_ret
    exact ⟨rfl, behind hb hb2⟩
end Nw
end Go.Proofs.Ytkipbgjaeapkkaa
