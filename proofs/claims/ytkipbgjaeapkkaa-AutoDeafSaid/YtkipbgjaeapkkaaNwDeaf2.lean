/- What newellaw23.AutoDeaf does: it returns true, whatever it is handed. -/
import Derived.Test.YtkipbgjaeapkkaaNwDeaf
set_option linter.unusedSimpArgs false
set_option linter.unusedVariables false
namespace Go.Proofs.Ytkipbgjaeapkkaa
open Go.RowKit
attribute [local go_sem ↓] Nw.ld_rule Nw.eq_rule Nw.ld_exec
namespace Nw

set_option maxRecDepth 100000 in
set_option maxHeartbeats 4000000 in
theorem deaf_awake (a : Au) (l : Cl) (t : To) (w : World) (h : l.few = false ∨ (a.mode == 4) = true ∨ (a.mode == 5) = true) :
    Calls Try.prog 4 #[a.v l, t.v] w fun e w' => e = .returned (.bool true) ∧ Below w.heap.size w w' := by
  have HA := Lib.hid ((Blk.new w 60 (auC a l)).alloc (.cells (toC t) 62))
  have HT : Hid (Below w.heap.size w ((w.alloc (.cells (auC a l) 60)).alloc (.cells (toC t) 62))) := below2 _ _ _
  obtain ⟨hl1, hl2⟩ := ld_au_cf HA.out
  cases hf : l.few
  · have HF := Lib.hid hf
    clear h hf
    go_enter Try.func4, Try.ntmps4
    go_wp2_with fail
    refine (ref10_Few a.c l _).mono ?_
    rw [HF.out]
    rintro e w1 ⟨rfl, hb1⟩
    have hT1 := HT.out.trans (hb1.mono HT.out.size)
    clear hl1 hl2 hb1
    go_wp2_with fail
    refine (law23_awake _).mono ?_
    rintro e w2 ⟨rfl, hb2⟩
    go_wp2
    go_ret
    exact ⟨rfl, behind hT1 hb2⟩
  · have HF := Lib.hid hf
    rw [hf] at h
    clear hf
    cases h4 : (a.mode == 4)
    · cases h5 : (a.mode == 5)
      · rw [h4, h5] at h; simp at h
      · clear h
        go_enter Try.func4, Try.ntmps4
        go_wp2_with fail
        refine (ref10_Few a.c l _).mono ?_
        rw [HF.out]
        rintro e w1 ⟨rfl, hb1⟩
        have hA1 := HA.out.belowAll hb1
        have hc1 := (au_cells hA1).1
        have hT1 := HT.out.trans (hb1.mono HT.out.size)
        clear hl1 hl2 hb1
        go_wp2_with fail
        refine (law23_awake _).mono ?_
        rintro e w2 ⟨rfl, hb2⟩
        go_wp2
        go_ret
        exact ⟨rfl, behind hT1 hb2⟩
    · clear h
      go_enter Try.func4, Try.ntmps4
      go_wp2_with fail
      refine (ref10_Few a.c l _).mono ?_
      rw [HF.out]
      rintro e w1 ⟨rfl, hb1⟩
      have hA1 := HA.out.belowAll hb1
      have hc1 := (au_cells hA1).1
      have hT1 := HT.out.trans (hb1.mono HT.out.size)
      clear hl1 hl2 hb1
      go_wp2_with fail
      refine (law23_awake _).mono ?_
      rintro e w2 ⟨rfl, hb2⟩
      go_wp2
      go_ret
      exact ⟨rfl, behind hT1 hb2⟩

theorem law23_AutoDeaf (a : Au) (l : Cl) (t : To) (w : World) (hs : RdI w l.sa l.sn a.c.stops) (hw : RdW w l.wa l.wn a.c.windows) (hna : l.sa = none → l.sn = 0 ∧ l.sc = 0) (hnb : l.wa = none → l.wn = 0 ∧ l.wc = 0) :
    Calls Try.prog 4 #[a.v l, t.v] w fun e w' => e = .returned (.bool true) ∧ Below w.heap.size w w' := by
  cases hf : l.few
  · exact deaf_awake a l t w (.inl hf)
  · cases h4 : (a.mode == 4)
    · cases h5 : (a.mode == 5)
      · have hf' := hf
        unfold Cl.few at hf'
        simp only [Bool.and_eq_true, decide_eq_true_eq] at hf'
        exact deaf_steps a l t w ⟨by omega, by omega, hs, hw⟩ hna hnb hf h4 h5
      · exact deaf_awake a l t w (.inr (.inr h5))
    · exact deaf_awake a l t w (.inr (.inl h4))
end Nw
end Go.Proofs.Ytkipbgjaeapkkaa
