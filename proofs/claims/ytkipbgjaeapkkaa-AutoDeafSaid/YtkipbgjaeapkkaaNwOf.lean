/- What auto.of does: a contract. -/
import Derived.Test.YtkipbgjaeapkkaaNwPlan
import Derived.Test.YtkipbgjaeapkkaaNwFirst
set_option linter.unusedSimpArgs false
set_option linter.unusedVariables false
namespace Go.Proofs.Ytkipbgjaeapkkaa
open Go.RowKit
namespace Nw

/-- the cells of what moves a car -/
abbrev mvC (m : Mv) (l : Ll) : Array Value := #[.slice l.a l.n l.c, I m.p.cars, I m.p.car, I m.g.floors, I m.g.times.travel, I m.g.times.level, I m.g.times.opn, I m.g.times.dwell, I m.g.times.lead, I m.g.times.close, I m.g.times.hold, I m.g.dwell, I m.g.most, I m.home]
abbrev Mv.v (m : Mv) (l : Ll) : Value := .agg #[.slice l.a l.n l.c, I m.p.cars, I m.p.car, I m.g.floors, I m.g.times.travel, I m.g.times.level, I m.g.times.opn, I m.g.times.dwell, I m.g.times.lead, I m.g.times.close, I m.g.times.hold, I m.g.dwell, I m.g.most, I m.home]
abbrev mvZ : Array Value := #[.slice none 0 0, I 0, I 0, I 0, I 0, I 0, I 0, I 0, I 0, I 0, I 0, I 0, I 0, I 0]
/-- what moves a car handed back, its plan's list in new memory -/
def RetM (m : Mv) (w : World) (e : Ending) (w' : World) : Prop :=
  ∃ ll : Ll, e = .returned (m.v ll) ∧ m.p.In ll w' ∧ (∀ x, ll.a = some x → w.heap.size ≤ x.block) ∧ Below w.heap.size w w'

set_option maxRecDepth 100000 in
set_option maxHeartbeats 4000000 in
theorem auto_of_none (c : Cf) (l : Cl) (mode nth : Int) (w : World) (hIn : c.In l w) (hc : c.check = 0) (hm : within mode 0 5 = true) (hp : planned mode = false) :
    Calls Try.prog 30 #[c.v l, I mode, I nth] w (RetM (c.moves mode nth) w) := by
  have hpl : c.plan mode nth = ⟨[], 0, 0⟩ := by
    unfold planned at hp
    unfold Cf.plan
    cases h1 : (mode == 1)
    · rw [h1, Bool.false_or] at hp; rw [hp]; rfl
    · rw [h1] at hp; cases hp
  have HV : Hid (c.moves mode nth = ⟨⟨[], 0, 0⟩, c.gear mode, c.park⟩) := by unfold Hid Cf.moves Cf.home; rw [hp, hpl]; rfl
  rw [HV.out]
  have HPL := Lib.hid hpl; have HIn := Lib.hid hIn; have HC := Lib.hid hc; have HM := Lib.hid hm
  clear hpl hIn hc hm hp
  have hC0 := ((Blk.new w 33 (cfC c l)).alloc (.cells mvZ 84)).alloc (.cells #[.slice none 0 0, I 0, I 0, I 0, I 0, I 0, I 0, I 0, I 0, I 0, I 0, I 0, I 0, I c.park] 84)
  have HC0 := Lib.hid hC0; clear hC0
  generalize hG : c.gear mode = G at HV ⊢
  have HG := Lib.hid hG; clear hG
  go_enter Try.func30, Try.ntmps30
  go_wp2_with (refine wpList_load_blk HC0.out rfl 33 _ rfl rfl _ Try.underlying33 rfl (by kernel_rfl) ?_)
  refine (auto_plan c l mode nth _ (HIn.out.below (below3 _ _ _ _)) HC.out).mono ?_
  rintro e w1 ⟨⟨pa, pn, pc⟩, rfl, hpi, hpa, hb1⟩
  rw [HPL.out] at hpi ⊢
  obtain ⟨-, hpi⟩ := hpi
  obtain rfl : pn = 0 := hpi.1.symm
  clear hpi
  have hC1 := HC0.out.belowAll hb1
  have hR1 : Blk w1 (w.heap.size + 1) 84 mvZ := ((Blk.new_ _ _ _ _ (by simp)).alloc _).belowAll hb1
  have hM1 : Blk w1 (w.heap.size + 1 + 1) 84 #[.slice none 0 0, I 0, I 0, I 0, I 0, I 0, I 0, I 0, I 0, I 0, I 0, I 0, I 0, I c.park] := (Blk.new_ _ _ _ _ (by simp)).belowAll hb1
  have hT1 := behind (below3 _ _ _ _) hb1
  have hcM := hM1.cell; have hfM := hM1.frozen
  have hne1 : w.heap.size ≠ w.heap.size + 1 + 1 := by omega
  have hne2 : w.heap.size + 1 ≠ w.heap.size + 1 + 1 := by omega
  clear hb1
  have hC2 := Blk.far_ (o := 2) hne1 (Blk.far_ (o := 1) hne1 (Blk.far_ (o := 0) hne1 hC1 (.slice pa 0 pc)) (I 0)) (I 0)
  have hT2 : Below w.heap.size w (((w1.setCell ⟨w.heap.size + 1 + 1, 0, none⟩ (.slice pa 0 pc)).setCell ⟨w.heap.size + 1 + 1, 1, none⟩ (I 0)).setCell ⟨w.heap.size + 1 + 1, 2, none⟩ (I 0)) := ((hT1.setCell (by dsimp only; omega) _).setCell (by dsimp only; omega) _).setCell (by dsimp only; omega) _
  have hR2 := Blk.far_ (o := 2) hne2 (Blk.far_ (o := 1) hne2 (Blk.far_ (o := 0) hne2 hR1 (.slice pa 0 pc)) (I 0)) (I 0)
  have hM2 := (((hM1.set_ 0 (.slice pa 0 pc)).set_ 1 (I 0)).set_ 2 (I 0)).conv (cs' := #[.slice pa 0 pc, I 0, I 0, I 0, I 0, I 0, I 0, I 0, I 0, I 0, I 0, I 0, I 0, I c.park]) (by simp)
  go_wp2_with (refine wpList_load_blk hC2 rfl 33 _ rfl rfl _ Try.underlying33 rfl (by kernel_rfl) ?_)
  refine (auto_Gear_ok c l mode _ (HIn.out.below hT2) HC.out HM.out).mono ?_
  rw [HG.out]
  rintro e w2 ⟨rfl, hb2⟩
  have hR3 := hR2.belowAll hb2
  have hM3 := hM2.belowAll hb2
  have hT3 := behind hT2 hb2
  clear hcM hfM hC2 hR2 hM2 hT2 hC1 hM1 hR1 hT1 hb2
  have hcM := hM3.cell; have hfM := hM3.frozen; have hcR := hR3.cell; have hfR := hR3.frozen
  go_wp2
  exact bodyPost_ret (results_c rfl _ _ 84 rfl (c1 := #[.slice pa 0 pc, I 0, I 0, I G.floors, I G.times.travel, I G.times.level, I G.times.opn, I G.times.dwell, I G.times.lead, I G.times.close, I G.times.hold, I G.dwell, I G.most, I c.park]) (by apply Blk.conv; (case h => repeat (first | with_reducible exact hR3 | with_reducible apply Blk.set_ | with_reducible apply Blk.far_ hne2)); (case e => simp)) Try.underlying84 rfl (by kernel_rfl)) rfl ⟨⟨pa, 0, pc⟩, rfl, ⟨by simp, RdI.nil _ _⟩, fun x e => (by have := hpa x e; simp at this; omega), by repeat (first | with_reducible exact hT3 | with_reducible refine Below.setCell ?_ (by dsimp only; omega) _ | with_reducible refine Below.drew ?_)⟩

set_option maxRecDepth 100000 in
set_option maxHeartbeats 4000000 in
theorem auto_of_plan (c : Cf) (l : Cl) (mode nth : Int) (w : World) (hIn : c.In l w) (hc : c.check = 0) (hm : within mode 0 5 = true) (hp : planned mode = true) (h0 : 0 ≤ nth) (h1 : nth < c.cars) :
    Calls Try.prog 30 #[c.v l, I mode, I nth] w (RetM (c.moves mode nth) w) := by
  have hok := Cf.plan_ok hc hp h0 h1
  have hgok := Cf.gear_ok hc mode
  have HV : Hid (c.moves mode nth = ⟨c.plan mode nth, c.gear mode, (c.plan mode nth).row[((c.plan mode nth).place (c.plan mode nth).car).toNat]?.getD 0⟩) := by
    unfold Hid Cf.moves Cf.home
    rw [hp, cond_true]
    congr 3
    unfold planned at hp
    unfold Cf.plan
    cases h1 : (mode == 1)
    · rw [h1, Bool.false_or] at hp; rw [hp]; rfl
    · rfl
  rw [HV.out]
  have hfl : (c.gear mode).floors = c.floors := rfl
  have HIn := Lib.hid hIn; have HC := Lib.hid hc; have HM := Lib.hid hm
  clear hIn hc hm hp h0 h1
  have hC0 := ((Blk.new w 33 (cfC c l)).alloc (.cells mvZ 84)).alloc (.cells #[.slice none 0 0, I 0, I 0, I 0, I 0, I 0, I 0, I 0, I 0, I 0, I 0, I 0, I 0, I c.park] 84)
  have HC0 := Lib.hid hC0; clear hC0
  generalize hP : c.plan mode nth = P at HV hok ⊢
  generalize hG : c.gear mode = G at HV hgok hfl ⊢
  rw [← hfl] at hok
  generalize hH : P.row[(P.place P.car).toNat]?.getD 0 = hm at HV ⊢
  have HH := Lib.hid hH; clear hH
  have HG := Lib.hid hG; have HP := Lib.hid hP; have HOk := Lib.hid hok; have HGok := Lib.hid hgok
  clear hG hP hok hgok hfl
  go_enter Try.func30, Try.ntmps30
  go_wp2_with (refine wpList_load_blk HC0.out rfl 33 _ rfl rfl _ Try.underlying33 rfl (by kernel_rfl) ?_)
  refine (auto_plan c l mode nth _ (HIn.out.below (below3 _ _ _ _)) HC.out).mono ?_
  rw [HP.out]
  rintro e w1 ⟨⟨pa, pn, pc⟩, rfl, hpi, hpa, hb1⟩
  have hpn : P.stops.length = pn := hpi.s.1
  have h2 := HOk.out.len
  have hd : decide (0 < pn) = true := by simp; omega
  have hpa' : ∀ x, pa = some x → w.heap.size + 1 + 1 + 1 ≤ x.block := fun x e => by have := hpa x e; simp at this; omega
  have hC1 := HC0.out.belowAll hb1
  have hR1 : Blk w1 (w.heap.size + 1) 84 mvZ := ((Blk.new_ _ _ _ _ (by simp)).alloc _).belowAll hb1
  have hM1 : Blk w1 (w.heap.size + 1 + 1) 84 #[.slice none 0 0, I 0, I 0, I 0, I 0, I 0, I 0, I 0, I 0, I 0, I 0, I 0, I 0, I c.park] := (Blk.new_ _ _ _ _ (by simp)).belowAll hb1
  have hT1 := behind (below3 _ _ _ _) hb1
  have hcM := hM1.cell; have hfM := hM1.frozen
  have hne1 : w.heap.size ≠ w.heap.size + 1 + 1 := by omega
  have hne2 : w.heap.size + 1 ≠ w.heap.size + 1 + 1 := by omega
  clear hb1 hpa hpn h2
  have hC2 := Blk.far_ (o := 2) hne1 (Blk.far_ (o := 1) hne1 (Blk.far_ (o := 0) hne1 hC1 (.slice pa pn pc)) (I P.cars)) (I P.car)
  have hT2 : Below w.heap.size w (((w1.setCell ⟨w.heap.size + 1 + 1, 0, none⟩ (.slice pa pn pc)).setCell ⟨w.heap.size + 1 + 1, 1, none⟩ (I P.cars)).setCell ⟨w.heap.size + 1 + 1, 2, none⟩ (I P.car)) := ((hT1.setCell (by dsimp only; omega) _).setCell (by dsimp only; omega) _).setCell (by dsimp only; omega) _
  have hR2 := Blk.far_ (o := 2) hne2 (Blk.far_ (o := 1) hne2 (Blk.far_ (o := 0) hne2 hR1 (.slice pa pn pc)) (I P.cars)) (I P.car)
  have hM2 := (((hM1.set_ 0 (.slice pa pn pc)).set_ 1 (I P.cars)).set_ 2 (I P.car)).conv (cs' := #[.slice pa pn pc, I P.cars, I P.car, I 0, I 0, I 0, I 0, I 0, I 0, I 0, I 0, I 0, I 0, I c.park]) (by simp)
  have hI2 := ((hpi.s.set (o := 0) hpa' (g := w.heap.size + 1 + 1) (by omega) (.slice pa pn pc)).set (o := 1) hpa' (g := w.heap.size + 1 + 1) (by omega) (I P.cars)).set (o := 2) hpa' (g := w.heap.size + 1 + 1) (by omega) (I P.car)
  go_wp2_with (refine wpList_load_blk hC2 rfl 33 _ rfl rfl _ Try.underlying33 rfl (by kernel_rfl) ?_)
  refine (auto_Gear_ok c l mode _ (HIn.out.below hT2) HC.out HM.out).mono ?_
  rw [HG.out]
  rintro e w2 ⟨rfl, hb2⟩
  have hR3 := hR2.belowAll hb2
  have hM3 := hM2.belowAll hb2
  have hI3 := hI2.below hb2
  have hT3 := behind hT2 hb2
  clear hcM hfM hC2 hR2 hM2 hT2 hC1 hM1 hR1 hT1 hb2 hI2
  have hcM := hM3.cell; have hfM := hM3.frozen; have hcR := hR3.cell; have hfR := hR3.frozen
  have hz3 := hM3.lt
  go_wp2_with fail
  refine (cycle_First G P ⟨pa, pn, pc⟩ _ ⟨hpi.n, by repeat (first | with_reducible exact hI3 | (with_reducible refine RdI.set ?_ hpa' (by omega) _))⟩ HGok.out HOk.out).mono ?_
  rw [HH.out]
  rintro e w3 ⟨rfl, hb3⟩
  have hM4 : Blk w3 (w.heap.size + 1 + 1) 84 #[.slice pa pn pc, I P.cars, I P.car, I G.floors, I G.times.travel, I G.times.level, I G.times.opn, I G.times.dwell, I G.times.lead, I G.times.close, I G.times.hold, I G.dwell, I G.most, I c.park] := Blk.belowAll (by apply Blk.conv; (case h => repeat (first | with_reducible exact hM3 | with_reducible apply Blk.set_)); (case e => simp)) hb3
  have hR4 : Blk w3 (w.heap.size + 1) 84 mvZ := Blk.belowAll (by repeat (first | with_reducible exact hR3 | with_reducible apply Blk.far_ hne2)) hb3
  have hI4 : RdI w3 pa pn P.stops := RdI.below (by repeat (first | with_reducible exact hI3 | (with_reducible refine RdI.set ?_ hpa' (by omega) _))) hb3
  have hT4 : Below w.heap.size w w3 := behind (by repeat (first | with_reducible exact hT3 | with_reducible refine Below.setCell ?_ (by dsimp only; omega) _)) hb3
  clear hcM hfM hcR hfR hM3 hR3 hI3 hT3 hb3
  have hcM := hM4.cell; have hfM := hM4.frozen; have hcR := hR4.cell; have hfR := hR4.frozen
  go_wp2
  exact bodyPost_ret (results_c rfl _ _ 84 rfl (c1 := #[.slice pa pn pc, I P.cars, I P.car, I G.floors, I G.times.travel, I G.times.level, I G.times.opn, I G.times.dwell, I G.times.lead, I G.times.close, I G.times.hold, I G.dwell, I G.most, I hm]) (by apply Blk.conv; (case h => repeat (first | with_reducible exact hR4 | with_reducible apply Blk.set_ | with_reducible apply Blk.far_ hne2)); (case e => simp)) Try.underlying84 rfl (by kernel_rfl)) rfl ⟨⟨pa, pn, pc⟩, rfl, ⟨hpi.n, by repeat (first | with_reducible exact hI4 | (with_reducible refine RdI.set ?_ hpa' (by omega) _))⟩, fun x e => (by have := hpa' x e; omega), by repeat (first | with_reducible exact hT4 | with_reducible refine Below.setCell ?_ (by dsimp only; omega) _ | with_reducible refine Below.drew ?_)⟩

theorem auto_of (c : Cf) (l : Cl) (mode nth : Int) (w : World) (hIn : c.In l w) (hc : c.check = 0) (hm : within mode 0 5 = true) (h0 : 0 ≤ nth) (h1 : nth < c.cars) :
    Calls Try.prog 30 #[c.v l, I mode, I nth] w (RetM (c.moves mode nth) w) := by
  cases hp : planned mode
  · exact auto_of_none c l mode nth w hIn hc hm hp
  · exact auto_of_plan c l mode nth w hIn hc hm hp h0 h1
end Nw
end Go.Proofs.Ytkipbgjaeapkkaa
