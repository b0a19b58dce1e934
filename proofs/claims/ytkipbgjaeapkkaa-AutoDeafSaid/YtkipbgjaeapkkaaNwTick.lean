/- What auto.check does: a contract. -/
import Derived.Test.YtkipbgjaeapkkaaNwHome
set_option linter.unusedSimpArgs false
set_option linter.unusedVariables false
namespace Go.Proofs.Ytkipbgjaeapkkaa
open Go.RowKit
namespace Nw

abbrev crC (c : Cr) : Array Value := #[I c.floor, I c.dir, I c.phase, I c.left, I c.door.phase, I c.door.left, I c.door.held]
/-- the cells of a car that goes by itself -/
abbrev auC (a : Au) (l : Cl) : Array Value := #[I a.c.floors, I a.c.cars, I a.c.park, .slice l.sa l.sn l.sc, I a.c.times.travel, I a.c.times.level, I a.c.times.opn, I a.c.times.dwell, I a.c.times.lead, I a.c.times.close, I a.c.times.hold, I a.c.rest, I a.c.pater,
  I a.c.zone.base, I a.c.zone.shift, I a.c.zone.on_.month, I a.c.zone.on_.week, I a.c.zone.on_.weekday, I a.c.zone.on_.minute, I a.c.zone.off.month, I a.c.zone.off.week, I a.c.zone.off.weekday, I a.c.zone.off.minute,
  I a.c.sun.s0, I a.c.sun.s1, I a.c.sun.s2, I a.c.sun.s3, I a.c.sun.s4, I a.c.sun.s5, I a.c.sun.s6, I a.c.sun.s7, I a.c.sun.s8, I a.c.sun.s9, I a.c.sun.s10, I a.c.sun.s11, .bool a.c.abroad, .slice l.wa l.wn l.wc,
  I a.mode, I a.nth, I a.age, I a.car.floor, I a.car.dir, I a.car.phase, I a.car.left, I a.car.door.phase, I a.car.door.left, I a.car.door.held]
abbrev Au.v (a : Au) (l : Cl) : Value := .agg (auC a l)
theorem hl_take {cs : Array Value} {off n : Nat} {l : List Value} (h : l = (cs.toList.drop off).take n) : ∀ j v, l[j]? = some v → cs[off + j]? = some v := by
  subst h
  intro j v hj
  rw [List.getElem?_take] at hj
  split at hj
  · rw [List.getElem?_drop] at hj
    simpa using hj
  · cases hj
theorem au_cf (a : Au) (l : Cl) : ∀ j v, (cfC a.c l).toList[j]? = some v → (auC a l)[0 + j]? = some v := hl_take (n := 37) rfl
theorem au_cr (a : Au) (l : Cl) : ∀ j v, (crC a.car).toList[j]? = some v → (auC a l)[40 + j]? = some v := hl_take (n := 7) rfl

set_option maxRecDepth 100000 in
set_option maxHeartbeats 2000000 in
theorem auto_check_home (a : Au) (l : Cl) (w : World) (hIn : a.c.In l w) (hH : ∀ W, Below w.heap.size w W → Calls Try.prog 14 #[a.c.v l, I a.mode, I a.nth] W (RetH a.c a.mode a.nth W)) (hE : (a.c.homeE a.mode a.nth != 0) = true) :
    Calls Try.prog 39 #[a.v l] w fun e w' => e = .returned (I a.check) ∧ Below w.heap.size w w' := by
  have HV : Hid (a.check = a.c.homeE a.mode a.nth) := by unfold Hid Au.check; rw [hE]; rfl
  generalize a.check = V at HV ⊢
  have HH := Lib.hid hH; clear hH
  have hB := Blk.new w 60 (auC a l)
  have HB := Lib.hid hB; clear hB
  have HIn := Lib.hid hIn; clear hIn
  generalize hEE : a.c.homeE a.mode a.nth = E at HV hE
  have HEE := Lib.hid hEE; clear hEE
  go_enter Try.func39, Try.ntmps39
  go_wp2_with (refine wpList_load_part HB.out rfl 33 _ rfl 0 rfl _ (cfC a.c l).toList (au_cf a l) Try.underlying33 rfl (by kernel_rfl) ?_)
  refine (HH.out _ (below1 _ _)).mono ?_
  rintro e w1 ⟨home, p, ⟨pa, pn, pc⟩, rfl, -, -, -, hb1⟩
  rw [HEE.out]
  have hT1 := behind1 hb1
  clear hb1
  go_wp2
  go_ret
  exact ⟨by rw [HV.out]; rfl, hT1.alloc hT1.size _⟩

set_option maxRecDepth 100000 in
set_option maxHeartbeats 2000000 in
theorem auto_check_ok (a : Au) (l : Cl) (w : World) (hIn : a.c.In l w) (hH : ∀ W, Below w.heap.size w W → Calls Try.prog 14 #[a.c.v l, I a.mode, I a.nth] W (RetH a.c a.mode a.nth W)) (hE : a.c.homeE a.mode a.nth = 0) :
    Calls Try.prog 39 #[a.v l] w fun e w' => e = .returned (I a.check) ∧ Below w.heap.size w w' := by
  have HV : Hid (a.check = bif decide (a.age < 0) || !a.car.may a.c.floors then 230 else 0) := by unfold Hid Au.check; rw [hE]; rfl
  generalize a.check = V at HV ⊢
  have HH := Lib.hid hH; clear hH
  have hB := Blk.new w 60 (auC a l)
  have HB := Lib.hid hB; clear hB
  have HIn := Lib.hid hIn; clear hIn
  have HEE := Lib.hid hE; clear hE
  cases hage : decide (a.age < 0)
  · rw [hage] at HV
    cases hmay : a.car.may a.c.floors
    all_goals
      have HM := Lib.hid hmay
      go_enter Try.func39, Try.ntmps39
      go_wp2_with (refine wpList_load_part HB.out rfl 33 _ rfl 0 rfl _ (cfC a.c l).toList (au_cf a l) Try.underlying33 rfl (by kernel_rfl) ?_)
      refine (HH.out _ (below1 _ _)).mono ?_
      rintro e w1 ⟨home, p, ⟨pa, pn, pc⟩, rfl, -, -, -, hb1⟩
      rw [HEE.out]
      have hA1 := HB.out.belowAll hb1
      have hcA := hA1.cell
      have hz1 := hA1.lt
      have hT1 := behind1 hb1
      clear hb1
      have hT2 := hT1.alloc hT1.size (.cells #[.slice pa pn pc, I p.cars, I p.car] 45)
      go_wp2_with fail
      refine (car_Check a.c.floors a.car _).mono ?_
      rintro e w2 ⟨rfl, hb2⟩
      rw [HM.out]
      go_wp2
      go_ret
      exact ⟨by rw [HV.out, HM.out]; rfl, behind hT2 hb2⟩
  · go_enter Try.func39, Try.ntmps39
    go_wp2_with (refine wpList_load_part HB.out rfl 33 _ rfl 0 rfl _ (cfC a.c l).toList (au_cf a l) Try.underlying33 rfl (by kernel_rfl) ?_)
    refine (HH.out _ (below1 _ _)).mono ?_
    rintro e w1 ⟨home, p, ⟨pa, pn, pc⟩, rfl, -, -, -, hb1⟩
    rw [HEE.out]
    have hA1 := HB.out.belowAll hb1
    have hcA := hA1.cell
    have hz1 := hA1.lt
    have hT1 := behind1 hb1
    clear hb1
    go_wp2
    go_ret
    exact ⟨by rw [HV.out, hage]; rfl, hT1.alloc hT1.size _⟩

theorem auto_Home (c : Cf) (l : Cl) (mode nth : Int) (w : World) (hIn : c.In l w) : Calls Try.prog 14 #[c.v l, I mode, I nth] w (RetH c mode nth w) := by
  cases h : (c.homeE mode nth != 0)
  · have hE : c.homeE mode nth = 0 := by simpa using h
    unfold Cf.homeE at hE
    cases hk : (c.check != 0)
    · rw [hk] at hE
      have hc : c.check = 0 := by simpa using hk
      cases hm : within mode 1 5
      · rw [hm] at hE; cases hE
      · rw [hm] at hE
        have hm' := within_iff.1 hm
        cases hn : (decide (nth < 0) || decide (c.cars ≤ nth))
        · simp only [Bool.or_eq_false_iff, decide_eq_false_iff_not] at hn
          exact auto_Home_ok c l mode nth w hIn hc hm'.1 hm'.2 (by omega) (by omega)
        · rw [hn] at hE; cases hE
    · rw [hk, cond_true] at hE
      rw [hE] at hk
      cases hk
  · exact auto_Home_bad c l mode nth w hIn h
theorem auto_check (a : Au) (l : Cl) (w : World) (hIn : a.c.In l w) : Calls Try.prog 39 #[a.v l] w fun e w' => e = .returned (I a.check) ∧ Below w.heap.size w w' := by
  have hH : ∀ W, Below w.heap.size w W → Calls Try.prog 14 #[a.c.v l, I a.mode, I a.nth] W (RetH a.c a.mode a.nth W) := fun W hb => auto_Home a.c l a.mode a.nth W (hIn.below hb)
  cases h : (a.c.homeE a.mode a.nth != 0)
  · exact auto_check_ok a l w hIn hH (by simpa using h)
  · exact auto_check_home a l w hIn hH h

end Nw
end Go.Proofs.Ytkipbgjaeapkkaa
