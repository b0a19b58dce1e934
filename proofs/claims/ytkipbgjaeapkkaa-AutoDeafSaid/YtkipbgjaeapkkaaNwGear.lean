/- What auto.Gear does: a contract. -/
import Derived.Test.YtkipbgjaeapkkaaNwCheck2
import Derived.Test.YtkipbgjaeapkkaaNwAt
import Derived.Maps.OwnSet
import Derived.Carry
set_option linter.unusedSimpArgs false
set_option linter.unusedVariables false
namespace Go.Proofs.Ytkipbgjaeapkkaa
open Go.RowKit Go.Maps
namespace Nw

/-- A store of a map literal's entry. -/
theorem wpList_insert_own {H : Type} {P : Program} (w : World) {ops : Array Oper} {rest : List Oper} {o : Oper} {a : Act} {Q : Exit → Act → World → Prop}
    (hg : o.guard = none) (m x v : Operand) (t : TypeId) (hop : o.op = Op.insert t m x v)
    (k e : TypeId) (K : Keyed P k) (ht : P.underlying t = some (.map k e)) (R : Value → Option (DataW H × List MemPlace)) (b n : Nat) (D : DataW H)
    (hm : a.eval m = .map (some b)) (hown : w.ownsMap P k R b n D) (hn : n < maxLen) (key val : Value) (kl : Lit) (hx : a.eval x = key) (hv : a.eval v = val) (hkey : keyOf P k key = some kl)
    (d : DataW H) (ps : List MemPlace) (hval : R val = some (d, ps))
    (hK : ∀ w', w'.ownsMap P k R b (n + 1) (D.put kl d) → w.grownBy w' (some b) → wpList P ops Q rest (a.put o.dst undef) w') :
    wpList P ops Q (o :: rest) a w := by
  refine wpList_plain hg fun K' hK' => ?_
  obtain ⟨w', hrun, r1, r2⟩ := hown.update K ht hn hkey hval
  unfold Oper.wp
  simp [execOp, hop, hm, hx, hv, hrun, Result.andThen]
  exact hK' _ _ (hK w' r1 r2)

theorem Blk.far_ {w : World} {g : Nat} {t : TypeId} {cs : Array Value} {b o : Nat} (hp : g ≠ b) (h : Blk w g t cs) (u : Value) : Blk (w.setCell ⟨b, o, none⟩ u) g t cs := h.far hp u
theorem lawInt : Keyed Try.prog 3 := int_keyed Try.underlying3
theorem zeroInt (w : World) : (zeroValue 3).run Try.prog w = .ok (I 0) w := by kernel_rfl

/-- the map of the dwells -/
def dwellsD (a b c : Int) : DataW Unit := (((DataW.map []).put (.int .i64 1) (.lit (.int .i64 a))).put (.int .i64 2) (.lit (.int .i64 b))).put (.int .i64 3) (.lit (.int .i64 c))
theorem neI {a b : Int} (h : a ≠ b) : Lit.int .i64 a ≠ Lit.int .i64 b := fun e => h (by injection e)
theorem isKeyI (n : Int) : WideAt.IsKeyLit (.int .i64 n) := by unfold WideAt.IsKeyLit; trivial
theorem isMap_put {D : DataW Unit} (h : IsMap D) (k : Lit) (d : DataW Unit) : IsMap (D.put k d) := by obtain ⟨es, rfl⟩ := h; exact ⟨_, rfl⟩
theorem dwells_1 (a b c : Int) (z : DataW Unit) : (dwellsD a b c).atKey (.int .i64 1) z = .lit (.int .i64 a) ∧ Maps.has (dwellsD a b c) (.int .i64 1) = true := by
  unfold dwellsD
  rw [atKey_put_other (neI (by decide)), atKey_put_other (neI (by decide)), atKey_put_same ⟨_, rfl⟩ (isKeyI 1), has_put_other (neI (by decide)), has_put_other (neI (by decide)), has_put_same ⟨_, rfl⟩ (isKeyI 1)]
  exact ⟨rfl, rfl⟩
theorem dwells_2 (a b c : Int) (z : DataW Unit) : (dwellsD a b c).atKey (.int .i64 2) z = .lit (.int .i64 b) ∧ Maps.has (dwellsD a b c) (.int .i64 2) = true := by
  unfold dwellsD
  rw [atKey_put_other (neI (by decide)), atKey_put_same (isMap_put ⟨_, rfl⟩ _ _) (isKeyI 2), has_put_other (neI (by decide)), has_put_same (isMap_put ⟨_, rfl⟩ _ _) (isKeyI 2)]
  exact ⟨rfl, rfl⟩
theorem dwells_3 (a b c : Int) (z : DataW Unit) : (dwellsD a b c).atKey (.int .i64 3) z = .lit (.int .i64 c) ∧ Maps.has (dwellsD a b c) (.int .i64 3) = true := by
  unfold dwellsD
  rw [atKey_put_same (isMap_put (isMap_put ⟨_, rfl⟩ _ _) _ _) (isKeyI 3), has_put_same (isMap_put (isMap_put ⟨_, rfl⟩ _ _) _ _) (isKeyI 3)]
  exact ⟨rfl, rfl⟩
theorem dwells_no (a b c m : Int) (h : m < 1 ∨ 3 < m) : Maps.has (dwellsD a b c) (.int .i64 m) = false := by
  unfold dwellsD
  have hne : ∀ k : Int, 1 ≤ k → k ≤ 3 → Lit.int .i64 m ≠ Lit.int .i64 k := fun k h1 h3 e => by injection e; omega
  rw [has_put_other (hne 3 (by omega) (by omega)), has_put_other (hne 2 (by omega) (by omega)), has_put_other (hne 1 (by omega) (by omega))]
  rfl

abbrev cfC (c : Cf) (l : Cl) : Array Value := #[I c.floors, I c.cars, I c.park, .slice l.sa l.sn l.sc, I c.times.travel, I c.times.level, I c.times.opn, I c.times.dwell, I c.times.lead, I c.times.close, I c.times.hold, I c.rest, I c.pater,
  I c.zone.base, I c.zone.shift, I c.zone.on_.month, I c.zone.on_.week, I c.zone.on_.weekday, I c.zone.on_.minute, I c.zone.off.month, I c.zone.off.week, I c.zone.off.weekday, I c.zone.off.minute,
  I c.sun.s0, I c.sun.s1, I c.sun.s2, I c.sun.s3, I c.sun.s4, I c.sun.s5, I c.sun.s6, I c.sun.s7, I c.sun.s8, I c.sun.s9, I c.sun.s10, I c.sun.s11, .bool c.abroad, .slice l.wa l.wn l.wc]
abbrev geZ : Array Value := #[I 0, I 0, I 0, I 0, I 0, I 0, I 0, I 0, I 0, I 0]

set_option maxRecDepth 100000 in
set_option maxHeartbeats 4000000 in
theorem auto_Gear_bad (c : Cf) (l : Cl) (mode : Int) (w : World) (hIn : c.In l w) (hc : (c.check == 0) = false) :
    Calls Try.prog 11 #[c.v l, I mode] w fun e w' => e = .returned (.tuple #[Ge.zero.v, I c.check]) ∧ Below w.heap.size w w' := by
  have HIn := Lib.hid hIn; clear hIn
  have hB := (Blk.new w 33 (cfC c l)).alloc (.cells geZ 37)
  have HB := Lib.hid hB; clear hB
  go_enter Try.func11, Try.ntmps11
  go_wp2_with (refine wpList_load_blk HB.out rfl 33 _ rfl rfl _ Try.underlying33 rfl (by kernel_rfl) ?_)
  refine (config_Check c l _ ((HIn.out.alloc _).alloc _)).mono ?_
  rintro e w1 ⟨rfl, hb1⟩
  have hzw10 : w.heap.size < w1.heap.size := by have := hb1.size; simp at this; omega
  have hzw11 : w.heap.size + 1 < w1.heap.size := by have := hb1.size; simp at this; omega
  have hR : Blk w1 (w.heap.size + 1) 37 geZ := (Blk.new_ _ _ _ _ (by simp)).belowAll hb1
  have HT := Lib.hid (behind (below2 w _ _) hb1)
  have hRc := hR.cell; have hRf := hR.frozen
  have HR := Lib.hid hR; clear hR
  go_wp2
  exact bodyPost_ret (results_ct rfl _ _ 37 rfl (c1 := geZ) (by apply Blk.conv; (case h => repeat (first | with_reducible exact HR.out | with_reducible apply Blk.alloc | with_reducible apply Blk.set_ | with_reducible apply Blk.drew)); (case e => simp [geZ])) Try.underlying37 rfl (by kernel_rfl)) rfl ⟨rfl, by repeat (first | with_reducible exact HT.out | with_reducible refine Below.alloc ?_ (by first | omega | (simp <;> omega)) _ | with_reducible refine Below.setCell ?_ (by dsimp only; omega) _ | with_reducible refine Below.drew ?_)⟩

set_option maxRecDepth 100000 in
set_option maxHeartbeats 4000000 in
theorem auto_Gear_mode (c : Cf) (l : Cl) (mode : Int) (w : World) (hIn : c.In l w) (hc : c.check = 0) (hm : within mode 0 5 = false) :
    Calls Try.prog 11 #[c.v l, I mode] w fun e w' => e = .returned (.tuple #[Ge.zero.v, I 231]) ∧ Below w.heap.size w w' := by
  have HIn := Lib.hid hIn; clear hIn
  have hB := (Blk.new w 33 (cfC c l)).alloc (.cells geZ 37)
  have HB := Lib.hid hB; clear hB
  have HC := Lib.hid hc; clear hc
  have hm' : mode < 0 ∨ 5 < mode := by
    rcases Int.lt_or_le mode 0 with h | h
    · exact .inl h
    · rcases Int.lt_or_le 5 mode with h5 | h5
      · exact .inr h5
      · rw [within_iff.2 ⟨h, h5⟩] at hm; cases hm
  clear hm
  rcases hm' with hm | hm
  all_goals
    go_enter Try.func11, Try.ntmps11
    go_wp2_with (refine wpList_load_blk HB.out rfl 33 _ rfl rfl _ Try.underlying33 rfl (by kernel_rfl) ?_)
    refine (config_Check c l _ ((HIn.out.alloc _).alloc _)).mono ?_
    rintro e w1 ⟨rfl, hb1⟩
    rw [HC.out]
    have hz0 : w.heap.size < w1.heap.size := by have := hb1.size; simp at this; omega
    have hz1 : w.heap.size + 1 < w1.heap.size := by have := hb1.size; simp at this; omega
    have hR : Blk w1 (w.heap.size + 1) 37 geZ := (Blk.new_ _ _ _ _ (by simp)).belowAll hb1
    have HT := Lib.hid (behind (below2 w _ _) hb1)
    have hRc := hR.cell; have hRf := hR.frozen
    have HR := Lib.hid hR; clear hR
    go_wp2
    exact bodyPost_ret (results_ct rfl _ _ 37 rfl (c1 := geZ) (by apply Blk.conv; (case h => repeat (first | with_reducible exact HR.out | with_reducible apply Blk.alloc | with_reducible apply Blk.set_ | with_reducible apply Blk.drew)); (case e => simp [geZ])) Try.underlying37 rfl (by kernel_rfl)) rfl ⟨rfl, by repeat (first | with_reducible exact HT.out | with_reducible refine Below.alloc ?_ (by first | omega | (simp <;> omega)) _ | with_reducible refine Below.setCell ?_ (by dsimp only; omega) _ | with_reducible refine Below.drew ?_)⟩

/-- How long a car stands open in a mode that has a dwell of its own, or else. -/
theorem gear_mode (c : Cf) (mode : Int) (k : Int) (hk : mode = k) (d m : Int) (h : (bif k == 1 then c.rest else bif k == 2 then c.pater else c.times.dwell) = d) (h2 : (bif within k 1 3 then 0 else c.times.hold) = m) : c.gear mode = ⟨c.floors, c.times, d, m⟩ := by
  subst hk
  unfold Cf.gear
  rw [h, h2]

set_option maxRecDepth 100000 in
set_option maxHeartbeats 4000000 in
theorem auto_Gear_ok (c : Cf) (l : Cl) (mode : Int) (w : World) (hIn : c.In l w) (hc : c.check = 0) (hm : within mode 0 5 = true) :
    Calls Try.prog 11 #[c.v l, I mode] w fun e w' => e = .returned (.tuple #[(c.gear mode).v, I 0]) ∧ Below w.heap.size w w' := by
  have hmm := @run_makeMap Try.prog
  have hbd := Cf.times_bd hc
  have HIn := Lib.hid hIn; clear hIn
  have hB := (Blk.new w 33 (cfC c l)).alloc (.cells geZ 37)
  have HB := Lib.hid hB; clear hB
  have HC := Lib.hid hc; clear hc
  have hm' := within_iff.1 hm
  have hw1 : (Lit.int .i64 c.rest).wf = true := WalkArith.wf_i64 (by omega)
  have hw2 : (Lit.int .i64 c.pater).wf = true := WalkArith.wf_i64 (by omega)
  have hw3 : (Lit.int .i64 c.times.dwell).wf = true := WalkArith.wf_i64 (by omega)
  have Hw1 := Lib.hid hw1; have Hw2 := Lib.hid hw2; have Hw3 := Lib.hid hw3
  have hwm : (Lit.int .i64 mode).wf = true := WalkArith.wf_i64 (by omega)
  have hkm : keyOf Try.prog 3 (I mode) = some (.int .i64 mode) := keyOf_int_mk Try.underlying3 hwm
  have hk1 : keyOf Try.prog 3 (I 1) = some (.int .i64 1) := keyOf_int_mk Try.underlying3 (by decide)
  have hk2 : keyOf Try.prog 3 (I 2) = some (.int .i64 2) := keyOf_int_mk Try.underlying3 (by decide)
  have hk3 : keyOf Try.prog 3 (I 3) = some (.int .i64 3) := keyOf_int_mk Try.underlying3 (by decide)
  have Hkm := Lib.hid hkm; have Hk1 := Lib.hid hk1; have Hk2 := Lib.hid hk2; have Hk3 := Lib.hid hk3
  clear hw1 hw2 hw3 hkm hk1 hk2 hk3 hbd hwm hm
  have hd : ∃ d m : Int, c.gear mode = ⟨c.floors, c.times, d, m⟩ ∧ ((mode < 1 ∨ 3 < mode) ∧ d = c.times.dwell ∧ m = c.times.hold ∨ Maps.has (dwellsD c.rest c.pater c.times.dwell) (.int .i64 mode) = true ∧ (∀ z, (dwellsD c.rest c.pater c.times.dwell).atKey (.int .i64 mode) z = .lit (.int .i64 d)) ∧ m = 0) := by
    have hcase : mode = 0 ∨ mode = 1 ∨ mode = 2 ∨ mode = 3 ∨ mode = 4 ∨ mode = 5 := by omega
    rcases hcase with rfl | rfl | rfl | rfl | rfl | rfl
    · exact ⟨_, _, rfl, .inl ⟨by omega, rfl, rfl⟩⟩
    · exact ⟨_, _, rfl, .inr ⟨(dwells_1 _ _ _ .nil).2, fun z => (dwells_1 _ _ _ z).1, rfl⟩⟩
    · exact ⟨_, _, rfl, .inr ⟨(dwells_2 _ _ _ .nil).2, fun z => (dwells_2 _ _ _ z).1, rfl⟩⟩
    · exact ⟨_, _, rfl, .inr ⟨(dwells_3 _ _ _ .nil).2, fun z => (dwells_3 _ _ _ z).1, rfl⟩⟩
    · exact ⟨_, _, rfl, .inl ⟨by omega, rfl, rfl⟩⟩
    · exact ⟨_, _, rfl, .inl ⟨by omega, rfl, rfl⟩⟩
  obtain ⟨d, m, hgear, hd⟩ := hd
  rw [hgear]
  clear hgear
  rcases hd with ⟨hm3, rfl, rfl⟩ | ⟨hh, hk, rfl⟩
  · have HH : Hid (Maps.has ((((DataW.map (H := Unit) []).put (.int .i64 1) (.lit (.int .i64 c.rest))).put (.int .i64 2) (.lit (.int .i64 c.pater))).put (.int .i64 3) (.lit (.int .i64 c.times.dwell))) (.int .i64 mode) = false) := dwells_no _ _ _ _ hm3
    go_enter Try.func11, Try.ntmps11
    go_wp2_with (refine wpList_load_blk HB.out rfl 33 _ rfl rfl _ Try.underlying33 rfl (by kernel_rfl) ?_)
    refine (config_Check c l _ ((HIn.out.alloc _).alloc _)).mono ?_
    rintro e w1 ⟨rfl, hb1⟩
    rw [HC.out]
    have hzw10 : w.heap.size < w1.heap.size := by have := hb1.size; simp at this; omega
    have hzw11 : w.heap.size + 1 < w1.heap.size := by have := hb1.size; simp at this; omega
    have hR : Blk w1 (w.heap.size + 1) 37 geZ := (Blk.new_ _ _ _ _ (by simp)).belowAll hb1
    have hC1 : Blk w1 w.heap.size 33 (cfC c l) := HB.out.belowAll hb1
    have HT := Lib.hid (behind (below2 w _ _) hb1)
    have hRc := hR.cell; have hRf := hR.frozen
    have hCc := hC1.cell
    have HR := Lib.hid hR; clear hR
    have hC : Hid (Blk w1 w.heap.size 33 (cfC c l)) := hC1
    clear hC1
    clear hRc hRf
    have hG2 : Blk ((w1.alloc (.cells #[I c.floors, I c.times.travel, I c.times.level, I c.times.opn, I c.times.dwell, I c.times.lead, I c.times.close, I c.times.hold, I c.times.dwell, I c.times.hold] 37)).alloc (.map #[] 0)) w1.heap.size 37 #[I c.floors, I c.times.travel, I c.times.level, I c.times.opn, I c.times.dwell, I c.times.lead, I c.times.close, I c.times.hold, I c.times.dwell, I c.times.hold] := (Blk.new _ _ _).alloc _
    have hC2 := (hC.out.alloc (.cells #[I c.floors, I c.times.travel, I c.times.level, I c.times.opn, I c.times.dwell, I c.times.lead, I c.times.close, I c.times.hold, I c.times.dwell, I c.times.hold] 37)).alloc (.map #[] 0)
    have hR2 := (HR.out.alloc (.cells #[I c.floors, I c.times.travel, I c.times.level, I c.times.opn, I c.times.dwell, I c.times.lead, I c.times.close, I c.times.hold, I c.times.dwell, I c.times.hold] 37)).alloc (.map #[] 0)
    have HT2 := Lib.hid ((HT.out.alloc (by omega) (.cells #[I c.floors, I c.times.travel, I c.times.level, I c.times.opn, I c.times.dwell, I c.times.lead, I c.times.close, I c.times.hold, I c.times.dwell, I c.times.hold] 37)).alloc (by simp; omega) (.map #[] 0))
    have hz2 : w.heap.size ≤ ((w1.alloc (.cells #[I c.floors, I c.times.travel, I c.times.level, I c.times.opn, I c.times.dwell, I c.times.lead, I c.times.close, I c.times.hold, I c.times.dwell, I c.times.hold] 37)).alloc (.map #[] 0)).heap.size := by simp; omega
    have hown2 := World.ownsMap_made (w1.alloc (.cells #[I c.floors, I c.times.travel, I c.times.level, I c.times.opn, I c.times.dwell, I c.times.lead, I c.times.close, I c.times.hold, I c.times.dwell, I c.times.hold] 37)) Try.prog 3 (plainElem (H := Unit) Try.prog 3)
    rw [World.size_alloc] at hown2
    have tok1 : True := trivial
    have tok2 : True := trivial
    have tok3 : True := trivial
    go_wp2_with (first | (have _t := tok1; refine wpList_insert_own _ rfl _ _ _ 81 rfl 3 3 lawInt Try.underlying81 (plainElem (H := Unit) Try.prog 3) (w1.heap.size + 1) 0 _ rfl hown2 (by unfold maxLen; omega) _ _ _ rfl rfl Hk1.out _ [] (plainElem_int Try.underlying3 Hw1.out) ?_; intro w3 hown3 hgrow3; have hC3 := hC2.grown hgrow3 (by omega); have hG3 := hG2.grown hgrow3 (by omega); have hR3 := hR2.grown hgrow3 (by omega); have HT3 := Lib.hid (below_grown HT2.out hgrow3 hz2 (by omega)); have hs3 := hgrow3.size; have hz3 : w.heap.size ≤ w3.heap.size := (by (try simp at hs3); omega); have hCc3 := hC3.cell; have hGc3 := hG3.cell; have hGf3 := hG3.frozen; clear tok1 hCc) | (have _t := tok2; refine wpList_insert_own _ rfl _ _ _ 81 rfl 3 3 lawInt Try.underlying81 (plainElem (H := Unit) Try.prog 3) (w1.heap.size + 1) 1 _ rfl hown3 (by unfold maxLen; omega) _ _ _ rfl rfl Hk2.out _ [] (plainElem_int Try.underlying3 Hw2.out) ?_; intro w4 hown4 hgrow4; have hC4 := hC3.grown hgrow4 (by omega); have hG4 := hG3.grown hgrow4 (by omega); have hR4 := hR3.grown hgrow4 (by omega); have HT4 := Lib.hid (below_grown HT3.out hgrow4 hz3 (by omega)); have hs4 := hgrow4.size; have hz4 : w.heap.size ≤ w4.heap.size := (by (try simp at hs4); omega); have hCc4 := hC4.cell; have hGc4 := hG4.cell; have hGf4 := hG4.frozen; clear tok2 hCc3) | (have _t := tok3; refine wpList_insert_own _ rfl _ _ _ 81 rfl 3 3 lawInt Try.underlying81 (plainElem (H := Unit) Try.prog 3) (w1.heap.size + 1) 2 _ rfl hown4 (by unfold maxLen; omega) _ _ _ rfl rfl Hk3.out _ [] (plainElem_int Try.underlying3 Hw3.out) ?_; intro w5 hown5 hgrow5; have hC5 := hC4.grown hgrow5 (by omega); have hG5 := hG4.grown hgrow5 (by omega); have hR5 := hR4.grown hgrow5 (by omega); have HT5 := Lib.hid (below_grown HT4.out hgrow5 hz4 (by omega)); have hs5 := hgrow5.size; have hz5 : w.heap.size ≤ w5.heap.size := (by (try simp at hs5); omega); have hCc5 := hC5.cell; have hGc5 := hG5.cell; have hGf5 := hG5.frozen; (have hRc5 := hR5.cell; have hRf5 := hR5.frozen); clear tok3 hCc4) | (at_lookup; refine wpList_lookup_own_ok_int _ rfl _ _ 81 rfl 3 3 .i64 lawInt Try.underlying81 Try.underlying3 (zeroInt _) (w1.heap.size + 1) 3 _ rfl hown5 _ _ rfl Hkm.out ?_; intro c' hat hwc; rw [HH.out]; skip))
    have hne : w.heap.size + 1 ≠ w1.heap.size := by omega
    exact bodyPost_ret (results_ct rfl _ _ 37 rfl (c1 := #[I c.floors, I c.times.travel, I c.times.level, I c.times.opn, I c.times.dwell, I c.times.lead, I c.times.close, I c.times.hold, I c.times.dwell, I c.times.hold]) (by apply Blk.conv; (case h => repeat (first | with_reducible exact hR5 | with_reducible apply Blk.alloc | with_reducible apply Blk.set_ | with_reducible apply Blk.far_ hne | with_reducible apply Blk.drew)); (case e => simp [geZ])) Try.underlying37 rfl (by kernel_rfl)) rfl ⟨rfl, by repeat (first | with_reducible exact HT5.out | with_reducible refine Below.alloc ?_ (by first | omega | (simp <;> omega)) _ | with_reducible refine Below.setCell ?_ (by dsimp only; omega) _ | with_reducible refine Below.drew ?_)⟩
  · have HH : Hid (Maps.has ((((DataW.map (H := Unit) []).put (.int .i64 1) (.lit (.int .i64 c.rest))).put (.int .i64 2) (.lit (.int .i64 c.pater))).put (.int .i64 3) (.lit (.int .i64 c.times.dwell))) (.int .i64 mode) = true) := hh
    have HK : Hid (∀ z, ((((DataW.map (H := Unit) []).put (.int .i64 1) (.lit (.int .i64 c.rest))).put (.int .i64 2) (.lit (.int .i64 c.pater))).put (.int .i64 3) (.lit (.int .i64 c.times.dwell))).atKey (.int .i64 mode) z = .lit (.int .i64 d)) := hk
    clear hh hk
    go_enter Try.func11, Try.ntmps11
    go_wp2_with (refine wpList_load_blk HB.out rfl 33 _ rfl rfl _ Try.underlying33 rfl (by kernel_rfl) ?_)
    refine (config_Check c l _ ((HIn.out.alloc _).alloc _)).mono ?_
    rintro e w1 ⟨rfl, hb1⟩
    rw [HC.out]
    have hzw10 : w.heap.size < w1.heap.size := by have := hb1.size; simp at this; omega
    have hzw11 : w.heap.size + 1 < w1.heap.size := by have := hb1.size; simp at this; omega
    have hR : Blk w1 (w.heap.size + 1) 37 geZ := (Blk.new_ _ _ _ _ (by simp)).belowAll hb1
    have hC1 : Blk w1 w.heap.size 33 (cfC c l) := HB.out.belowAll hb1
    have HT := Lib.hid (behind (below2 w _ _) hb1)
    have hRc := hR.cell; have hRf := hR.frozen
    have hCc := hC1.cell
    have HR := Lib.hid hR; clear hR
    have hC : Hid (Blk w1 w.heap.size 33 (cfC c l)) := hC1
    clear hC1
    clear hRc hRf
    have hG2 : Blk ((w1.alloc (.cells #[I c.floors, I c.times.travel, I c.times.level, I c.times.opn, I c.times.dwell, I c.times.lead, I c.times.close, I c.times.hold, I c.times.dwell, I c.times.hold] 37)).alloc (.map #[] 0)) w1.heap.size 37 #[I c.floors, I c.times.travel, I c.times.level, I c.times.opn, I c.times.dwell, I c.times.lead, I c.times.close, I c.times.hold, I c.times.dwell, I c.times.hold] := (Blk.new _ _ _).alloc _
    have hC2 := (hC.out.alloc (.cells #[I c.floors, I c.times.travel, I c.times.level, I c.times.opn, I c.times.dwell, I c.times.lead, I c.times.close, I c.times.hold, I c.times.dwell, I c.times.hold] 37)).alloc (.map #[] 0)
    have hR2 := (HR.out.alloc (.cells #[I c.floors, I c.times.travel, I c.times.level, I c.times.opn, I c.times.dwell, I c.times.lead, I c.times.close, I c.times.hold, I c.times.dwell, I c.times.hold] 37)).alloc (.map #[] 0)
    have HT2 := Lib.hid ((HT.out.alloc (by omega) (.cells #[I c.floors, I c.times.travel, I c.times.level, I c.times.opn, I c.times.dwell, I c.times.lead, I c.times.close, I c.times.hold, I c.times.dwell, I c.times.hold] 37)).alloc (by simp; omega) (.map #[] 0))
    have hz2 : w.heap.size ≤ ((w1.alloc (.cells #[I c.floors, I c.times.travel, I c.times.level, I c.times.opn, I c.times.dwell, I c.times.lead, I c.times.close, I c.times.hold, I c.times.dwell, I c.times.hold] 37)).alloc (.map #[] 0)).heap.size := by simp; omega
    have hown2 := World.ownsMap_made (w1.alloc (.cells #[I c.floors, I c.times.travel, I c.times.level, I c.times.opn, I c.times.dwell, I c.times.lead, I c.times.close, I c.times.hold, I c.times.dwell, I c.times.hold] 37)) Try.prog 3 (plainElem (H := Unit) Try.prog 3)
    rw [World.size_alloc] at hown2
    have tok1 : True := trivial
    have tok2 : True := trivial
    have tok3 : True := trivial
    go_wp2_with (first | (have _t := tok1; refine wpList_insert_own _ rfl _ _ _ 81 rfl 3 3 lawInt Try.underlying81 (plainElem (H := Unit) Try.prog 3) (w1.heap.size + 1) 0 _ rfl hown2 (by unfold maxLen; omega) _ _ _ rfl rfl Hk1.out _ [] (plainElem_int Try.underlying3 Hw1.out) ?_; intro w3 hown3 hgrow3; have hC3 := hC2.grown hgrow3 (by omega); have hG3 := hG2.grown hgrow3 (by omega); have hR3 := hR2.grown hgrow3 (by omega); have HT3 := Lib.hid (below_grown HT2.out hgrow3 hz2 (by omega)); have hs3 := hgrow3.size; have hz3 : w.heap.size ≤ w3.heap.size := (by (try simp at hs3); omega); have hCc3 := hC3.cell; have hGc3 := hG3.cell; have hGf3 := hG3.frozen; clear tok1 hCc) | (have _t := tok2; refine wpList_insert_own _ rfl _ _ _ 81 rfl 3 3 lawInt Try.underlying81 (plainElem (H := Unit) Try.prog 3) (w1.heap.size + 1) 1 _ rfl hown3 (by unfold maxLen; omega) _ _ _ rfl rfl Hk2.out _ [] (plainElem_int Try.underlying3 Hw2.out) ?_; intro w4 hown4 hgrow4; have hC4 := hC3.grown hgrow4 (by omega); have hG4 := hG3.grown hgrow4 (by omega); have hR4 := hR3.grown hgrow4 (by omega); have HT4 := Lib.hid (below_grown HT3.out hgrow4 hz3 (by omega)); have hs4 := hgrow4.size; have hz4 : w.heap.size ≤ w4.heap.size := (by (try simp at hs4); omega); have hCc4 := hC4.cell; have hGc4 := hG4.cell; have hGf4 := hG4.frozen; clear tok2 hCc3) | (have _t := tok3; refine wpList_insert_own _ rfl _ _ _ 81 rfl 3 3 lawInt Try.underlying81 (plainElem (H := Unit) Try.prog 3) (w1.heap.size + 1) 2 _ rfl hown4 (by unfold maxLen; omega) _ _ _ rfl rfl Hk3.out _ [] (plainElem_int Try.underlying3 Hw3.out) ?_; intro w5 hown5 hgrow5; have hC5 := hC4.grown hgrow5 (by omega); have hG5 := hG4.grown hgrow5 (by omega); have hR5 := hR4.grown hgrow5 (by omega); have HT5 := Lib.hid (below_grown HT4.out hgrow5 hz4 (by omega)); have hs5 := hgrow5.size; have hz5 : w.heap.size ≤ w5.heap.size := (by (try simp at hs5); omega); have hCc5 := hC5.cell; have hGc5 := hG5.cell; have hGf5 := hG5.frozen; (have hRc5 := hR5.cell; have hRf5 := hR5.frozen); clear tok3 hCc4) | (at_lookup; refine wpList_lookup_own_ok_int _ rfl _ _ 81 rfl 3 3 .i64 lawInt Try.underlying81 Try.underlying3 (zeroInt _) (w1.heap.size + 1) 3 _ rfl hown5 _ _ rfl Hkm.out ?_; intro c' hat hwc; rw [HH.out]; rw [HK.out] at hat; have hdc : d = c' := (by injection hat with h1; injection h1); subst hdc; clear hat))
    have hne : w.heap.size + 1 ≠ w1.heap.size := by omega
    exact bodyPost_ret (results_ct rfl _ _ 37 rfl (c1 := #[I c.floors, I c.times.travel, I c.times.level, I c.times.opn, I c.times.dwell, I c.times.lead, I c.times.close, I c.times.hold, I d, I 0]) (by apply Blk.conv; (case h => repeat (first | with_reducible exact hR5 | with_reducible apply Blk.alloc | with_reducible apply Blk.set_ | with_reducible apply Blk.far_ hne | with_reducible apply Blk.drew)); (case e => simp [geZ])) Try.underlying37 rfl (by kernel_rfl)) rfl ⟨rfl, by repeat (first | with_reducible exact HT5.out | with_reducible refine Below.alloc ?_ (by first | omega | (simp <;> omega)) _ | with_reducible refine Below.setCell ?_ (by dsimp only; omega) _ | with_reducible refine Below.drew ?_)⟩
end Nw
end Go.Proofs.Ytkipbgjaeapkkaa
