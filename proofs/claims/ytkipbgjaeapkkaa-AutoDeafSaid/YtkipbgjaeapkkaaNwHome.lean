/- What auto.settle, auto.Settle and auto.Home do: contracts. -/
import Derived.Test.YtkipbgjaeapkkaaNwOf
set_option linter.unusedSimpArgs false
set_option linter.unusedVariables false
namespace Go.Proofs.Ytkipbgjaeapkkaa
open Go.RowKit
namespace Nw

theorem results_tct {P : Program} {fn : Func} {a p r : Tmp} {t1 : TypeId} (h : fn.results = #[.tmp a, .cell p t1, .tmp r]) (tmps : Array Value) (w : World) {g1 : Nat} (T1 : TypeId) {c1 : Array Value} {d1 : TypeDesc}
    (hp : tmps.getD p undef = .pointer (some ⟨g1, 0, none⟩)) (h1 : Blk w g1 T1 c1)
    (hu1 : P.underlying t1 = some d1) (hd1 : (match d1 with | .struct _ | .array _ _ => true | _ => false) = true) (hi1 : (P.info? t1).map (·.size) = some c1.size) :
    (results fn tmps).run P w = .ok (.tuple #[tmps.getD a undef, .agg c1, tmps.getD r undef]) w := by
  have hp' : tmps[p]?.getD undef = .pointer (some ⟨g1, 0, none⟩) := by simpa using hp
  simp [results, h, hp', asAddr, run_loadVar_row w g1 T1 t1 c1 (0, 0) d1 h1 hu1 hd1 hi1]

set_option maxRecDepth 100000 in
set_option maxHeartbeats 1000000 in
theorem auto_settle (c : Cf) (l : Cl) (w : World) (hc : c.check = 0) :
    Calls Try.prog 29 #[c.v l] w fun e w' => e = .returned (I c.settle) ∧ Below w.heap.size w w' := by
  have hz := Cf.size_bd hc
  have ht := (Cf.times_bd hc).1
  have hm0 : 0 ≤ c.floors * c.times.travel := Int.mul_nonneg (by omega) (by omega)
  have hm1 : c.floors * c.times.travel ≤ 64 * 60 := Int.mul_le_mul (by omega) (by omega) (by omega) (by omega)
  have HV : Hid (c.settle = c.floors * c.times.travel + 480) := rfl
  clear hc
  go_enter Try.func29, Try.ntmps29
  go_wp2
  go_ret
  refine ⟨?_, below1 _ _⟩
  rw [HV.out]
  refine congrArg (fun z => Ending.returned (I z)) ?_
  omega

set_option maxRecDepth 100000 in
set_option maxHeartbeats 1000000 in
theorem auto_Settle (c : Cf) (l : Cl) (w : World) (hIn : c.In l w) :
    Calls Try.prog 13 #[c.v l] w fun e w' => e = .returned (.tuple #[I (bif c.check != 0 then 0 else c.settle), I c.check]) ∧ Below w.heap.size w w' := by
  have HIn := Lib.hid hIn; clear hIn
  have hB := Blk.new w 33 (cfC c l)
  have HB := Lib.hid hB; clear hB
  cases hk : (c.check != 0)
  · have hc : c.check = 0 := by simpa using hk
    have HC := Lib.hid hc
    clear hk hc
    go_enter Try.func13, Try.ntmps13
    go_wp2_with (refine wpList_load_blk HB.out rfl 33 _ rfl rfl _ Try.underlying33 rfl (by kernel_rfl) ?_)
    refine (config_Check c l _ (HIn.out.alloc _)).mono ?_
    rw [HC.out]
    rintro e w1 ⟨rfl, hb1⟩
    have hB1 := HB.out.belowAll hb1
    have hT1 := behind1 hb1
    clear hb1
    go_wp2_with (refine wpList_load_blk hB1 rfl 33 _ rfl rfl _ Try.underlying33 rfl (by kernel_rfl) ?_)
    refine (auto_settle c l _ HC.out).mono ?_
    rintro e w2 ⟨rfl, hb2⟩
    go_wp2
    go_ret2
    exact ⟨by rw [HC.out]; rfl, behind hT1 hb2⟩
  · have HK := Lib.hid hk
    go_enter Try.func13, Try.ntmps13
    go_wp2_with (refine wpList_load_blk HB.out rfl 33 _ rfl rfl _ Try.underlying33 rfl (by kernel_rfl) ?_)
    refine (config_Check c l _ (HIn.out.alloc _)).mono ?_
    rintro e w1 ⟨rfl, hb1⟩
    go_wp2
    go_ret2
    exact ⟨rfl, behind1 hb1⟩

theorem RdI.drew_ {w : World} {a : Option Addr} {n : Nat} {xs : List Int} (h : RdI w a n xs) : RdI w.drew a n xs := h
/-- what auto.Home answers -/
def RetH (c : Cf) (mode nth : Int) (w : World) (e : Ending) (w' : World) : Prop :=
  ∃ (home : Int) (p : Pl) (ll : Ll), e = .returned (.tuple #[I home, p.v ll, I (c.homeE mode nth)]) ∧ (home, p) = (bif c.homeE mode nth != 0 then (0, ⟨[], 0, 0⟩) else (c.home mode nth, c.plan mode nth)) ∧ p.In ll w' ∧ (∀ x, ll.a = some x → w.heap.size ≤ x.block) ∧ Below w.heap.size w w'

set_option maxRecDepth 100000 in
set_option maxHeartbeats 2000000 in
theorem auto_Home_bad (c : Cf) (l : Cl) (mode nth : Int) (w : World) (hIn : c.In l w) (hbad : (c.homeE mode nth != 0) = true) :
    Calls Try.prog 14 #[c.v l, I mode, I nth] w (RetH c mode nth w) := by
  have HIn := Lib.hid hIn; clear hIn
  have hB := (Blk.new w 33 (cfC c l)).alloc (.cells #[.slice none 0 0, I 0, I 0] 45)
  have HB := Lib.hid hB; clear hB
  have HE : ∃ E, Hid (c.homeE mode nth = E) ∧ Hid ((E != 0) = true) := ⟨_, rfl, hbad⟩
  obtain ⟨E, HE, HE0⟩ := HE
  have hcase : (c.check != 0) = true ∧ E = c.check ∨ c.check = 0 ∧ (mode < 1 ∨ 5 < mode) ∧ E = 231 ∨ c.check = 0 ∧ ((1 ≤ mode ∧ mode ≤ 5) ∧ (nth < 0 ∨ 0 ≤ nth ∧ c.cars ≤ nth)) ∧ E = 230 := by
    have h1 : c.homeE mode nth = E := HE.out
    unfold Cf.homeE at h1
    cases hk : (c.check != 0)
    · rw [hk] at h1
      have hc : c.check = 0 := by simpa using hk
      cases hm : within mode 1 5
      · rw [hm] at h1
        refine .inr (.inl ⟨hc, ?_, h1.symm⟩)
        rcases Int.lt_or_le mode 1 with h | h
        · exact .inl h
        · rcases Int.lt_or_le 5 mode with h5 | h5
          · exact .inr h5
          · rw [within_iff.2 ⟨h, h5⟩] at hm; cases hm
      · rw [hm] at h1
        refine .inr (.inr ⟨hc, ?_⟩)
        have hm' := within_iff.1 hm
        cases hn : (decide (nth < 0) || decide (c.cars ≤ nth))
        · rw [hn] at h1
          obtain rfl : E = 0 := h1.symm
          exact absurd HE0.out (by decide)
        · rw [hn] at h1
          simp only [Bool.or_eq_true, decide_eq_true_eq] at hn
          exact ⟨⟨hm', by omega⟩, h1.symm⟩
    · rw [hk] at h1
      exact .inl ⟨rfl, h1.symm⟩
  clear hbad
  have hfin : ∀ (e : Ending) (W : World), e = .returned (.tuple #[I 0, .agg #[.slice none 0 0, I 0, I 0], I E]) → Below w.heap.size w W → RetH c mode nth w e W := fun e W he hW => ⟨0, ⟨[], 0, 0⟩, ⟨none, 0, 0⟩, by rw [HE.out]; exact he, by rw [HE.out, HE0.out]; rfl, ⟨by simp, RdI.nil _ _⟩, fun x e => (by cases e), hW⟩
  have HF := Lib.hid hfin; clear hfin
  have HQ : RetH c mode nth w = RetH c mode nth w := rfl
  generalize RetH c mode nth w = Q at HF ⊢
  clear HQ HE HE0
  rcases hcase with ⟨hk, rfl⟩ | ⟨hc, hm, rfl⟩ | ⟨hc, ⟨⟨hm1, hm2⟩, hn⟩, rfl⟩
  · go_enter Try.func14, Try.ntmps14
    go_wp2_with (refine wpList_load_blk HB.out rfl 33 _ rfl rfl _ Try.underlying33 rfl (by kernel_rfl) ?_)
    refine (config_Check c l _ ((HIn.out.alloc _).alloc _)).mono ?_
    rintro e w1 ⟨rfl, hb1⟩
    have hR1 : Blk w1 (w.heap.size + 1) 45 #[.slice none 0 0, I 0, I 0] := (Blk.new_ _ _ _ _ (by simp)).belowAll hb1
    have hC1 := HB.out.belowAll hb1
    have hT1 := behind (below2 _ _ _) hb1
    have hcR := hR1.cell; have hfR := hR1.frozen; have hcC := hC1.cell
    clear hb1 hC1
    go_wp2
    exact bodyPost_ret (results_tct rfl _ _ 45 rfl (c1 := #[.slice none 0 0, I 0, I 0]) (by apply Blk.conv; (case h => repeat (first | with_reducible exact hR1 | with_reducible apply Blk.set_)); (case e => simp)) Try.underlying45 rfl (by kernel_rfl)) rfl (HF.out _ _ rfl (by repeat (first | with_reducible exact hT1 | with_reducible refine Below.setCell ?_ (by dsimp only; omega) _ | with_reducible refine Below.drew ?_)))
  · rcases hm with hm | hm
    all_goals
      go_enter Try.func14, Try.ntmps14
      go_wp2_with (refine wpList_load_blk HB.out rfl 33 _ rfl rfl _ Try.underlying33 rfl (by kernel_rfl) ?_)
      refine (config_Check c l _ ((HIn.out.alloc _).alloc _)).mono ?_
      rw [hc]
      rintro e w1 ⟨rfl, hb1⟩
      have hR1 : Blk w1 (w.heap.size + 1) 45 #[.slice none 0 0, I 0, I 0] := (Blk.new_ _ _ _ _ (by simp)).belowAll hb1
      have hC1 := HB.out.belowAll hb1
      have hT1 := behind (below2 _ _ _) hb1
      have hcR := hR1.cell; have hfR := hR1.frozen; have hcC := hC1.cell
      clear hb1 hC1
      go_wp2
      exact bodyPost_ret (results_tct rfl _ _ 45 rfl (c1 := #[.slice none 0 0, I 0, I 0]) (by apply Blk.conv; (case h => repeat (first | with_reducible exact hR1 | with_reducible apply Blk.set_)); (case e => simp)) Try.underlying45 rfl (by kernel_rfl)) rfl (HF.out _ _ rfl (by repeat (first | with_reducible exact hT1 | with_reducible refine Below.setCell ?_ (by dsimp only; omega) _ | with_reducible refine Below.drew ?_)))
  · rcases hn with hn | ⟨hn0, hn⟩
    all_goals
      go_enter Try.func14, Try.ntmps14
      go_wp2_with (refine wpList_load_blk HB.out rfl 33 _ rfl rfl _ Try.underlying33 rfl (by kernel_rfl) ?_)
      refine (config_Check c l _ ((HIn.out.alloc _).alloc _)).mono ?_
      rw [hc]
      rintro e w1 ⟨rfl, hb1⟩
      have hR1 : Blk w1 (w.heap.size + 1) 45 #[.slice none 0 0, I 0, I 0] := (Blk.new_ _ _ _ _ (by simp)).belowAll hb1
      have hC1 := HB.out.belowAll hb1
      have hT1 := behind (below2 _ _ _) hb1
      have hcR := hR1.cell; have hfR := hR1.frozen; have hcC := hC1.cell
      clear hb1 hC1
      go_wp2
      exact bodyPost_ret (results_tct rfl _ _ 45 rfl (c1 := #[.slice none 0 0, I 0, I 0]) (by apply Blk.conv; (case h => repeat (first | with_reducible exact hR1 | with_reducible apply Blk.set_)); (case e => simp)) Try.underlying45 rfl (by kernel_rfl)) rfl (HF.out _ _ rfl (by repeat (first | with_reducible exact hT1 | with_reducible refine Below.setCell ?_ (by dsimp only; omega) _ | with_reducible refine Below.drew ?_)))

set_option maxRecDepth 100000 in
set_option maxHeartbeats 2000000 in
theorem auto_Home_ok (c : Cf) (l : Cl) (mode nth : Int) (w : World) (hIn : c.In l w) (hc : c.check = 0) (hm1 : 1 ≤ mode) (hm5 : mode ≤ 5) (h0 : 0 ≤ nth) (h1 : nth < c.cars) :
    Calls Try.prog 14 #[c.v l, I mode, I nth] w (RetH c mode nth w) := by
  have HE : c.homeE mode nth = 0 := by
    unfold Cf.homeE
    rw [hc, within_iff.2 ⟨hm1, hm5⟩, decide_eq_false (by omega), decide_eq_false (by omega)]
    rfl
  have HIn := Lib.hid hIn; clear hIn
  have hB := (Blk.new w 33 (cfC c l)).alloc (.cells #[.slice none 0 0, I 0, I 0] 45)
  have HB := Lib.hid hB; clear hB
  have hfin : ∀ (e : Ending) (W : World) (ll : Ll), e = .returned (.tuple #[I (c.home mode nth), .agg #[.slice ll.a ll.n ll.c, I (c.plan mode nth).cars, I (c.plan mode nth).car], I 0]) → (c.plan mode nth).In ll W → (∀ x, ll.a = some x → w.heap.size ≤ x.block) → Below w.heap.size w W → RetH c mode nth w e W := fun e W ll he h1 h2 h3 => ⟨c.home mode nth, c.plan mode nth, ll, by rw [HE]; exact he, by rw [HE]; rfl, h1, h2, h3⟩
  have HF := Lib.hid hfin; clear hfin
  have HM : Hid (c.moves mode nth = ⟨c.plan mode nth, c.gear mode, c.home mode nth⟩) := rfl
  generalize c.plan mode nth = P at HF HM
  generalize c.home mode nth = hm at HF HM
  generalize c.gear mode = G at HM
  generalize RetH c mode nth w = Q at HF ⊢
  have HC := Lib.hid hc
  have Hw : Hid (within mode 0 5 = true) := within_iff.2 ⟨by omega, hm5⟩
  have H1 := Lib.hid h1
  clear HE hc
  have hh0 : decide (nth < 0) = false := decide_eq_false (by omega)
  have hh1 : decide (c.cars ≤ nth) = false := decide_eq_false (by omega)
  have hh2 : decide (mode < 1) = false := decide_eq_false (by omega)
  have hh3 : decide (5 < mode) = false := decide_eq_false (by omega)
  go_enter Try.func14, Try.ntmps14
  go_wp2_with (refine wpList_load_blk HB.out rfl 33 _ rfl rfl _ Try.underlying33 rfl (by kernel_rfl) ?_)
  refine (config_Check c l _ ((HIn.out.alloc _).alloc _)).mono ?_
  rw [HC.out]
  rintro e w1 ⟨rfl, hb1⟩
  have hR1 : Blk w1 (w.heap.size + 1) 45 #[.slice none 0 0, I 0, I 0] := (Blk.new_ _ _ _ _ (by simp)).belowAll hb1
  have hC1 := HB.out.belowAll hb1
  have hT1 := behind (below2 _ _ _) hb1
  have hcC := hC1.cell
  clear hb1
  go_wp2_with (refine wpList_load_blk hC1 rfl 33 _ rfl rfl _ Try.underlying33 rfl (by kernel_rfl) ?_)
  refine (auto_of c l mode nth _ (HIn.out.below hT1) HC.out Hw.out h0 H1.out).mono ?_
  rw [HM.out]
  rintro e w2 ⟨⟨pa, pn, pc⟩, rfl, hpi, hpa, hb2⟩
  have hz1 := hR1.lt
  have hR2 := hR1.belowAll hb2
  have hT2 := behind hT1 hb2
  have hpa' : ∀ x, pa = some x → w.heap.size + 1 + 1 ≤ x.block := fun x e => by have := hpa x e; omega
  have hne := hR2.lt
  have hne2 : w2.heap.size ≠ w.heap.size + 1 := by omega
  have hne3 : w.heap.size + 1 ≠ w2.heap.size := by omega
  have hcR := hR2.cell; have hfR := hR2.frozen
  clear hcC hC1 hb2 hR1 hT1
  go_wp2_with fail
  go_region
  all_goals go_wp2
  all_goals exact bodyPost_ret (results_tct rfl _ _ 45 rfl (c1 := #[.slice pa pn pc, I P.cars, I P.car]) (by apply Blk.conv; (case h => repeat (first | with_reducible exact hR2 | with_reducible apply Blk.set_ | with_reducible apply Blk.far_ hne3 | with_reducible apply Blk.alloc | with_reducible apply Blk.drewN | with_reducible apply Blk.drew)); (case e => simp)) Try.underlying45 rfl (by kernel_rfl)) rfl (HF.out _ _ ⟨pa, pn, pc⟩ rfl ⟨hpi.n, by repeat (first | with_reducible exact hpi.s | (with_reducible refine RdI.set ?_ hpa' (by omega) _) | with_reducible refine RdI.alloc ?_ _ | with_reducible refine RdI.drew_ ?_)⟩ (fun x e => (by have := hpa' x e; omega)) (by repeat (first | with_reducible exact hT2 | with_reducible refine Below.setCell ?_ (by dsimp only; omega) _ | with_reducible refine Below.alloc ?_ (by first | omega | (simp <;> omega)) _ | with_reducible refine Below.drew ?_)))
end Nw
end Go.Proofs.Ytkipbgjaeapkkaa
