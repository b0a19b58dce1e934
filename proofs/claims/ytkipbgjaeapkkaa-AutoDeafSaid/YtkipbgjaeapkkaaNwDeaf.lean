/- What newellaw23.AutoDeaf does: it returns true. -/
import Derived.Test.YtkipbgjaeapkkaaNwAwake
set_option linter.unusedSimpArgs false
set_option linter.unusedVariables false
namespace Go.Proofs.Ytkipbgjaeapkkaa
open Go.RowKit
attribute [local go_sem ↓] Nw.ld_rule Nw.eq_rule Nw.ld_exec
namespace Nw

theorem ld_to {W : World} {g : Nat} {t : To} (h : Blk W g 62 (toC t)) : Ld Try.prog W 62 (.pointer (some ⟨g, 0, none⟩)) ∧ ldV Try.prog W 62 (.pointer (some ⟨g, 0, none⟩)) = t.v :=
  Ld.of_part h 62 0 _ (toC t).toList (hl_take (n := 3) rfl) Try.underlying62 rfl (by kernel_rfl)

set_option maxRecDepth 100000 in
set_option maxHeartbeats 4000000 in
theorem deaf_steps (a : Au) (l : Cl) (t : To) (w : World) (hIn : a.c.In l w) (hna : l.sa = none → l.sn = 0 ∧ l.sc = 0) (hnb : l.wa = none → l.wn = 0 ∧ l.wc = 0) (hf : l.few = true) (h4 : (a.mode == 4) = false) (h5 : (a.mode == 5) = false) :
    Calls Try.prog 4 #[a.v l, t.v] w fun e w' => e = .returned (.bool true) ∧ Below w.heap.size w w' := by
  have HF := Lib.hid hf; clear hf
  have HIn := Lib.hid hIn; have HNA := Lib.hid hna; have HNB := Lib.hid hnb; clear hIn hna hnb
  obtain ⟨d, hd⟩ : ∃ d, (bif a.check != 0 then Cr.zero else a.step t) = d := ⟨_, rfl⟩
  obtain ⟨o, ho⟩ : ∃ o, (bif a.check != 0 then Ou.zero else a.shows t) = o := ⟨_, rfl⟩
  have HD := Lib.hid hd; have HO := Lib.hid ho
  have HDH : Hid ((bif a.check != 0 then Cr.zero else a.step ⟨false, false, t.fault⟩) = d ∧ (bif a.check != 0 then Ou.zero else a.shows ⟨false, false, t.fault⟩) = o) := by
    unfold Hid
    rw [← hd, ← ho]
    cases hk : (a.check != 0)
    · have h0 : a.check = 0 := by simpa using hk
      obtain ⟨k1, k2⟩ := Au.deaf h0 ⟨by simpa using h4, by simpa using h5⟩ ⟨false, false, t.fault⟩ t rfl
      exact ⟨k1, k2⟩
    · exact ⟨rfl, rfl⟩
  have hd2 := HDH.out.1; have ho2 := HDH.out.2
  clear HDH
  generalize hch : a.check = ch at hd ho HD HO hd2 ho2
  have HD2 := Lib.hid hd2; have HO2 := Lib.hid ho2; clear hd2 ho2
  have HCH := Lib.hid hch
  clear hd ho hch
  have HA := Lib.hid ((Blk.new w 60 (auC a l)).alloc (.cells (toC t) 62))
  have HU : Hid (Blk ((w.alloc (.cells (auC a l) 60)).alloc (.cells (toC t) 62)) (w.heap.size + 1) 62 (toC t)) := Blk.new_ _ _ _ _ (by simp)
  have HT : Hid (Below w.heap.size w ((w.alloc (.cells (auC a l) 60)).alloc (.cells (toC t) 62))) := below2 _ _ _
  obtain ⟨hl1, hl2⟩ := ld_au_cf HA.out
  go_enter Try.func4, Try.ntmps4
  go_wp2_with fail
  refine (ref10_Few a.c l _).mono ?_
  rw [HF.out]
  rintro e w1 ⟨rfl, hb1⟩
  have hA1 := HA.out.belowAll hb1
  have hU1 := HU.out.belowAll hb1
  have hT1 := HT.out.trans (hb1.mono HT.out.size)
  have hc1 := (au_cells hA1).1
  clear hl1 hl2 hb1
  go_wp2_with fail
  clear hc1
  have hA1d := hA1.drew; have hU1d := hU1.drew; have hT1d := hT1.drew
  have hSall : ∀ W : World, Blk W w.heap.size 60 (auC a l) → Blk W (w.heap.size + 1) 62 (toC t) → (fun W => Ld Try.prog W 60 (.pointer (some ⟨w.heap.size, 0, none⟩)) ∧ ldV Try.prog W 60 (.pointer (some ⟨w.heap.size, 0, none⟩)) = a.v l ∧ Ld Try.prog W 62 (.pointer (some ⟨w.heap.size + 1, 0, none⟩)) ∧ ldV Try.prog W 62 (.pointer (some ⟨w.heap.size + 1, 0, none⟩)) = t.v) W := fun W h1 h2 =>
    ⟨(ld_au h1).1, (ld_au h1).2, (ld_to h2).1, (ld_to h2).2⟩
  have hSall2 : ∀ W : World, Blk W w.heap.size 60 (auC a l) → Blk W (w.heap.size + 1) 62 (toC t) → (fun W => Ld Try.prog W 60 (.pointer (some ⟨w.heap.size, 0, none⟩)) ∧ ldV Try.prog W 60 (.pointer (some ⟨w.heap.size, 0, none⟩)) = a.v l ∧ W.cell? ⟨w.heap.size + 1, 2, none⟩ = some (.bool t.fault)) W := fun W h1 h2 =>
    ⟨(ld_au h1).1, (ld_au h1).2, h2.cell 2⟩
  have hz1 : w.heap.size + 1 < w1.heap.size := hU1.lt
  have hz0 : w.heap.size < w1.heap.size := hA1.lt
  go_cut [5, 6, 7] from 26 to 33 (fun s5 s6 s7 wx => ∃ g1 g2 : Nat, s5 = .pointer (some ⟨g1, 0, none⟩) ∧ s6 = .pointer (some ⟨g2, 0, none⟩) ∧ s7 = I ch ∧ w1.heap.size ≤ g1 ∧ w1.heap.size ≤ g2 ∧ Blk wx g1 58 (crC d) ∧ Blk wx g2 64 #[I o.motor, I o.door, I o.floor, .bool o.chime] ∧ Below w1.heap.size w1 wx)
  case first =>
    go_region_held3 (fun W => Ld Try.prog W 60 (.pointer (some ⟨w.heap.size, 0, none⟩)) ∧ ldV Try.prog W 60 (.pointer (some ⟨w.heap.size, 0, none⟩)) = a.v l ∧ Ld Try.prog W 62 (.pointer (some ⟨w.heap.size + 1, 0, none⟩)) ∧ ldV Try.prog W 62 (.pointer (some ⟨w.heap.size + 1, 0, none⟩)) = t.v) (refine hSall _ ?_ ?_ <;> (repeat (first | with_reducible assumption | with_reducible apply Blk.alloc | with_reducible apply Blk.far_ (by first | assumption | omega) | with_reducible apply Blk.drew))) (first
      | (go_at_call 22; refine (law23_own a l _ ?hi HNA.out HNB.out).mono ?_; (case hi => exact HIn.out.below (by repeat (first | with_reducible assumption | with_reducible refine Below.alloc ?_ (by first | omega | (simp <;> omega)) _ | with_reducible refine Below.drew ?_))); rintro e w2 ⟨l1, rfl, hi1, hb2⟩; have kA2 : Blk w2 w.heap.size 60 (auC a l) := Blk.belowAll (by repeat (first | with_reducible assumption | with_reducible apply Blk.alloc | with_reducible apply Blk.drew)) hb2; have kU2 : Blk w2 (w.heap.size + 1) 62 (toC t) := Blk.belowAll (by repeat (first | with_reducible assumption | with_reducible apply Blk.alloc | with_reducible apply Blk.drew)) hb2; have hT2 : Below w.heap.size w w2 := behind (by repeat (first | with_reducible assumption | with_reducible refine Below.alloc ?_ (by first | omega | (simp <;> omega)) _ | with_reducible refine Below.drew ?_)) hb2; replace hb2 := undrew hb2; obtain ⟨hc2, hf2⟩ := bcell hb2; have hz2 := hb2.size; (try simp at hz2); (try (have hy2 : w1.heap.size < w2.heap.size := (by omega))); (try (have hx2 : w1.heap.size + 1 < w2.heap.size := (by omega))))
      | (go_at_call 21; refine (auto_Step a l1 t _ ?hj).mono ?_; (case hj => repeat (first | with_reducible exact hi1 | with_reducible refine Cf.In.alloc ?_ _)); rw [HCH.out, HD.out, HO.out]; rintro e w3 ⟨rfl, hb3⟩; have kA3 : Blk w3 w.heap.size 60 (auC a l) := Blk.belowAll (by repeat (first | with_reducible assumption | with_reducible apply Blk.alloc | with_reducible apply Blk.drew)) hb3; have kU3 : Blk w3 (w.heap.size + 1) 62 (toC t) := Blk.belowAll (by repeat (first | with_reducible assumption | with_reducible apply Blk.alloc | with_reducible apply Blk.drew)) hb3; have hT3 : Below w.heap.size w w3 := behind (by repeat (first | with_reducible assumption | with_reducible refine Below.alloc ?_ (by first | omega | (simp <;> omega)) _ | with_reducible refine Below.drew ?_)) hb3; obtain ⟨hc3, hf3⟩ := bcell hb3; have hz3 := hb3.size; (try simp at hz3); (try (have hy3 : w1.heap.size < w3.heap.size := (by omega))); (try (have hx3 : w1.heap.size + 1 < w3.heap.size := (by omega))); (try (have hv3 : w2.heap.size < w3.heap.size := (by omega))); (try (have hu3 : w2.heap.size + 1 < w3.heap.size := (by omega)))))
    all_goals (go_wp2_with fail; go_meet)
    all_goals refine ⟨_, _, rfl, rfl, rfl, ?_, ?_, ?_, ?_, ?_⟩
    any_goals omega
    all_goals first
      | (apply Blk.conv; (case h => repeat (first | with_reducible apply Blk.set_ | ((with_reducible apply Blk.far_); omega) | with_reducible exact Blk.new _ _ _ | ((with_reducible apply Blk.new_); (simp; done)) | with_reducible apply Blk.alloc | with_reducible apply Blk.drew | with_reducible apply Blk.belowAll (hb := hb3) | with_reducible apply Blk.belowAll (hb := hb2))); (case e => first | rfl | simp))
      | (repeat (first | with_reducible exact Below.refl _ _ | with_reducible refine Below.setCell ?_ (by dsimp only; omega) _ | with_reducible refine Below.alloc ?_ (by first | omega | (simp <;> omega)) _ | with_reducible refine Below.drew ?_ | with_reducible refine behind ?_ hb3 | with_reducible refine behind ?_ hb2))
  case rest =>
  obtain ⟨g1, g2, rfl, rfl, rfl, hg1, hg2, hP1, hQ1, hbA⟩ := hcut
  have hA4 := hA1.belowAll hbA
  have hU4 := hU1.belowAll hbA
  have hT4 := behind hT1 hbA
  clear hA1 hU1 hT1 hA1d hU1d hT1d
  obtain ⟨w4, hw4⟩ : ∃ w4, w4 = wc := ⟨_, rfl⟩
  subst hw4
  have hA4d := hA4.drew; have hU4d := hU4.drew; have hT4d := hT4.drew
  have hz4 := hU4.lt; have hz5 := hA4.lt; have hz6 := hP1.lt; have hz7 := hQ1.lt
  go_wp2_with fail
  go_cut [8, 9, 10] from 34 to 43 (fun s5 s6 s7 wx => ∃ g1 g2 : Nat, s5 = .pointer (some ⟨g1, 0, none⟩) ∧ s6 = .pointer (some ⟨g2, 0, none⟩) ∧ s7 = I ch ∧ w4.heap.size ≤ g1 ∧ w4.heap.size ≤ g2 ∧ Blk wx g1 58 (crC d) ∧ Blk wx g2 64 #[I o.motor, I o.door, I o.floor, .bool o.chime] ∧ Below w4.heap.size w4 wx)
  case first =>
    go_region_held3 (fun W => Ld Try.prog W 60 (.pointer (some ⟨w.heap.size, 0, none⟩)) ∧ ldV Try.prog W 60 (.pointer (some ⟨w.heap.size, 0, none⟩)) = a.v l ∧ W.cell? ⟨w.heap.size + 1, 2, none⟩ = some (.bool t.fault)) (refine hSall2 _ ?_ ?_ <;> (repeat (first | with_reducible assumption | with_reducible apply Blk.alloc | with_reducible apply Blk.far_ (by first | assumption | omega) | with_reducible apply Blk.drew))) (first
      | (go_at_call 22; refine (law23_own a l _ ?hi HNA.out HNB.out).mono ?_; (case hi => exact HIn.out.below (by repeat (first | with_reducible assumption | with_reducible refine Below.alloc ?_ (by first | omega | (simp <;> omega)) _ | with_reducible refine Below.drew ?_))); rintro e w5 ⟨l1, rfl, hi1, hb5⟩; have kA5 : Blk w5 w.heap.size 60 (auC a l) := Blk.belowAll (by repeat (first | with_reducible assumption | with_reducible apply Blk.alloc | with_reducible apply Blk.drew)) hb5; have kU5 : Blk w5 (w.heap.size + 1) 62 (toC t) := Blk.belowAll (by repeat (first | with_reducible assumption | with_reducible apply Blk.alloc | with_reducible apply Blk.drew)) hb5; have hT5 : Below w.heap.size w w5 := behind (by repeat (first | with_reducible assumption | with_reducible refine Below.alloc ?_ (by first | omega | (simp <;> omega)) _ | with_reducible refine Below.drew ?_)) hb5; replace hb5 := undrew hb5; obtain ⟨hc5, hf5⟩ := bcell hb5; have hz5 := hb5.size; (try simp at hz5); (try (have hy5 : w4.heap.size < w5.heap.size := (by omega))); (try (have hx5 : w4.heap.size + 1 < w5.heap.size := (by omega))))
      | (go_at_call 21; refine (auto_Step a l1 ⟨false, false, t.fault⟩ _ ?hj).mono ?_; (case hj => repeat (first | with_reducible exact hi1 | with_reducible refine Cf.In.alloc ?_ _)); rw [HCH.out, HD2.out, HO2.out]; rintro e w6 ⟨rfl, hb6⟩; have kA6 : Blk w6 w.heap.size 60 (auC a l) := Blk.belowAll (by repeat (first | with_reducible assumption | with_reducible apply Blk.alloc | with_reducible apply Blk.drew)) hb6; have kU6 : Blk w6 (w.heap.size + 1) 62 (toC t) := Blk.belowAll (by repeat (first | with_reducible assumption | with_reducible apply Blk.alloc | with_reducible apply Blk.drew)) hb6; have hT6 : Below w.heap.size w w6 := behind (by repeat (first | with_reducible assumption | with_reducible refine Below.alloc ?_ (by first | omega | (simp <;> omega)) _ | with_reducible refine Below.drew ?_)) hb6; obtain ⟨hc6, hf6⟩ := bcell hb6; have hz6 := hb6.size; (try simp at hz6); (try (have hy6 : w4.heap.size < w6.heap.size := (by omega))); (try (have hx6 : w4.heap.size + 1 < w6.heap.size := (by omega))); (try (have hv6 : w5.heap.size < w6.heap.size := (by omega))); (try (have hu6 : w5.heap.size + 1 < w6.heap.size := (by omega)))))
    all_goals (go_wp2_with fail; go_meet)
    all_goals refine ⟨_, _, rfl, rfl, rfl, ?_, ?_, ?_, ?_, ?_⟩
    any_goals omega
    all_goals first
      | (apply Blk.conv; (case h => repeat (first | with_reducible apply Blk.set_ | ((with_reducible apply Blk.far_); omega) | with_reducible exact Blk.new _ _ _ | ((with_reducible apply Blk.new_); (simp; done)) | with_reducible apply Blk.alloc | with_reducible apply Blk.drew | with_reducible apply Blk.belowAll (hb := hb6) | with_reducible apply Blk.belowAll (hb := hb5))); (case e => first | rfl | simp))
      | (repeat (first | with_reducible exact Below.refl _ _ | with_reducible refine Below.setCell ?_ (by dsimp only; omega) _ | with_reducible refine Below.alloc ?_ (by first | omega | (simp <;> omega)) _ | with_reducible refine Below.drew ?_ | with_reducible refine behind ?_ hb6 | with_reducible refine behind ?_ hb5))
  case rest =>
  obtain ⟨g3, g4, rfl, rfl, rfl, hg3, hg4, hP2, hQ2, hbB⟩ := hcut
  have hT8 := behind hT4 hbB
  have hP1b := hP1.belowAll hbB
  have hQ1b := hQ1.belowAll hbB
  clear hA4 hU4 hT4 hA4d hU4d hT4d
  go_wp2_with fail
  refine (law23_awake _).mono ?_
  rintro e w9 ⟨rfl, hb9⟩
  have hT9 := behind hT8 hb9
  obtain ⟨ha1, ha2⟩ := Ld.of_part (P := Try.prog) (hP1b.belowAll hb9) 58 0 _ (crC d).toList (hl_take (n := 7) rfl) Try.underlying58 rfl (by kernel_rfl)
  obtain ⟨ha3, ha4⟩ := Ld.of_part (P := Try.prog) (hP2.belowAll hb9) 58 0 _ (crC d).toList (hl_take (n := 7) rfl) Try.underlying58 rfl (by kernel_rfl)
  obtain ⟨ha5, ha6⟩ := Ld.of_part (P := Try.prog) (hQ1b.belowAll hb9) 64 0 _ (#[I o.motor, I o.door, I o.floor, .bool o.chime] : Array Value).toList (hl_take (n := 4) rfl) Try.underlying64 rfl (by kernel_rfl)
  obtain ⟨ha7, ha8⟩ := Ld.of_part (P := Try.prog) (hQ2.belowAll hb9) 64 0 _ (#[I o.motor, I o.door, I o.floor, .bool o.chime] : Array Value).toList (hl_take (n := 4) rfl) Try.underlying64 rfl (by kernel_rfl)
  have hdd : d.same d = true := Cr.same_iff.2 rfl
  have heq : ∀ W x y, EqR Try.prog W 58 x y d.v d.v := fun W x y => (eq_cr W _ _ x y).1
  have heqv : ∀ W x y, eqV Try.prog W 58 x y d.v d.v = .bool true := fun W x y => (eq_cr W _ _ x y).2.trans (by rw [hdd])
  go_wp2
  go_ret
  exact ⟨rfl, hT9⟩
end Nw
end Go.Proofs.Ytkipbgjaeapkkaa
