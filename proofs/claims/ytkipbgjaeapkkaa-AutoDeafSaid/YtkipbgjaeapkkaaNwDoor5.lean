/- What door.Step does: a contract. (Printed by wip/mkdoor5.py.) -/
import Derived.Test.YtkipbgjaeapkkaaNwDoor4
import Derived.Deep.RegionHeld3
set_option linter.unusedSimpArgs false
set_option linter.unusedVariables false
namespace Go.Proofs.Ytkipbgjaeapkkaa
open Go.RowKit
namespace Nw

set_option maxRecDepth 100000 in
set_option maxHeartbeats 4000000 in
theorem door_Step0a (g : Ge) (left hd : Int) (w : World) (hg : g.ok = true) (hm : Dr.may ⟨0, left, hd⟩ = true) :
    Calls Try.prog 85 #[g.v, .agg #[I 0, I left, I hd], .bool false] w fun e w' => e = .returned (.tuple #[(Dr.mk 0 left hd).v, .bool (false), I 0]) ∧ Below w.heap.size w w' := by
  have hi := phases_0
  have ht := phases_tick0
  go_enter Try.func85, Try.ntmps85
  go_wp2_with fail
  refine (door_gear g _).mono ?_
  rintro e w1 ⟨rfl, hb1⟩
  rw [hg]
  obtain ⟨hc1, hf1⟩ := bcell hb1
  go_wp2_with fail
  refine (door_Check ⟨0, left, hd⟩ _).mono ?_
  rintro e w2 ⟨rfl, hb2⟩
  rw [hm, must_true]
  have hb := behind hb1 hb2
  clear hc1 hf1 hb1 hb2
  obtain ⟨hc, hf⟩ := bcell hb
  have hz0 : w.heap.size < w2.heap.size := by have := hb.size; simp at this; omega
  have hz1 : w.heap.size + 1 < w2.heap.size := by have := hb.size; simp at this; omega
  have hz2 : w.heap.size + 1 + 1 < w2.heap.size := by have := hb.size; simp at this; omega
  go_wp2_with fail
  go_region_held3 (fun W => W.cell? ⟨w.heap.size, 0, none⟩ = some (I g.floors) ∧ W.cell? ⟨w.heap.size, 1, none⟩ = some (I g.times.travel) ∧ W.cell? ⟨w.heap.size, 2, none⟩ = some (I g.times.level) ∧ W.cell? ⟨w.heap.size, 3, none⟩ = some (I g.times.opn) ∧ W.cell? ⟨w.heap.size, 4, none⟩ = some (I g.times.dwell) ∧ W.cell? ⟨w.heap.size, 5, none⟩ = some (I g.times.lead) ∧ W.cell? ⟨w.heap.size, 6, none⟩ = some (I g.times.close) ∧ W.cell? ⟨w.heap.size, 7, none⟩ = some (I g.times.hold) ∧ W.cell? ⟨w.heap.size, 8, none⟩ = some (I g.dwell) ∧ W.cell? ⟨w.heap.size, 9, none⟩ = some (I g.most) ∧ W.cell? ⟨w.heap.size + 1, 0, none⟩ = some (I 0) ∧ W.cell? ⟨w.heap.size + 1, 1, none⟩ = some (I left) ∧ W.cell? ⟨w.heap.size + 1, 2, none⟩ = some (I hd)) (go_simp) (first | (go_at_call 79; refine (door_phases _).mono ?_; rintro e w3 ⟨rfl, hb3⟩; obtain ⟨hc3, hf3⟩ := bcell (undrew hb3)) | (go_at_call 90; refine (door_shut g ⟨0, left, hd⟩ _ _).mono ?_; rintro e w4 ⟨rfl, hb4⟩; obtain ⟨hc4, hf4⟩ := bcell (behind (undrew hb3) hb4)))
  go_wp2
  exact bodyPost_ret (v := .tuple #[(Dr.mk 0 left hd).v, .bool (false), I 0]) (by simp [results, Try.results85, go_sem, hc4, hc, hz2]) rfl ⟨by rfl, (((behind (below3 _ _ _ _) (behind hb (behind (undrew hb3) hb4))).setCell (by show w.heap.size ≤ w.heap.size + 1 + 1; omega) _).setCell (by show w.heap.size ≤ w.heap.size + 1 + 1; omega) _).setCell (by show w.heap.size ≤ w.heap.size + 1 + 1; omega) _⟩

set_option maxRecDepth 100000 in
set_option maxHeartbeats 4000000 in
theorem door_Step0b (g : Ge) (left hd : Int) (w : World) (hlt : decide (hd < g.most) = false) (hg : g.ok = true) (hm : Dr.may ⟨0, left, hd⟩ = true) :
    Calls Try.prog 85 #[g.v, .agg #[I 0, I left, I hd], .bool true] w fun e w' => e = .returned (.tuple #[(Dr.mk 0 left hd).v, .bool (false), I 0]) ∧ Below w.heap.size w w' := by
  have hi := phases_0
  have ht := phases_tick0
  go_enter Try.func85, Try.ntmps85
  go_wp2_with fail
  refine (door_gear g _).mono ?_
  rintro e w1 ⟨rfl, hb1⟩
  rw [hg]
  obtain ⟨hc1, hf1⟩ := bcell hb1
  go_wp2_with fail
  refine (door_Check ⟨0, left, hd⟩ _).mono ?_
  rintro e w2 ⟨rfl, hb2⟩
  rw [hm, must_true]
  have hb := behind hb1 hb2
  clear hc1 hf1 hb1 hb2
  obtain ⟨hc, hf⟩ := bcell hb
  have hz0 : w.heap.size < w2.heap.size := by have := hb.size; simp at this; omega
  have hz1 : w.heap.size + 1 < w2.heap.size := by have := hb.size; simp at this; omega
  have hz2 : w.heap.size + 1 + 1 < w2.heap.size := by have := hb.size; simp at this; omega
  go_wp2_with fail
  go_region_held3 (fun W => W.cell? ⟨w.heap.size, 0, none⟩ = some (I g.floors) ∧ W.cell? ⟨w.heap.size, 1, none⟩ = some (I g.times.travel) ∧ W.cell? ⟨w.heap.size, 2, none⟩ = some (I g.times.level) ∧ W.cell? ⟨w.heap.size, 3, none⟩ = some (I g.times.opn) ∧ W.cell? ⟨w.heap.size, 4, none⟩ = some (I g.times.dwell) ∧ W.cell? ⟨w.heap.size, 5, none⟩ = some (I g.times.lead) ∧ W.cell? ⟨w.heap.size, 6, none⟩ = some (I g.times.close) ∧ W.cell? ⟨w.heap.size, 7, none⟩ = some (I g.times.hold) ∧ W.cell? ⟨w.heap.size, 8, none⟩ = some (I g.dwell) ∧ W.cell? ⟨w.heap.size, 9, none⟩ = some (I g.most) ∧ W.cell? ⟨w.heap.size + 1, 0, none⟩ = some (I 0) ∧ W.cell? ⟨w.heap.size + 1, 1, none⟩ = some (I left) ∧ W.cell? ⟨w.heap.size + 1, 2, none⟩ = some (I hd)) (go_simp) (first | (go_at_call 79; refine (door_phases _).mono ?_; rintro e w3 ⟨rfl, hb3⟩; obtain ⟨hc3, hf3⟩ := bcell (undrew hb3)) | (go_at_call 90; refine (door_shut g ⟨0, left, hd⟩ _ _).mono ?_; rintro e w4 ⟨rfl, hb4⟩; obtain ⟨hc4, hf4⟩ := bcell (behind (undrew hb3) hb4)))
  go_wp2
  exact bodyPost_ret (v := .tuple #[(Dr.mk 0 left hd).v, .bool (false), I 0]) (by simp [results, Try.results85, go_sem, hc4, hc, hz2]) rfl ⟨by rfl, (((behind (below3 _ _ _ _) (behind hb (behind (undrew hb3) hb4))).setCell (by show w.heap.size ≤ w.heap.size + 1 + 1; omega) _).setCell (by show w.heap.size ≤ w.heap.size + 1 + 1; omega) _).setCell (by show w.heap.size ≤ w.heap.size + 1 + 1; omega) _⟩

set_option maxRecDepth 100000 in
set_option maxHeartbeats 4000000 in
theorem door_Step0c (g : Ge) (left hd : Int) (w : World) (hlt : decide (hd < g.most) = true) (hg : g.ok = true) (hm : Dr.may ⟨0, left, hd⟩ = true) :
    Calls Try.prog 85 #[g.v, .agg #[I 0, I left, I hd], .bool true] w fun e w' => e = .returned (.tuple #[(Dr.mk 0 left hd).v, .bool (false), I 0]) ∧ Below w.heap.size w w' := by
  have hi := phases_0
  have ht := phases_tick0
  go_enter Try.func85, Try.ntmps85
  go_wp2_with fail
  refine (door_gear g _).mono ?_
  rintro e w1 ⟨rfl, hb1⟩
  rw [hg]
  obtain ⟨hc1, hf1⟩ := bcell hb1
  go_wp2_with fail
  refine (door_Check ⟨0, left, hd⟩ _).mono ?_
  rintro e w2 ⟨rfl, hb2⟩
  rw [hm, must_true]
  have hb := behind hb1 hb2
  clear hc1 hf1 hb1 hb2
  obtain ⟨hc, hf⟩ := bcell hb
  have hz0 : w.heap.size < w2.heap.size := by have := hb.size; simp at this; omega
  have hz1 : w.heap.size + 1 < w2.heap.size := by have := hb.size; simp at this; omega
  have hz2 : w.heap.size + 1 + 1 < w2.heap.size := by have := hb.size; simp at this; omega
  go_wp2_with fail
  go_region_held3 (fun W => W.cell? ⟨w.heap.size, 0, none⟩ = some (I g.floors) ∧ W.cell? ⟨w.heap.size, 1, none⟩ = some (I g.times.travel) ∧ W.cell? ⟨w.heap.size, 2, none⟩ = some (I g.times.level) ∧ W.cell? ⟨w.heap.size, 3, none⟩ = some (I g.times.opn) ∧ W.cell? ⟨w.heap.size, 4, none⟩ = some (I g.times.dwell) ∧ W.cell? ⟨w.heap.size, 5, none⟩ = some (I g.times.lead) ∧ W.cell? ⟨w.heap.size, 6, none⟩ = some (I g.times.close) ∧ W.cell? ⟨w.heap.size, 7, none⟩ = some (I g.times.hold) ∧ W.cell? ⟨w.heap.size, 8, none⟩ = some (I g.dwell) ∧ W.cell? ⟨w.heap.size, 9, none⟩ = some (I g.most) ∧ W.cell? ⟨w.heap.size + 1, 0, none⟩ = some (I 0) ∧ W.cell? ⟨w.heap.size + 1, 1, none⟩ = some (I left) ∧ W.cell? ⟨w.heap.size + 1, 2, none⟩ = some (I hd)) (go_simp) (first | (go_at_call 79; refine (door_phases _).mono ?_; rintro e w3 ⟨rfl, hb3⟩; obtain ⟨hc3, hf3⟩ := bcell (undrew hb3)) | (go_at_call 90; refine (door_shut g ⟨0, left, hd⟩ _ _).mono ?_; rintro e w4 ⟨rfl, hb4⟩; obtain ⟨hc4, hf4⟩ := bcell (behind (undrew hb3) hb4)))
  go_wp2
  exact bodyPost_ret (v := .tuple #[(Dr.mk 0 left hd).v, .bool (false), I 0]) (by simp [results, Try.results85, go_sem, hc4, hc, hz2]) rfl ⟨by rfl, (((behind (below3 _ _ _ _) (behind hb (behind (undrew hb3) hb4))).setCell (by show w.heap.size ≤ w.heap.size + 1 + 1; omega) _).setCell (by show w.heap.size ≤ w.heap.size + 1 + 1; omega) _).setCell (by show w.heap.size ≤ w.heap.size + 1 + 1; omega) _⟩

set_option maxRecDepth 100000 in
set_option maxHeartbeats 4000000 in
theorem door_Step1a (g : Ge) (left hd : Int) (w : World) (hg : g.ok = true) (hm : Dr.may ⟨1, left, hd⟩ = true) :
    Calls Try.prog 85 #[g.v, .agg #[I 1, I left, I hd], .bool false] w fun e w' => e = .returned (.tuple #[(Dr.on_ ⟨1, left, hd⟩ 2 g.dwell).v, .bool (false), I 0]) ∧ Below w.heap.size w w' := by
  have hi := phases_1
  have ht := phases_tick1
  go_enter Try.func85, Try.ntmps85
  go_wp2_with fail
  refine (door_gear g _).mono ?_
  rintro e w1 ⟨rfl, hb1⟩
  rw [hg]
  obtain ⟨hc1, hf1⟩ := bcell hb1
  go_wp2_with fail
  refine (door_Check ⟨1, left, hd⟩ _).mono ?_
  rintro e w2 ⟨rfl, hb2⟩
  rw [hm, must_true]
  have hb := behind hb1 hb2
  clear hc1 hf1 hb1 hb2
  obtain ⟨hc, hf⟩ := bcell hb
  have hz0 : w.heap.size < w2.heap.size := by have := hb.size; simp at this; omega
  have hz1 : w.heap.size + 1 < w2.heap.size := by have := hb.size; simp at this; omega
  have hz2 : w.heap.size + 1 + 1 < w2.heap.size := by have := hb.size; simp at this; omega
  go_wp2_with fail
  go_region_held3 (fun W => W.cell? ⟨w.heap.size, 0, none⟩ = some (I g.floors) ∧ W.cell? ⟨w.heap.size, 1, none⟩ = some (I g.times.travel) ∧ W.cell? ⟨w.heap.size, 2, none⟩ = some (I g.times.level) ∧ W.cell? ⟨w.heap.size, 3, none⟩ = some (I g.times.opn) ∧ W.cell? ⟨w.heap.size, 4, none⟩ = some (I g.times.dwell) ∧ W.cell? ⟨w.heap.size, 5, none⟩ = some (I g.times.lead) ∧ W.cell? ⟨w.heap.size, 6, none⟩ = some (I g.times.close) ∧ W.cell? ⟨w.heap.size, 7, none⟩ = some (I g.times.hold) ∧ W.cell? ⟨w.heap.size, 8, none⟩ = some (I g.dwell) ∧ W.cell? ⟨w.heap.size, 9, none⟩ = some (I g.most) ∧ W.cell? ⟨w.heap.size + 1, 0, none⟩ = some (I 1) ∧ W.cell? ⟨w.heap.size + 1, 1, none⟩ = some (I left) ∧ W.cell? ⟨w.heap.size + 1, 2, none⟩ = some (I hd)) (go_simp) (first | (go_at_call 79; refine (door_phases _).mono ?_; rintro e w3 ⟨rfl, hb3⟩; obtain ⟨hc3, hf3⟩ := bcell (undrew hb3)) | (go_at_call 91; refine (door_opening g ⟨1, left, hd⟩ _ _).mono ?_; rintro e w4 ⟨rfl, hb4⟩; obtain ⟨hc4, hf4⟩ := bcell (behind (undrew hb3) hb4)))
  go_wp2
  exact bodyPost_ret (v := .tuple #[(Dr.on_ ⟨1, left, hd⟩ 2 g.dwell).v, .bool (false), I 0]) (by simp [results, Try.results85, go_sem, hc4, hc, hz2]) rfl ⟨by rfl, (((behind (below3 _ _ _ _) (behind hb (behind (undrew hb3) hb4))).setCell (by show w.heap.size ≤ w.heap.size + 1 + 1; omega) _).setCell (by show w.heap.size ≤ w.heap.size + 1 + 1; omega) _).setCell (by show w.heap.size ≤ w.heap.size + 1 + 1; omega) _⟩

set_option maxRecDepth 100000 in
set_option maxHeartbeats 4000000 in
theorem door_Step1b (g : Ge) (left hd : Int) (w : World) (hlt : decide (hd < g.most) = false) (hg : g.ok = true) (hm : Dr.may ⟨1, left, hd⟩ = true) :
    Calls Try.prog 85 #[g.v, .agg #[I 1, I left, I hd], .bool true] w fun e w' => e = .returned (.tuple #[(Dr.on_ ⟨1, left, hd⟩ 2 g.dwell).v, .bool (false), I 0]) ∧ Below w.heap.size w w' := by
  have hi := phases_1
  have ht := phases_tick1
  go_enter Try.func85, Try.ntmps85
  go_wp2_with fail
  refine (door_gear g _).mono ?_
  rintro e w1 ⟨rfl, hb1⟩
  rw [hg]
  obtain ⟨hc1, hf1⟩ := bcell hb1
  go_wp2_with fail
  refine (door_Check ⟨1, left, hd⟩ _).mono ?_
  rintro e w2 ⟨rfl, hb2⟩
  rw [hm, must_true]
  have hb := behind hb1 hb2
  clear hc1 hf1 hb1 hb2
  obtain ⟨hc, hf⟩ := bcell hb
  have hz0 : w.heap.size < w2.heap.size := by have := hb.size; simp at this; omega
  have hz1 : w.heap.size + 1 < w2.heap.size := by have := hb.size; simp at this; omega
  have hz2 : w.heap.size + 1 + 1 < w2.heap.size := by have := hb.size; simp at this; omega
  go_wp2_with fail
  go_region_held3 (fun W => W.cell? ⟨w.heap.size, 0, none⟩ = some (I g.floors) ∧ W.cell? ⟨w.heap.size, 1, none⟩ = some (I g.times.travel) ∧ W.cell? ⟨w.heap.size, 2, none⟩ = some (I g.times.level) ∧ W.cell? ⟨w.heap.size, 3, none⟩ = some (I g.times.opn) ∧ W.cell? ⟨w.heap.size, 4, none⟩ = some (I g.times.dwell) ∧ W.cell? ⟨w.heap.size, 5, none⟩ = some (I g.times.lead) ∧ W.cell? ⟨w.heap.size, 6, none⟩ = some (I g.times.close) ∧ W.cell? ⟨w.heap.size, 7, none⟩ = some (I g.times.hold) ∧ W.cell? ⟨w.heap.size, 8, none⟩ = some (I g.dwell) ∧ W.cell? ⟨w.heap.size, 9, none⟩ = some (I g.most) ∧ W.cell? ⟨w.heap.size + 1, 0, none⟩ = some (I 1) ∧ W.cell? ⟨w.heap.size + 1, 1, none⟩ = some (I left) ∧ W.cell? ⟨w.heap.size + 1, 2, none⟩ = some (I hd)) (go_simp) (first | (go_at_call 79; refine (door_phases _).mono ?_; rintro e w3 ⟨rfl, hb3⟩; obtain ⟨hc3, hf3⟩ := bcell (undrew hb3)) | (go_at_call 91; refine (door_opening g ⟨1, left, hd⟩ _ _).mono ?_; rintro e w4 ⟨rfl, hb4⟩; obtain ⟨hc4, hf4⟩ := bcell (behind (undrew hb3) hb4)))
  go_wp2
  exact bodyPost_ret (v := .tuple #[(Dr.on_ ⟨1, left, hd⟩ 2 g.dwell).v, .bool (false), I 0]) (by simp [results, Try.results85, go_sem, hc4, hc, hz2]) rfl ⟨by rfl, (((behind (below3 _ _ _ _) (behind hb (behind (undrew hb3) hb4))).setCell (by show w.heap.size ≤ w.heap.size + 1 + 1; omega) _).setCell (by show w.heap.size ≤ w.heap.size + 1 + 1; omega) _).setCell (by show w.heap.size ≤ w.heap.size + 1 + 1; omega) _⟩

set_option maxRecDepth 100000 in
set_option maxHeartbeats 4000000 in
theorem door_Step1c (g : Ge) (left hd : Int) (w : World) (hlt : decide (hd < g.most) = true) (hg : g.ok = true) (hm : Dr.may ⟨1, left, hd⟩ = true) :
    Calls Try.prog 85 #[g.v, .agg #[I 1, I left, I hd], .bool true] w fun e w' => e = .returned (.tuple #[(Dr.on_ ⟨1, left, hd⟩ 2 g.dwell).v, .bool (false), I 0]) ∧ Below w.heap.size w w' := by
  have hi := phases_1
  have ht := phases_tick1
  go_enter Try.func85, Try.ntmps85
  go_wp2_with fail
  refine (door_gear g _).mono ?_
  rintro e w1 ⟨rfl, hb1⟩
  rw [hg]
  obtain ⟨hc1, hf1⟩ := bcell hb1
  go_wp2_with fail
  refine (door_Check ⟨1, left, hd⟩ _).mono ?_
  rintro e w2 ⟨rfl, hb2⟩
  rw [hm, must_true]
  have hb := behind hb1 hb2
  clear hc1 hf1 hb1 hb2
  obtain ⟨hc, hf⟩ := bcell hb
  have hz0 : w.heap.size < w2.heap.size := by have := hb.size; simp at this; omega
  have hz1 : w.heap.size + 1 < w2.heap.size := by have := hb.size; simp at this; omega
  have hz2 : w.heap.size + 1 + 1 < w2.heap.size := by have := hb.size; simp at this; omega
  go_wp2_with fail
  go_region_held3 (fun W => W.cell? ⟨w.heap.size, 0, none⟩ = some (I g.floors) ∧ W.cell? ⟨w.heap.size, 1, none⟩ = some (I g.times.travel) ∧ W.cell? ⟨w.heap.size, 2, none⟩ = some (I g.times.level) ∧ W.cell? ⟨w.heap.size, 3, none⟩ = some (I g.times.opn) ∧ W.cell? ⟨w.heap.size, 4, none⟩ = some (I g.times.dwell) ∧ W.cell? ⟨w.heap.size, 5, none⟩ = some (I g.times.lead) ∧ W.cell? ⟨w.heap.size, 6, none⟩ = some (I g.times.close) ∧ W.cell? ⟨w.heap.size, 7, none⟩ = some (I g.times.hold) ∧ W.cell? ⟨w.heap.size, 8, none⟩ = some (I g.dwell) ∧ W.cell? ⟨w.heap.size, 9, none⟩ = some (I g.most) ∧ W.cell? ⟨w.heap.size + 1, 0, none⟩ = some (I 1) ∧ W.cell? ⟨w.heap.size + 1, 1, none⟩ = some (I left) ∧ W.cell? ⟨w.heap.size + 1, 2, none⟩ = some (I hd)) (go_simp) (first | (go_at_call 79; refine (door_phases _).mono ?_; rintro e w3 ⟨rfl, hb3⟩; obtain ⟨hc3, hf3⟩ := bcell (undrew hb3)) | (go_at_call 91; refine (door_opening g ⟨1, left, hd⟩ _ _).mono ?_; rintro e w4 ⟨rfl, hb4⟩; obtain ⟨hc4, hf4⟩ := bcell (behind (undrew hb3) hb4)))
  go_wp2
  exact bodyPost_ret (v := .tuple #[(Dr.on_ ⟨1, left, hd⟩ 2 g.dwell).v, .bool (false), I 0]) (by simp [results, Try.results85, go_sem, hc4, hc, hz2]) rfl ⟨by rfl, (((behind (below3 _ _ _ _) (behind hb (behind (undrew hb3) hb4))).setCell (by show w.heap.size ≤ w.heap.size + 1 + 1; omega) _).setCell (by show w.heap.size ≤ w.heap.size + 1 + 1; omega) _).setCell (by show w.heap.size ≤ w.heap.size + 1 + 1; omega) _⟩

set_option maxRecDepth 100000 in
set_option maxHeartbeats 4000000 in
theorem door_Step2a (g : Ge) (left hd : Int) (w : World) (hg : g.ok = true) (hm : Dr.may ⟨2, left, hd⟩ = true) :
    Calls Try.prog 85 #[g.v, .agg #[I 2, I left, I hd], .bool false] w fun e w' => e = .returned (.tuple #[(Dr.open_ g ⟨2, left, hd⟩ false).v, .bool (left == g.times.lead), I 0]) ∧ Below w.heap.size w w' := by
  have hi := phases_2
  have ht := phases_tick2
  cases hl : (left == g.times.lead)
  all_goals
    go_enter Try.func85, Try.ntmps85
    go_wp2_with fail
    refine (door_gear g _).mono ?_
    rintro e w1 ⟨rfl, hb1⟩
    rw [hg]
    obtain ⟨hc1, hf1⟩ := bcell hb1
    go_wp2_with fail
    refine (door_Check ⟨2, left, hd⟩ _).mono ?_
    rintro e w2 ⟨rfl, hb2⟩
    rw [hm, must_true]
    have hb := behind hb1 hb2
    clear hc1 hf1 hb1 hb2
    obtain ⟨hc, hf⟩ := bcell hb
    have hz0 : w.heap.size < w2.heap.size := by have := hb.size; simp at this; omega
    have hz1 : w.heap.size + 1 < w2.heap.size := by have := hb.size; simp at this; omega
    have hz2 : w.heap.size + 1 + 1 < w2.heap.size := by have := hb.size; simp at this; omega
    go_wp2_with fail
    go_region_held3 (fun W => W.cell? ⟨w.heap.size, 0, none⟩ = some (I g.floors) ∧ W.cell? ⟨w.heap.size, 1, none⟩ = some (I g.times.travel) ∧ W.cell? ⟨w.heap.size, 2, none⟩ = some (I g.times.level) ∧ W.cell? ⟨w.heap.size, 3, none⟩ = some (I g.times.opn) ∧ W.cell? ⟨w.heap.size, 4, none⟩ = some (I g.times.dwell) ∧ W.cell? ⟨w.heap.size, 5, none⟩ = some (I g.times.lead) ∧ W.cell? ⟨w.heap.size, 6, none⟩ = some (I g.times.close) ∧ W.cell? ⟨w.heap.size, 7, none⟩ = some (I g.times.hold) ∧ W.cell? ⟨w.heap.size, 8, none⟩ = some (I g.dwell) ∧ W.cell? ⟨w.heap.size, 9, none⟩ = some (I g.most) ∧ W.cell? ⟨w.heap.size + 1, 0, none⟩ = some (I 2) ∧ W.cell? ⟨w.heap.size + 1, 1, none⟩ = some (I left) ∧ W.cell? ⟨w.heap.size + 1, 2, none⟩ = some (I hd)) (go_simp) (first | (go_at_call 79; refine (door_phases _).mono ?_; rintro e w3 ⟨rfl, hb3⟩; obtain ⟨hc3, hf3⟩ := bcell (undrew hb3)) | (go_at_call 93; refine (door_open g ⟨2, left, hd⟩ _ _).mono ?_; rintro e w4 ⟨rfl, hb4⟩; obtain ⟨hc4, hf4⟩ := bcell (behind (undrew hb3) hb4)))
    go_wp2
  · exact bodyPost_ret (v := .tuple #[(Dr.open_ g ⟨2, left, hd⟩ false).v, .bool (false), I 0]) (by simp [results, Try.results85, go_sem, hc4, hc, hz2]) rfl ⟨rfl, (((behind (below3 _ _ _ _) (behind hb (behind (undrew hb3) hb4))).setCell (by show w.heap.size ≤ w.heap.size + 1 + 1; omega) _).setCell (by show w.heap.size ≤ w.heap.size + 1 + 1; omega) _).setCell (by show w.heap.size ≤ w.heap.size + 1 + 1; omega) _⟩
  · exact bodyPost_ret (v := .tuple #[(Dr.open_ g ⟨2, left, hd⟩ false).v, .bool (true), I 0]) (by simp [results, Try.results85, go_sem, hc4, hc, hz2]) rfl ⟨rfl, (((behind (below3 _ _ _ _) (behind hb (behind (undrew hb3) hb4))).setCell (by show w.heap.size ≤ w.heap.size + 1 + 1; omega) _).setCell (by show w.heap.size ≤ w.heap.size + 1 + 1; omega) _).setCell (by show w.heap.size ≤ w.heap.size + 1 + 1; omega) _⟩

set_option maxRecDepth 100000 in
set_option maxHeartbeats 4000000 in
theorem door_Step2b (g : Ge) (left hd : Int) (w : World) (hlt : decide (hd < g.most) = false) (hg : g.ok = true) (hm : Dr.may ⟨2, left, hd⟩ = true) :
    Calls Try.prog 85 #[g.v, .agg #[I 2, I left, I hd], .bool true] w fun e w' => e = .returned (.tuple #[(Dr.open_ g ⟨2, left, hd⟩ false).v, .bool (left == g.times.lead), I 0]) ∧ Below w.heap.size w w' := by
  have hi := phases_2
  have ht := phases_tick2
  cases hl : (left == g.times.lead)
  all_goals
    go_enter Try.func85, Try.ntmps85
    go_wp2_with fail
    refine (door_gear g _).mono ?_
    rintro e w1 ⟨rfl, hb1⟩
    rw [hg]
    obtain ⟨hc1, hf1⟩ := bcell hb1
    go_wp2_with fail
    refine (door_Check ⟨2, left, hd⟩ _).mono ?_
    rintro e w2 ⟨rfl, hb2⟩
    rw [hm, must_true]
    have hb := behind hb1 hb2
    clear hc1 hf1 hb1 hb2
    obtain ⟨hc, hf⟩ := bcell hb
    have hz0 : w.heap.size < w2.heap.size := by have := hb.size; simp at this; omega
    have hz1 : w.heap.size + 1 < w2.heap.size := by have := hb.size; simp at this; omega
    have hz2 : w.heap.size + 1 + 1 < w2.heap.size := by have := hb.size; simp at this; omega
    go_wp2_with fail
    go_region_held3 (fun W => W.cell? ⟨w.heap.size, 0, none⟩ = some (I g.floors) ∧ W.cell? ⟨w.heap.size, 1, none⟩ = some (I g.times.travel) ∧ W.cell? ⟨w.heap.size, 2, none⟩ = some (I g.times.level) ∧ W.cell? ⟨w.heap.size, 3, none⟩ = some (I g.times.opn) ∧ W.cell? ⟨w.heap.size, 4, none⟩ = some (I g.times.dwell) ∧ W.cell? ⟨w.heap.size, 5, none⟩ = some (I g.times.lead) ∧ W.cell? ⟨w.heap.size, 6, none⟩ = some (I g.times.close) ∧ W.cell? ⟨w.heap.size, 7, none⟩ = some (I g.times.hold) ∧ W.cell? ⟨w.heap.size, 8, none⟩ = some (I g.dwell) ∧ W.cell? ⟨w.heap.size, 9, none⟩ = some (I g.most) ∧ W.cell? ⟨w.heap.size + 1, 0, none⟩ = some (I 2) ∧ W.cell? ⟨w.heap.size + 1, 1, none⟩ = some (I left) ∧ W.cell? ⟨w.heap.size + 1, 2, none⟩ = some (I hd)) (go_simp) (first | (go_at_call 79; refine (door_phases _).mono ?_; rintro e w3 ⟨rfl, hb3⟩; obtain ⟨hc3, hf3⟩ := bcell (undrew hb3)) | (go_at_call 93; refine (door_open g ⟨2, left, hd⟩ _ _).mono ?_; rintro e w4 ⟨rfl, hb4⟩; obtain ⟨hc4, hf4⟩ := bcell (behind (undrew hb3) hb4)))
    go_wp2
  · exact bodyPost_ret (v := .tuple #[(Dr.open_ g ⟨2, left, hd⟩ false).v, .bool (false), I 0]) (by simp [results, Try.results85, go_sem, hc4, hc, hz2]) rfl ⟨rfl, (((behind (below3 _ _ _ _) (behind hb (behind (undrew hb3) hb4))).setCell (by show w.heap.size ≤ w.heap.size + 1 + 1; omega) _).setCell (by show w.heap.size ≤ w.heap.size + 1 + 1; omega) _).setCell (by show w.heap.size ≤ w.heap.size + 1 + 1; omega) _⟩
  · exact bodyPost_ret (v := .tuple #[(Dr.open_ g ⟨2, left, hd⟩ false).v, .bool (true), I 0]) (by simp [results, Try.results85, go_sem, hc4, hc, hz2]) rfl ⟨rfl, (((behind (below3 _ _ _ _) (behind hb (behind (undrew hb3) hb4))).setCell (by show w.heap.size ≤ w.heap.size + 1 + 1; omega) _).setCell (by show w.heap.size ≤ w.heap.size + 1 + 1; omega) _).setCell (by show w.heap.size ≤ w.heap.size + 1 + 1; omega) _⟩

set_option maxRecDepth 100000 in
set_option maxHeartbeats 4000000 in
theorem door_Step2c (g : Ge) (left hd : Int) (w : World) (hlt : decide (hd < g.most) = true) (hg : g.ok = true) (hm : Dr.may ⟨2, left, hd⟩ = true) :
    Calls Try.prog 85 #[g.v, .agg #[I 2, I left, I hd], .bool true] w fun e w' => e = .returned (.tuple #[(Dr.open_ g ⟨2, left, hd⟩ true).v, .bool (false), I 0]) ∧ Below w.heap.size w w' := by
  have hi := phases_2
  have ht := phases_tick2
  cases hl : (left == g.times.lead)
  all_goals
    go_enter Try.func85, Try.ntmps85
    go_wp2_with fail
    refine (door_gear g _).mono ?_
    rintro e w1 ⟨rfl, hb1⟩
    rw [hg]
    obtain ⟨hc1, hf1⟩ := bcell hb1
    go_wp2_with fail
    refine (door_Check ⟨2, left, hd⟩ _).mono ?_
    rintro e w2 ⟨rfl, hb2⟩
    rw [hm, must_true]
    have hb := behind hb1 hb2
    clear hc1 hf1 hb1 hb2
    obtain ⟨hc, hf⟩ := bcell hb
    have hz0 : w.heap.size < w2.heap.size := by have := hb.size; simp at this; omega
    have hz1 : w.heap.size + 1 < w2.heap.size := by have := hb.size; simp at this; omega
    have hz2 : w.heap.size + 1 + 1 < w2.heap.size := by have := hb.size; simp at this; omega
    go_wp2_with fail
    go_region_held3 (fun W => W.cell? ⟨w.heap.size, 0, none⟩ = some (I g.floors) ∧ W.cell? ⟨w.heap.size, 1, none⟩ = some (I g.times.travel) ∧ W.cell? ⟨w.heap.size, 2, none⟩ = some (I g.times.level) ∧ W.cell? ⟨w.heap.size, 3, none⟩ = some (I g.times.opn) ∧ W.cell? ⟨w.heap.size, 4, none⟩ = some (I g.times.dwell) ∧ W.cell? ⟨w.heap.size, 5, none⟩ = some (I g.times.lead) ∧ W.cell? ⟨w.heap.size, 6, none⟩ = some (I g.times.close) ∧ W.cell? ⟨w.heap.size, 7, none⟩ = some (I g.times.hold) ∧ W.cell? ⟨w.heap.size, 8, none⟩ = some (I g.dwell) ∧ W.cell? ⟨w.heap.size, 9, none⟩ = some (I g.most) ∧ W.cell? ⟨w.heap.size + 1, 0, none⟩ = some (I 2) ∧ W.cell? ⟨w.heap.size + 1, 1, none⟩ = some (I left) ∧ W.cell? ⟨w.heap.size + 1, 2, none⟩ = some (I hd)) (go_simp) (first | (go_at_call 79; refine (door_phases _).mono ?_; rintro e w3 ⟨rfl, hb3⟩; obtain ⟨hc3, hf3⟩ := bcell (undrew hb3)) | (go_at_call 93; refine (door_open g ⟨2, left, hd⟩ _ _).mono ?_; rintro e w4 ⟨rfl, hb4⟩; obtain ⟨hc4, hf4⟩ := bcell (behind (undrew hb3) hb4)))
    go_wp2
  · exact bodyPost_ret (v := .tuple #[(Dr.open_ g ⟨2, left, hd⟩ true).v, .bool (false), I 0]) (by simp [results, Try.results85, go_sem, hc4, hc, hz2]) rfl ⟨rfl, (((behind (below3 _ _ _ _) (behind hb (behind (undrew hb3) hb4))).setCell (by show w.heap.size ≤ w.heap.size + 1 + 1; omega) _).setCell (by show w.heap.size ≤ w.heap.size + 1 + 1; omega) _).setCell (by show w.heap.size ≤ w.heap.size + 1 + 1; omega) _⟩
  · exact bodyPost_ret (v := .tuple #[(Dr.open_ g ⟨2, left, hd⟩ true).v, .bool (false), I 0]) (by simp [results, Try.results85, go_sem, hc4, hc, hz2]) rfl ⟨rfl, (((behind (below3 _ _ _ _) (behind hb (behind (undrew hb3) hb4))).setCell (by show w.heap.size ≤ w.heap.size + 1 + 1; omega) _).setCell (by show w.heap.size ≤ w.heap.size + 1 + 1; omega) _).setCell (by show w.heap.size ≤ w.heap.size + 1 + 1; omega) _⟩

set_option maxRecDepth 100000 in
set_option maxHeartbeats 4000000 in
theorem door_Step3a (g : Ge) (left hd : Int) (w : World) (hg : g.ok = true) (hm : Dr.may ⟨3, left, hd⟩ = true) :
    Calls Try.prog 85 #[g.v, .agg #[I 3, I left, I hd], .bool false] w fun e w' => e = .returned (.tuple #[(Dr.closing g ⟨3, left, hd⟩ false).v, .bool (false), I 0]) ∧ Below w.heap.size w w' := by
  have hi := phases_3
  have ht := phases_tick3
  go_enter Try.func85, Try.ntmps85
  go_wp2_with fail
  refine (door_gear g _).mono ?_
  rintro e w1 ⟨rfl, hb1⟩
  rw [hg]
  obtain ⟨hc1, hf1⟩ := bcell hb1
  go_wp2_with fail
  refine (door_Check ⟨3, left, hd⟩ _).mono ?_
  rintro e w2 ⟨rfl, hb2⟩
  rw [hm, must_true]
  have hb := behind hb1 hb2
  clear hc1 hf1 hb1 hb2
  obtain ⟨hc, hf⟩ := bcell hb
  have hz0 : w.heap.size < w2.heap.size := by have := hb.size; simp at this; omega
  have hz1 : w.heap.size + 1 < w2.heap.size := by have := hb.size; simp at this; omega
  have hz2 : w.heap.size + 1 + 1 < w2.heap.size := by have := hb.size; simp at this; omega
  go_wp2_with fail
  go_region_held3 (fun W => W.cell? ⟨w.heap.size, 0, none⟩ = some (I g.floors) ∧ W.cell? ⟨w.heap.size, 1, none⟩ = some (I g.times.travel) ∧ W.cell? ⟨w.heap.size, 2, none⟩ = some (I g.times.level) ∧ W.cell? ⟨w.heap.size, 3, none⟩ = some (I g.times.opn) ∧ W.cell? ⟨w.heap.size, 4, none⟩ = some (I g.times.dwell) ∧ W.cell? ⟨w.heap.size, 5, none⟩ = some (I g.times.lead) ∧ W.cell? ⟨w.heap.size, 6, none⟩ = some (I g.times.close) ∧ W.cell? ⟨w.heap.size, 7, none⟩ = some (I g.times.hold) ∧ W.cell? ⟨w.heap.size, 8, none⟩ = some (I g.dwell) ∧ W.cell? ⟨w.heap.size, 9, none⟩ = some (I g.most) ∧ W.cell? ⟨w.heap.size + 1, 0, none⟩ = some (I 3) ∧ W.cell? ⟨w.heap.size + 1, 1, none⟩ = some (I left) ∧ W.cell? ⟨w.heap.size + 1, 2, none⟩ = some (I hd)) (go_simp) (first | (go_at_call 79; refine (door_phases _).mono ?_; rintro e w3 ⟨rfl, hb3⟩; obtain ⟨hc3, hf3⟩ := bcell (undrew hb3)) | (go_at_call 94; refine (door_closing g ⟨3, left, hd⟩ _ _).mono ?_; rintro e w4 ⟨rfl, hb4⟩; obtain ⟨hc4, hf4⟩ := bcell (behind (undrew hb3) hb4)))
  go_wp2
  exact bodyPost_ret (v := .tuple #[(Dr.closing g ⟨3, left, hd⟩ false).v, .bool (false), I 0]) (by simp [results, Try.results85, go_sem, hc4, hc, hz2]) rfl ⟨by rfl, (((behind (below3 _ _ _ _) (behind hb (behind (undrew hb3) hb4))).setCell (by show w.heap.size ≤ w.heap.size + 1 + 1; omega) _).setCell (by show w.heap.size ≤ w.heap.size + 1 + 1; omega) _).setCell (by show w.heap.size ≤ w.heap.size + 1 + 1; omega) _⟩

set_option maxRecDepth 100000 in
set_option maxHeartbeats 4000000 in
theorem door_Step3b (g : Ge) (left hd : Int) (w : World) (hlt : decide (hd < g.most) = false) (hg : g.ok = true) (hm : Dr.may ⟨3, left, hd⟩ = true) :
    Calls Try.prog 85 #[g.v, .agg #[I 3, I left, I hd], .bool true] w fun e w' => e = .returned (.tuple #[(Dr.closing g ⟨3, left, hd⟩ false).v, .bool (false), I 0]) ∧ Below w.heap.size w w' := by
  have hi := phases_3
  have ht := phases_tick3
  go_enter Try.func85, Try.ntmps85
  go_wp2_with fail
  refine (door_gear g _).mono ?_
  rintro e w1 ⟨rfl, hb1⟩
  rw [hg]
  obtain ⟨hc1, hf1⟩ := bcell hb1
  go_wp2_with fail
  refine (door_Check ⟨3, left, hd⟩ _).mono ?_
  rintro e w2 ⟨rfl, hb2⟩
  rw [hm, must_true]
  have hb := behind hb1 hb2
  clear hc1 hf1 hb1 hb2
  obtain ⟨hc, hf⟩ := bcell hb
  have hz0 : w.heap.size < w2.heap.size := by have := hb.size; simp at this; omega
  have hz1 : w.heap.size + 1 < w2.heap.size := by have := hb.size; simp at this; omega
  have hz2 : w.heap.size + 1 + 1 < w2.heap.size := by have := hb.size; simp at this; omega
  go_wp2_with fail
  go_region_held3 (fun W => W.cell? ⟨w.heap.size, 0, none⟩ = some (I g.floors) ∧ W.cell? ⟨w.heap.size, 1, none⟩ = some (I g.times.travel) ∧ W.cell? ⟨w.heap.size, 2, none⟩ = some (I g.times.level) ∧ W.cell? ⟨w.heap.size, 3, none⟩ = some (I g.times.opn) ∧ W.cell? ⟨w.heap.size, 4, none⟩ = some (I g.times.dwell) ∧ W.cell? ⟨w.heap.size, 5, none⟩ = some (I g.times.lead) ∧ W.cell? ⟨w.heap.size, 6, none⟩ = some (I g.times.close) ∧ W.cell? ⟨w.heap.size, 7, none⟩ = some (I g.times.hold) ∧ W.cell? ⟨w.heap.size, 8, none⟩ = some (I g.dwell) ∧ W.cell? ⟨w.heap.size, 9, none⟩ = some (I g.most) ∧ W.cell? ⟨w.heap.size + 1, 0, none⟩ = some (I 3) ∧ W.cell? ⟨w.heap.size + 1, 1, none⟩ = some (I left) ∧ W.cell? ⟨w.heap.size + 1, 2, none⟩ = some (I hd)) (go_simp) (first | (go_at_call 79; refine (door_phases _).mono ?_; rintro e w3 ⟨rfl, hb3⟩; obtain ⟨hc3, hf3⟩ := bcell (undrew hb3)) | (go_at_call 94; refine (door_closing g ⟨3, left, hd⟩ _ _).mono ?_; rintro e w4 ⟨rfl, hb4⟩; obtain ⟨hc4, hf4⟩ := bcell (behind (undrew hb3) hb4)))
  go_wp2
  exact bodyPost_ret (v := .tuple #[(Dr.closing g ⟨3, left, hd⟩ false).v, .bool (false), I 0]) (by simp [results, Try.results85, go_sem, hc4, hc, hz2]) rfl ⟨by rfl, (((behind (below3 _ _ _ _) (behind hb (behind (undrew hb3) hb4))).setCell (by show w.heap.size ≤ w.heap.size + 1 + 1; omega) _).setCell (by show w.heap.size ≤ w.heap.size + 1 + 1; omega) _).setCell (by show w.heap.size ≤ w.heap.size + 1 + 1; omega) _⟩

set_option maxRecDepth 100000 in
set_option maxHeartbeats 4000000 in
theorem door_Step3c (g : Ge) (left hd : Int) (w : World) (hlt : decide (hd < g.most) = true) (hg : g.ok = true) (hm : Dr.may ⟨3, left, hd⟩ = true) :
    Calls Try.prog 85 #[g.v, .agg #[I 3, I left, I hd], .bool true] w fun e w' => e = .returned (.tuple #[(Dr.closing g ⟨3, left, hd⟩ true).v, .bool (false), I 0]) ∧ Below w.heap.size w w' := by
  have hi := phases_3
  have ht := phases_tick3
  go_enter Try.func85, Try.ntmps85
  go_wp2_with fail
  refine (door_gear g _).mono ?_
  rintro e w1 ⟨rfl, hb1⟩
  rw [hg]
  obtain ⟨hc1, hf1⟩ := bcell hb1
  go_wp2_with fail
  refine (door_Check ⟨3, left, hd⟩ _).mono ?_
  rintro e w2 ⟨rfl, hb2⟩
  rw [hm, must_true]
  have hb := behind hb1 hb2
  clear hc1 hf1 hb1 hb2
  obtain ⟨hc, hf⟩ := bcell hb
  have hz0 : w.heap.size < w2.heap.size := by have := hb.size; simp at this; omega
  have hz1 : w.heap.size + 1 < w2.heap.size := by have := hb.size; simp at this; omega
  have hz2 : w.heap.size + 1 + 1 < w2.heap.size := by have := hb.size; simp at this; omega
  go_wp2_with fail
  go_region_held3 (fun W => W.cell? ⟨w.heap.size, 0, none⟩ = some (I g.floors) ∧ W.cell? ⟨w.heap.size, 1, none⟩ = some (I g.times.travel) ∧ W.cell? ⟨w.heap.size, 2, none⟩ = some (I g.times.level) ∧ W.cell? ⟨w.heap.size, 3, none⟩ = some (I g.times.opn) ∧ W.cell? ⟨w.heap.size, 4, none⟩ = some (I g.times.dwell) ∧ W.cell? ⟨w.heap.size, 5, none⟩ = some (I g.times.lead) ∧ W.cell? ⟨w.heap.size, 6, none⟩ = some (I g.times.close) ∧ W.cell? ⟨w.heap.size, 7, none⟩ = some (I g.times.hold) ∧ W.cell? ⟨w.heap.size, 8, none⟩ = some (I g.dwell) ∧ W.cell? ⟨w.heap.size, 9, none⟩ = some (I g.most) ∧ W.cell? ⟨w.heap.size + 1, 0, none⟩ = some (I 3) ∧ W.cell? ⟨w.heap.size + 1, 1, none⟩ = some (I left) ∧ W.cell? ⟨w.heap.size + 1, 2, none⟩ = some (I hd)) (go_simp) (first | (go_at_call 79; refine (door_phases _).mono ?_; rintro e w3 ⟨rfl, hb3⟩; obtain ⟨hc3, hf3⟩ := bcell (undrew hb3)) | (go_at_call 94; refine (door_closing g ⟨3, left, hd⟩ _ _).mono ?_; rintro e w4 ⟨rfl, hb4⟩; obtain ⟨hc4, hf4⟩ := bcell (behind (undrew hb3) hb4)))
  go_wp2
  exact bodyPost_ret (v := .tuple #[(Dr.closing g ⟨3, left, hd⟩ true).v, .bool (false), I 0]) (by simp [results, Try.results85, go_sem, hc4, hc, hz2]) rfl ⟨by rfl, (((behind (below3 _ _ _ _) (behind hb (behind (undrew hb3) hb4))).setCell (by show w.heap.size ≤ w.heap.size + 1 + 1; omega) _).setCell (by show w.heap.size ≤ w.heap.size + 1 + 1; omega) _).setCell (by show w.heap.size ≤ w.heap.size + 1 + 1; omega) _⟩

theorem door_Step (g : Ge) (d : Dr) (held : Bool) (w : World) (hg : g.ok = true) (hm : d.may = true) :
    Calls Try.prog 85 #[g.v, d.v, .bool held] w fun e w' => e = .returned (.tuple #[(d.step g held).v, .bool (d.chime g held), I 0]) ∧ Below w.heap.size w w' := by
  obtain ⟨phase, left, hd⟩ := d
  have hp : within phase 0 3 = true := by
    cases h : within phase 0 3
    · unfold Dr.may at hm; rw [h] at hm; cases hm
    · rfl
  obtain ⟨hp0, hp3⟩ := within_iff.1 hp
  have hcase : phase = 0 ∨ phase = 1 ∨ phase = 2 ∨ phase = 3 := by omega
  have hheard : ∀ p, Dr.heard g ⟨p, left, hd⟩ held = (held && decide (hd < g.most)) := fun _ => rfl
  cases held
  · rcases hcase with rfl | rfl | rfl | rfl
    · exact door_Step0a g left hd w hg hm
    · exact door_Step1a g left hd w hg hm
    · refine (door_Step2a g left hd w hg hm).mono ?_
      rintro e w' ⟨rfl, hb⟩
      refine ⟨?_, hb⟩
      simp [Dr.chime, Dr.step, Dr.tick, Dr.heard]
    · exact door_Step3a g left hd w hg hm
  · cases hlt : decide (hd < g.most)
    · have hh : ∀ p, Dr.heard g ⟨p, left, hd⟩ true = false := fun p => by unfold Dr.heard; rw [hlt]; rfl
      rcases hcase with rfl | rfl | rfl | rfl
      · refine (door_Step0b g left hd w hlt hg hm).mono ?_
        rintro e w' ⟨rfl, hb⟩
        exact ⟨rfl, hb⟩
      · refine (door_Step1b g left hd w hlt hg hm).mono ?_
        rintro e w' ⟨rfl, hb⟩
        exact ⟨rfl, hb⟩
      · refine (door_Step2b g left hd w hlt hg hm).mono ?_
        rintro e w' ⟨rfl, hb⟩
        refine ⟨?_, hb⟩
        simp [Dr.chime, Dr.step, Dr.tick, hh]
      · refine (door_Step3b g left hd w hlt hg hm).mono ?_
        rintro e w' ⟨rfl, hb⟩
        refine ⟨?_, hb⟩
        simp [Dr.chime, Dr.step, Dr.tick, hh]
    · have hh : ∀ p, Dr.heard g ⟨p, left, hd⟩ true = true := fun p => by unfold Dr.heard; rw [hlt]; rfl
      rcases hcase with rfl | rfl | rfl | rfl
      · refine (door_Step0c g left hd w hlt hg hm).mono ?_
        rintro e w' ⟨rfl, hb⟩
        exact ⟨rfl, hb⟩
      · refine (door_Step1c g left hd w hlt hg hm).mono ?_
        rintro e w' ⟨rfl, hb⟩
        exact ⟨rfl, hb⟩
      · refine (door_Step2c g left hd w hlt hg hm).mono ?_
        rintro e w' ⟨rfl, hb⟩
        refine ⟨?_, hb⟩
        simp [Dr.chime, Dr.step, Dr.tick, hh]
      · refine (door_Step3c g left hd w hlt hg hm).mono ?_
        rintro e w' ⟨rfl, hb⟩
        refine ⟨?_, hb⟩
        simp [Dr.chime, Dr.step, Dr.tick, hh]
end Nw
end Go.Proofs.Ytkipbgjaeapkkaa
