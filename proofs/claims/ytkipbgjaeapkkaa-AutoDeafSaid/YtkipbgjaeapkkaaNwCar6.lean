/- What car.Step does: a contract. (Printed by wip/mkcar6.py.) -/
import Derived.Test.YtkipbgjaeapkkaaNwCar5
import Derived.Test.YtkipbgjaeapkkaaNwCar3
set_option linter.unusedSimpArgs false
set_option linter.unusedVariables false
namespace Go.Proofs.Ytkipbgjaeapkkaa
open Go.RowKit
namespace Nw

theorem Blk.grown {w w' : World} {g b : Nat} {t : TypeId} {cs : Array Value} (h : Blk w g t cs) (hg : w.grownBy w' (some b)) (hne : g ≠ b) : Blk w' g t cs :=
  (hg.block g h.lt (fun e => hne (by injection e))).trans h

theorem results_cct {P : Program} {fn : Func} {p q r : Tmp} {t1 t2 : TypeId} (h : fn.results = #[.cell p t1, .cell q t2, .tmp r]) (tmps : Array Value) (w : World) {g1 g2 : Nat} (T1 T2 : TypeId) {c1 c2 : Array Value} {d1 d2 : TypeDesc}
    (hp : tmps.getD p undef = .pointer (some ⟨g1, 0, none⟩)) (hq : tmps.getD q undef = .pointer (some ⟨g2, 0, none⟩)) (h1 : Blk w g1 T1 c1) (h2 : Blk w g2 T2 c2)
    (hu1 : P.underlying t1 = some d1) (hd1 : (match d1 with | .struct _ | .array _ _ => true | _ => false) = true) (hi1 : (P.info? t1).map (·.size) = some c1.size)
    (hu2 : P.underlying t2 = some d2) (hd2 : (match d2 with | .struct _ | .array _ _ => true | _ => false) = true) (hi2 : (P.info? t2).map (·.size) = some c2.size) :
    (results fn tmps).run P w = .ok (.tuple #[.agg c1, .agg c2, tmps.getD r undef]) w := by
  have hp' : tmps[p]?.getD undef = .pointer (some ⟨g1, 0, none⟩) := by simpa using hp
  have hq' : tmps[q]?.getD undef = .pointer (some ⟨g2, 0, none⟩) := by simpa using hq
  simp [results, h, hp', hq', asAddr, run_loadVar_row w g1 T1 t1 c1 (0, 0) d1 h1 hu1 hd1 hi1, run_loadVar_row w g2 T2 t2 c2 (0, 0) d2 h2 hu2 hd2 hi2]

/-- What is below B is below it behind a change of a block from B on alone. -/
theorem below_grown {B b : Nat} {a w w' : World} (h : Below B a w) (hg : w.grownBy w' (some b)) (hB : B ≤ w.heap.size) (hb : B ≤ b) : Below B a w' := h.grown hg hB (fun k e => by cases e; exact hb)

set_option maxRecDepth 100000 in
set_option maxHeartbeats 4000000 in
theorem car_Step_fault (g : Ge) (c : Cr) (cmd : Int) (held : Bool) (w : World) (hg : g.ok = true) (hm : c.may g.floors = true) (hcmd : within cmd 0 3 = true) :
    Calls Try.prog 40 #[g.v, c.v, .agg #[I cmd, .bool held, .bool true]] w fun e w' => e = .returned (.tuple #[c.v, .agg #[I 0, I c.door.phase, I c.floor, .bool false], I 0]) ∧ Below w.heap.size w w' := by
  have HM : Hid (must (g.ok && c.may g.floors) 180 = 0) := by unfold Hid; rw [hg, hm]; rfl
  go_enter Try.func40, Try.ntmps40
  go_wp2_with fail
  refine (car_check g c _).mono ?_
  rintro e w1 ⟨rfl, hb1⟩
  rw [HM.out]
  obtain ⟨hc1, hf1⟩ := bcell hb1
  have hT := behind (((below3 w _ _ _).alloc (by simp; omega) _).alloc (by simp; omega) _) hb1
  have hR6 : Blk w1 (w.heap.size + 1 + 1 + 1) 58 #[I 0, I 0, I 0, I 0, I 0, I 0, I 0] := ((Blk.new_ _ _ _ _ (by simp)).alloc _).belowAll hb1
  have hR7 : Blk w1 (w.heap.size + 1 + 1 + 1 + 1) 64 #[I 0, I 0, I 0, .bool false] := (Blk.new_ _ _ _ _ (by simp)).belowAll hb1
  have HR6 := Lib.hid hR6; have HR7 := Lib.hid hR7; clear hR6 hR7
  have hzw10 : w.heap.size < w1.heap.size := by have := hb1.size; simp at this; omega
  have hzw11 : w.heap.size + 1 < w1.heap.size := by have := hb1.size; simp at this; omega
  have hzw12 : w.heap.size + 1 + 1 < w1.heap.size := by have := hb1.size; simp at this; omega
  have hzw13 : w.heap.size + 1 + 1 + 1 < w1.heap.size := by have := hb1.size; simp at this; omega
  have hzw14 : w.heap.size + 1 + 1 + 1 + 1 < w1.heap.size := by have := hb1.size; simp at this; omega
  have hn1 : w1.heap.size ≠ w.heap.size + 1 + 1 + 1 := by omega
  have hn2 : w1.heap.size ≠ w.heap.size + 1 + 1 + 1 + 1 := by omega
  have hn3 : w.heap.size + 1 + 1 + 1 ≠ w1.heap.size := by omega
  have hn4 : w.heap.size + 1 + 1 + 1 + 1 ≠ w1.heap.size := by omega
  go_wp2_with (go_at_call 54; refine (car_within _ _ _ _).mono ?_; rintro e w' ⟨rfl, rfl⟩)
  go_region_held3 (fun W => W.cell? ⟨w.heap.size + 1, 0, none⟩ = some (I c.floor) ∧ W.cell? ⟨w.heap.size + 1, 1, none⟩ = some (I c.dir) ∧ W.cell? ⟨w.heap.size + 1, 2, none⟩ = some (I c.phase) ∧ W.cell? ⟨w.heap.size + 1, 3, none⟩ = some (I c.left) ∧ W.cell? ⟨w.heap.size + 1, 4, none⟩ = some (I c.door.phase) ∧ W.cell? ⟨w.heap.size + 1, 5, none⟩ = some (I c.door.left) ∧ W.cell? ⟨w.heap.size + 1, 6, none⟩ = some (I c.door.held) ∧ W.cell? ⟨w1.heap.size, 0, none⟩ = some (I 0) ∧ W.cell? ⟨w1.heap.size, 1, none⟩ = some (I c.door.phase) ∧ W.cell? ⟨w1.heap.size, 2, none⟩ = some (I c.floor) ∧ W.cell? ⟨w1.heap.size, 3, none⟩ = some (.bool false)) (go_simp) (first | fail)
  go_wp2
  exact bodyPost_ret (results_cct rfl _ _ 58 64 rfl rfl (c1 := #[I c.floor, I c.dir, I c.phase, I c.left, I c.door.phase, I c.door.left, I c.door.held]) (c2 := #[I 0, I c.door.phase, I c.floor, .bool false]) (by exact ((((((((((((HR6.out.set_ 0 _).set_ 1 _).set_ 2 _).set_ 3 _).set_ 4 _).set_ 5 _).set_ 6 _).far (by dsimp only; omega) _).far (by dsimp only; omega) _).far (by dsimp only; omega) _).far (by dsimp only; omega) _).alloc _ |>.drew)) (by exact ((((((((((((HR7.out.far (by dsimp only; omega) _).far (by dsimp only; omega) _).far (by dsimp only; omega) _).far (by dsimp only; omega) _).far (by dsimp only; omega) _).far (by dsimp only; omega) _).far (by dsimp only; omega) _).set_ 0 _).set_ 1 _).set_ 2 _).set_ 3 _).alloc _ |>.drew)) Try.underlying58 rfl (by kernel_rfl) Try.underlying64 rfl (by kernel_rfl)) rfl ⟨rfl, ((((((((((((hT.setCell (by show w.heap.size ≤ w.heap.size + 1 + 1 + 1; omega) _).setCell (by show w.heap.size ≤ w.heap.size + 1 + 1 + 1; omega) _).setCell (by show w.heap.size ≤ w.heap.size + 1 + 1 + 1; omega) _).setCell (by show w.heap.size ≤ w.heap.size + 1 + 1 + 1; omega) _).setCell (by show w.heap.size ≤ w.heap.size + 1 + 1 + 1; omega) _).setCell (by show w.heap.size ≤ w.heap.size + 1 + 1 + 1; omega) _).setCell (by show w.heap.size ≤ w.heap.size + 1 + 1 + 1; omega) _).setCell (by show w.heap.size ≤ w.heap.size + 1 + 1 + 1 + 1; omega) _).setCell (by show w.heap.size ≤ w.heap.size + 1 + 1 + 1 + 1; omega) _).setCell (by show w.heap.size ≤ w.heap.size + 1 + 1 + 1 + 1; omega) _).setCell (by show w.heap.size ≤ w.heap.size + 1 + 1 + 1 + 1; omega) _)).alloc (by simp [World.setCell]; omega) _ |>.drew⟩

set_option maxRecDepth 100000 in
set_option maxHeartbeats 4000000 in
theorem car_Step_idle (g : Ge) (c : Cr) (cmd : Int) (held : Bool) (w : World) (hg : g.ok = true) (hm : c.may g.floors = true) (hcmd : within cmd 0 3 = true) (hp : (c.phase == 0) = true) (d1 d2 : Cr) (ch : Bool) (hd1 : c.begin_ g cmd = d1) (hd2 : d1.tick g held = d2) (hch : d1.tickChime g held = ch) (hd : d1.door.may = true) :
    Calls Try.prog 40 #[g.v, c.v, .agg #[I cmd, .bool held, .bool false]] w fun e w' => e = .returned (.tuple #[d2.v, .agg #[I d1.dir, I c.door.phase, I c.floor, .bool ch], I 0]) ∧ Below w.heap.size w w' := by
  have HD1 := Lib.hid hd1; clear hd1
  have HD2 := Lib.hid hd2; have HCH := Lib.hid hch; clear hd2 hch
  have HM : Hid (must (g.ok && c.may g.floors) 180 = 0) := by unfold Hid; rw [hg, hm]; rfl
  go_enter Try.func40, Try.ntmps40
  go_wp2_with fail
  refine (car_check g c _).mono ?_
  rintro e w1 ⟨rfl, hb1⟩
  rw [HM.out]
  obtain ⟨hc1, hf1⟩ := bcell hb1
  have hT := behind (((below3 w _ _ _).alloc (by simp; omega) _).alloc (by simp; omega) _) hb1
  have hR6 : Blk w1 (w.heap.size + 1 + 1 + 1) 58 #[I 0, I 0, I 0, I 0, I 0, I 0, I 0] := ((Blk.new_ _ _ _ _ (by simp)).alloc _).belowAll hb1
  have hR7 : Blk w1 (w.heap.size + 1 + 1 + 1 + 1) 64 #[I 0, I 0, I 0, .bool false] := (Blk.new_ _ _ _ _ (by simp)).belowAll hb1
  have HR6 := Lib.hid hR6; have HR7 := Lib.hid hR7; clear hR6 hR7
  have hzw10 : w.heap.size < w1.heap.size := by have := hb1.size; simp at this; omega
  have hzw11 : w.heap.size + 1 < w1.heap.size := by have := hb1.size; simp at this; omega
  have hzw12 : w.heap.size + 1 + 1 < w1.heap.size := by have := hb1.size; simp at this; omega
  have hzw13 : w.heap.size + 1 + 1 + 1 < w1.heap.size := by have := hb1.size; simp at this; omega
  have hzw14 : w.heap.size + 1 + 1 + 1 + 1 < w1.heap.size := by have := hb1.size; simp at this; omega
  have hn1 : w1.heap.size ≠ w.heap.size + 1 + 1 + 1 := by omega
  have hn2 : w1.heap.size ≠ w.heap.size + 1 + 1 + 1 + 1 := by omega
  have hn3 : w.heap.size + 1 + 1 + 1 ≠ w1.heap.size := by omega
  have hn4 : w.heap.size + 1 + 1 + 1 + 1 ≠ w1.heap.size := by omega
  have hOr : Blk w1 (w.heap.size + 1 + 1) 98 #[I cmd, .bool held, .bool false] := (((Blk.new_ _ _ _ _ (by simp)).alloc _).alloc _).belowAll hb1
  have HOr := Lib.hid hOr; clear hOr
  go_wp2_with (go_at_call 54; refine (car_within _ _ _ _).mono ?_; rintro e w' ⟨rfl, rfl⟩)
  refine (car_begin g c cmd _ _ (Blk.new_ _ _ _ _ (by simp)) hcmd).mono ?_
  rintro e w2 ⟨rfl, hB2, hg2⟩
  rw [HD1.out] at hB2
  have hO2 := ((Blk.new w1 64 _).alloc _).grown hg2 (by omega)
  have hOr2 := ((HOr.out.alloc _).alloc _).grown hg2 (by omega)
  have hR62 := ((HR6.out.alloc _).alloc _).grown hg2 (by omega)
  have hR72 := ((HR7.out.alloc _).alloc _).grown hg2 (by omega)
  have hT2 := below_grown ((hT.alloc (by omega) _).alloc (by simp; omega) _) hg2 (by simp; omega) (by omega)
  have hs2 : w1.heap.size + 1 + 1 ≤ w2.heap.size := by have := hg2.size; simp at this; omega
  have hOc := hO2.cell
  have hOf := hO2.frozen
  have hBc := hB2.cell
  have hOrc := hOr2.cell
  have HO2 := Lib.hid hO2; have HOr2 := Lib.hid hOr2; have HR62 := Lib.hid hR62; have HR72 := Lib.hid hR72; have HB2 := Lib.hid hB2; clear hO2 hOr2 hR62 hR72 hB2
  clear hc1 hf1
  go_wp2_with fail
  refine (car_tick g d1 held _ _ (HB2.out.far (by dsimp only; omega) _) hg hd).mono ?_
  rintro e w3 ⟨rfl, hB3, hg3⟩
  rw [HCH.out]
  rw [HD2.out] at hB3
  have hO3 := ((HO2.out.set_ 0 _).grown hg3 (by omega))
  have hR63 := ((HR62.out.far (by dsimp only; omega) _).grown hg3 (by omega))
  have hR73 := ((HR72.out.far (by dsimp only; omega) _).grown hg3 (by omega))
  have hT3 := below_grown (hT2.setCell (by show w.heap.size ≤ w1.heap.size; omega) _) hg3 (by simp [World.setCell]; omega) (by omega)
  have hOc3 := hO3.cell
  have hOf3 := hO3.frozen
  have hBc3 := hB3.cell
  have hRc6 := hR63.cell
  have hRf6 := hR63.frozen
  have hRc7 := hR73.cell
  have hRf7 := hR73.frozen
  have HR63 := Lib.hid hR63; have HR73 := Lib.hid hR73; clear hR63 hR73 hO3 hB3
  clear hOc hOf hBc hOrc
  go_wp2_with fail
  go_region_held3 (fun W => W.cell? ⟨w1.heap.size + 1, 0, none⟩ = some (I d2.floor) ∧ W.cell? ⟨w1.heap.size + 1, 1, none⟩ = some (I d2.dir) ∧ W.cell? ⟨w1.heap.size + 1, 2, none⟩ = some (I d2.phase) ∧ W.cell? ⟨w1.heap.size + 1, 3, none⟩ = some (I d2.left) ∧ W.cell? ⟨w1.heap.size + 1, 4, none⟩ = some (I d2.door.phase) ∧ W.cell? ⟨w1.heap.size + 1, 5, none⟩ = some (I d2.door.left) ∧ W.cell? ⟨w1.heap.size + 1, 6, none⟩ = some (I d2.door.held) ∧ W.cell? ⟨w1.heap.size, 0, none⟩ = some (I d1.dir) ∧ W.cell? ⟨w1.heap.size, 1, none⟩ = some (I c.door.phase) ∧ W.cell? ⟨w1.heap.size, 2, none⟩ = some (I c.floor) ∧ W.cell? ⟨w1.heap.size, 3, none⟩ = some (.bool ch)) (go_simp) (first | fail)
  go_wp2
  exact bodyPost_ret (results_cct rfl _ _ 58 64 rfl rfl (c1 := #[I d2.floor, I d2.dir, I d2.phase, I d2.left, I d2.door.phase, I d2.door.left, I d2.door.held]) (c2 := #[I d1.dir, I c.door.phase, I c.floor, .bool ch]) (by exact (((((((((((((HR63.out.far (by dsimp only; omega) _).set_ 0 _).set_ 1 _).set_ 2 _).set_ 3 _).set_ 4 _).set_ 5 _).set_ 6 _).far (by dsimp only; omega) _).far (by dsimp only; omega) _).far (by dsimp only; omega) _).far (by dsimp only; omega) _).drew)) (by exact (((((((((((((HR73.out.far (by dsimp only; omega) _).far (by dsimp only; omega) _).far (by dsimp only; omega) _).far (by dsimp only; omega) _).far (by dsimp only; omega) _).far (by dsimp only; omega) _).far (by dsimp only; omega) _).far (by dsimp only; omega) _).set_ 0 _).set_ 1 _).set_ 2 _).set_ 3 _).drew)) Try.underlying58 rfl (by kernel_rfl) Try.underlying64 rfl (by kernel_rfl)) rfl ⟨rfl, (((((((((((((hT3.setCell (by show w.heap.size ≤ w1.heap.size; omega) _).setCell (by show w.heap.size ≤ w.heap.size + 1 + 1 + 1; omega) _).setCell (by show w.heap.size ≤ w.heap.size + 1 + 1 + 1; omega) _).setCell (by show w.heap.size ≤ w.heap.size + 1 + 1 + 1; omega) _).setCell (by show w.heap.size ≤ w.heap.size + 1 + 1 + 1; omega) _).setCell (by show w.heap.size ≤ w.heap.size + 1 + 1 + 1; omega) _).setCell (by show w.heap.size ≤ w.heap.size + 1 + 1 + 1; omega) _).setCell (by show w.heap.size ≤ w.heap.size + 1 + 1 + 1; omega) _).setCell (by show w.heap.size ≤ w.heap.size + 1 + 1 + 1 + 1; omega) _).setCell (by show w.heap.size ≤ w.heap.size + 1 + 1 + 1 + 1; omega) _).setCell (by show w.heap.size ≤ w.heap.size + 1 + 1 + 1 + 1; omega) _).setCell (by show w.heap.size ≤ w.heap.size + 1 + 1 + 1 + 1; omega) _)).drew⟩

set_option maxRecDepth 100000 in
set_option maxHeartbeats 4000000 in
theorem car_Step_busy (g : Ge) (c : Cr) (cmd : Int) (held : Bool) (w : World) (hg : g.ok = true) (hm : c.may g.floors = true) (hcmd : within cmd 0 3 = true) (hp : (c.phase == 0) = false) (d2 : Cr) (ch : Bool) (hd2 : c.tick g held = d2) (hch : c.tickChime g held = ch) (hd : c.door.may = true) :
    Calls Try.prog 40 #[g.v, c.v, .agg #[I cmd, .bool held, .bool false]] w fun e w' => e = .returned (.tuple #[d2.v, .agg #[I c.dir, I c.door.phase, I c.floor, .bool ch], I 0]) ∧ Below w.heap.size w w' := by
  have HD2 := Lib.hid hd2; have HCH := Lib.hid hch; clear hd2 hch
  have HM : Hid (must (g.ok && c.may g.floors) 180 = 0) := by unfold Hid; rw [hg, hm]; rfl
  go_enter Try.func40, Try.ntmps40
  go_wp2_with fail
  refine (car_check g c _).mono ?_
  rintro e w1 ⟨rfl, hb1⟩
  rw [HM.out]
  obtain ⟨hc1, hf1⟩ := bcell hb1
  have hT := behind (((below3 w _ _ _).alloc (by simp; omega) _).alloc (by simp; omega) _) hb1
  have hR6 : Blk w1 (w.heap.size + 1 + 1 + 1) 58 #[I 0, I 0, I 0, I 0, I 0, I 0, I 0] := ((Blk.new_ _ _ _ _ (by simp)).alloc _).belowAll hb1
  have hR7 : Blk w1 (w.heap.size + 1 + 1 + 1 + 1) 64 #[I 0, I 0, I 0, .bool false] := (Blk.new_ _ _ _ _ (by simp)).belowAll hb1
  have HR6 := Lib.hid hR6; have HR7 := Lib.hid hR7; clear hR6 hR7
  have hzw10 : w.heap.size < w1.heap.size := by have := hb1.size; simp at this; omega
  have hzw11 : w.heap.size + 1 < w1.heap.size := by have := hb1.size; simp at this; omega
  have hzw12 : w.heap.size + 1 + 1 < w1.heap.size := by have := hb1.size; simp at this; omega
  have hzw13 : w.heap.size + 1 + 1 + 1 < w1.heap.size := by have := hb1.size; simp at this; omega
  have hzw14 : w.heap.size + 1 + 1 + 1 + 1 < w1.heap.size := by have := hb1.size; simp at this; omega
  have hn1 : w1.heap.size ≠ w.heap.size + 1 + 1 + 1 := by omega
  have hn2 : w1.heap.size ≠ w.heap.size + 1 + 1 + 1 + 1 := by omega
  have hn3 : w.heap.size + 1 + 1 + 1 ≠ w1.heap.size := by omega
  have hn4 : w.heap.size + 1 + 1 + 1 + 1 ≠ w1.heap.size := by omega
  have hOr : Blk w1 (w.heap.size + 1 + 1) 98 #[I cmd, .bool held, .bool false] := (((Blk.new_ _ _ _ _ (by simp)).alloc _).alloc _).belowAll hb1
  have HOr := Lib.hid hOr; clear hOr
  have hO2 := (Blk.new w1 64 #[I c.dir, I c.door.phase, I c.floor, .bool false]).alloc (.cells (workC g c) 115)
  have hB2 := Blk.new_ (w1.alloc (.cells #[I c.dir, I c.door.phase, I c.floor, .bool false] 64)) 115 (workC g c) (w1.heap.size + 1) (by simp)
  have hR62 := (HR6.out.alloc (.cells #[I c.dir, I c.door.phase, I c.floor, .bool false] 64)).alloc (.cells (workC g c) 115)
  have hR72 := (HR7.out.alloc (.cells #[I c.dir, I c.door.phase, I c.floor, .bool false] 64)).alloc (.cells (workC g c) 115)
  have hT2 := (hT.alloc (by omega) (.cells #[I c.dir, I c.door.phase, I c.floor, .bool false] 64)).alloc (by simp; omega) (.cells (workC g c) 115)
  have HO2 := Lib.hid hO2; have HR62 := Lib.hid hR62; have HR72 := Lib.hid hR72; have HB2 := Lib.hid hB2; clear hO2 hR62 hR72 hB2
  go_wp2_with (go_at_call 54; refine (car_within _ _ _ _).mono ?_; rintro e w' ⟨rfl, rfl⟩)
  refine (car_tick g c held _ _ HB2.out hg hd).mono ?_
  rintro e w3 ⟨rfl, hB3, hg3⟩
  rw [HCH.out]
  rw [HD2.out] at hB3
  have hO3 := (HO2.out.grown hg3 (by omega))
  have hR63 := (HR62.out.grown hg3 (by omega))
  have hR73 := (HR72.out.grown hg3 (by omega))
  have hT3 := below_grown hT2 hg3 (by simp; omega) (by omega)
  have hOc3 := hO3.cell
  have hOf3 := hO3.frozen
  have hBc3 := hB3.cell
  have hRc6 := hR63.cell
  have hRf6 := hR63.frozen
  have hRc7 := hR73.cell
  have hRf7 := hR73.frozen
  have HR63 := Lib.hid hR63; have HR73 := Lib.hid hR73; clear hR63 hR73 hO3 hB3
  clear hc1 hf1
  go_wp2_with fail
  go_region_held3 (fun W => W.cell? ⟨w1.heap.size + 1, 0, none⟩ = some (I d2.floor) ∧ W.cell? ⟨w1.heap.size + 1, 1, none⟩ = some (I d2.dir) ∧ W.cell? ⟨w1.heap.size + 1, 2, none⟩ = some (I d2.phase) ∧ W.cell? ⟨w1.heap.size + 1, 3, none⟩ = some (I d2.left) ∧ W.cell? ⟨w1.heap.size + 1, 4, none⟩ = some (I d2.door.phase) ∧ W.cell? ⟨w1.heap.size + 1, 5, none⟩ = some (I d2.door.left) ∧ W.cell? ⟨w1.heap.size + 1, 6, none⟩ = some (I d2.door.held) ∧ W.cell? ⟨w1.heap.size, 0, none⟩ = some (I c.dir) ∧ W.cell? ⟨w1.heap.size, 1, none⟩ = some (I c.door.phase) ∧ W.cell? ⟨w1.heap.size, 2, none⟩ = some (I c.floor) ∧ W.cell? ⟨w1.heap.size, 3, none⟩ = some (.bool ch)) (go_simp) (first | fail)
  go_wp2
  exact bodyPost_ret (results_cct rfl _ _ 58 64 rfl rfl (c1 := #[I d2.floor, I d2.dir, I d2.phase, I d2.left, I d2.door.phase, I d2.door.left, I d2.door.held]) (c2 := #[I c.dir, I c.door.phase, I c.floor, .bool ch]) (by exact (((((((((((((HR63.out.far (by dsimp only; omega) _).set_ 0 _).set_ 1 _).set_ 2 _).set_ 3 _).set_ 4 _).set_ 5 _).set_ 6 _).far (by dsimp only; omega) _).far (by dsimp only; omega) _).far (by dsimp only; omega) _).far (by dsimp only; omega) _).drew)) (by exact (((((((((((((HR73.out.far (by dsimp only; omega) _).far (by dsimp only; omega) _).far (by dsimp only; omega) _).far (by dsimp only; omega) _).far (by dsimp only; omega) _).far (by dsimp only; omega) _).far (by dsimp only; omega) _).far (by dsimp only; omega) _).set_ 0 _).set_ 1 _).set_ 2 _).set_ 3 _).drew)) Try.underlying58 rfl (by kernel_rfl) Try.underlying64 rfl (by kernel_rfl)) rfl ⟨rfl, (((((((((((((hT3.setCell (by show w.heap.size ≤ w1.heap.size; omega) _).setCell (by show w.heap.size ≤ w.heap.size + 1 + 1 + 1; omega) _).setCell (by show w.heap.size ≤ w.heap.size + 1 + 1 + 1; omega) _).setCell (by show w.heap.size ≤ w.heap.size + 1 + 1 + 1; omega) _).setCell (by show w.heap.size ≤ w.heap.size + 1 + 1 + 1; omega) _).setCell (by show w.heap.size ≤ w.heap.size + 1 + 1 + 1; omega) _).setCell (by show w.heap.size ≤ w.heap.size + 1 + 1 + 1; omega) _).setCell (by show w.heap.size ≤ w.heap.size + 1 + 1 + 1; omega) _).setCell (by show w.heap.size ≤ w.heap.size + 1 + 1 + 1 + 1; omega) _).setCell (by show w.heap.size ≤ w.heap.size + 1 + 1 + 1 + 1; omega) _).setCell (by show w.heap.size ≤ w.heap.size + 1 + 1 + 1 + 1; omega) _).setCell (by show w.heap.size ≤ w.heap.size + 1 + 1 + 1 + 1; omega) _)).drew⟩
end Nw
end Go.Proofs.Ytkipbgjaeapkkaa
