/- What auto.Step does: a contract. -/
import Derived.Test.YtkipbgjaeapkkaaNwStep
import Derived.Deep.RegionHeld3
set_option linter.unusedSimpArgs false
set_option linter.unusedVariables false
namespace Go.Proofs.Ytkipbgjaeapkkaa
open Go.RowKit
namespace Nw

theorem ld_exec {P : Program} {W : World} {ty : TypeId} {a : Act} {x : Operand} (h : Ld P W ty (a.eval x)) {dst : Option Tmp} {t : TypeId} {pos : String} {after : Array Edge} {g : Option (Nat × Bool)} :
    (execOp a.eval { dst := dst, op := .load ty x, type := t, pos := pos, after := after, guard := g }).run P W = .ok (.value (ldV P W ty (a.eval x))) W := by
  obtain ⟨ad, u, e, hr⟩ := h
  unfold execOp
  simp only [e, Instr.loadAt, Instr.sureAddr, Sem.run_bind, Sem.run_pure, Result.andThen_ok, hr, ldV]

end Nw
attribute [local go_sem ↓] Nw.ld_rule Nw.eq_rule Nw.ld_exec
namespace Nw

abbrev To.v (t : To) : Value := .agg #[.bool t.key, .bool t.held, .bool t.fault]
abbrev toC (t : To) : Array Value := #[.bool t.key, .bool t.held, .bool t.fault]
abbrev ouZ : Array Value := #[I 0, I 0, I 0, .bool false]

set_option maxRecDepth 100000 in
set_option maxHeartbeats 2000000 in
theorem auto_Step_bad (a : Au) (l : Cl) (t : To) (w : World) (hIn : a.c.In l w) (hk : (a.check != 0) = true) :
    Calls Try.prog 21 #[a.v l, t.v] w fun e w' => e = .returned (.tuple #[Cr.zero.v, Ou.zero.v, I a.check]) ∧ Below w.heap.size w w' := by
  have HIn := Lib.hid hIn; clear hIn
  have hB := (((Blk.new w 60 (auC a l)).alloc (.cells (toC t) 62)).alloc (.cells crZ 58)).alloc (.cells ouZ 64)
  have HB := Lib.hid hB
  have HT : Hid (Below w.heap.size w ((((w.alloc (.cells (auC a l) 60)).alloc (.cells (toC t) 62)).alloc (.cells crZ 58)).alloc (.cells ouZ 64))) := (below3 _ _ _ _).alloc (by simp; omega) _
  obtain ⟨hl1, hl2⟩ := ld_au hB
  clear hB
  go_enter Try.func21, Try.ntmps21
  go_wp2_with fail
  refine (auto_check a l _ (HIn.out.below HT.out)).mono ?_
  rintro e w1 ⟨rfl, hb1⟩
  have hR1 : Blk w1 (w.heap.size + 1 + 1) 58 crZ := ((Blk.new_ _ _ _ _ (by simp)).alloc _).belowAll hb1
  have hO1 : Blk w1 (w.heap.size + 1 + 1 + 1) 64 ouZ := (Blk.new_ _ _ _ _ (by simp)).belowAll hb1
  have hT1 := HT.out.trans (hb1.mono HT.out.size)
  have hne1 : w.heap.size + 1 + 1 ≠ w.heap.size + 1 + 1 + 1 := by omega
  have hne2 : w.heap.size + 1 + 1 + 1 ≠ w.heap.size + 1 + 1 := by omega
  clear hl1 hl2 hb1
  have hRc := hR1.cell; have hRf := hR1.frozen; have hOc := hO1.cell; have hOf := hO1.frozen
  go_wp2
  exact bodyPost_ret (results_cct rfl _ _ 58 64 rfl rfl (c1 := crZ) (c2 := ouZ) (by apply Blk.conv; (case h => repeat (first | with_reducible exact hR1 | with_reducible apply Blk.set_ | with_reducible apply Blk.far_ hne1)); (case e => simp)) (by apply Blk.conv; (case h => repeat (first | with_reducible exact hO1 | with_reducible apply Blk.set_ | with_reducible apply Blk.far_ hne2)); (case e => simp)) Try.underlying58 rfl (by kernel_rfl) Try.underlying64 rfl (by kernel_rfl)) rfl ⟨rfl, by repeat (first | with_reducible exact hT1 | with_reducible refine Below.setCell ?_ (by dsimp only; omega) _)⟩

set_option maxRecDepth 100000 in
set_option maxHeartbeats 4000000 in
theorem auto_Step_ok (a : Au) (l : Cl) (t : To) (w : World) (hIn : a.c.In l w) (hk0 : a.check = 0) :
    Calls Try.prog 21 #[a.v l, t.v] w fun e w' => e = .returned (.tuple #[(a.step t).v, (a.shows t).v, I 0]) ∧ Below w.heap.size w w' := by
  have HIn := Lib.hid hIn; clear hIn
  obtain ⟨hc, ⟨hm1, hm5⟩, ⟨hn0, hn1⟩, hage, hmay⟩ := Au.check_parts hk0
  have HK := Lib.hid hk0
  have HC := Lib.hid hc
  have HM : Hid (within a.mode 0 5 = true) := within_iff.2 ⟨by omega, hm5⟩
  have HN0 := Lib.hid hn0; have HN1 := Lib.hid hn1
  have hok := moves_ok hc (mode := a.mode) hn0 hn1
  have HMM : Hid (a.c.moves a.mode a.nth = a.moves) := rfl
  rw [HMM.out] at hok
  have HST : Hid (a.step t = a.car.step a.moves.g ⟨a.told a.moves t.key, t.held, t.fault⟩ ∧ a.shows t = a.car.shows a.moves.g ⟨a.told a.moves t.key, t.held, t.fault⟩) := ⟨rfl, rfl⟩
  have hgok : a.moves.g.ok = true := Cf.gear_ok hc a.mode
  have hgf : a.moves.g.floors = a.c.floors := rfl
  rw [← hgf] at hmay
  rw [HST.out.1, HST.out.2]
  clear HST
  generalize a.moves = M at hok HMM hgok hmay ⊢
  have hcw := told_within a M t.key
  generalize hcm : a.told M t.key = cm at hcw ⊢
  generalize hs1 : a.car.step M.g ⟨cm, t.held, t.fault⟩ = d
  generalize hs2 : a.car.shows M.g ⟨cm, t.held, t.fault⟩ = o
  have HCM := Lib.hid hcm; have HS1 := Lib.hid hs1; have HS2 := Lib.hid hs2
  have HOk := Lib.hid hok; have HG := Lib.hid hgok; have HMay := Lib.hid hmay; have HCW := Lib.hid hcw
  clear hk0 hc hm1 hm5 hn0 hn1 hage hmay hok hgok hgf hcm hs1 hs2 hcw
  have hB := (((Blk.new w 60 (auC a l)).alloc (.cells (toC t) 62)).alloc (.cells crZ 58)).alloc (.cells ouZ 64)
  have HB := Lib.hid hB
  have HT : Hid (Below w.heap.size w ((((w.alloc (.cells (auC a l) 60)).alloc (.cells (toC t) 62)).alloc (.cells crZ 58)).alloc (.cells ouZ 64))) := (below3 _ _ _ _).alloc (by simp; omega) _
  obtain ⟨hl1, hl2⟩ := ld_au hB
  clear hB
  go_enter Try.func21, Try.ntmps21
  go_wp2_with fail
  refine (auto_check a l _ (HIn.out.below HT.out)).mono ?_
  rw [HK.out]
  rintro e w1 ⟨rfl, hb1⟩
  have hA1 := HB.out.belowAll hb1
  have hU1 : Blk w1 (w.heap.size + 1) 62 (toC t) := (((Blk.new_ _ _ _ _ (by simp)).alloc _).alloc _).belowAll hb1
  have hR1 : Blk w1 (w.heap.size + 1 + 1) 58 crZ := ((Blk.new_ _ _ _ _ (by simp)).alloc _).belowAll hb1
  have hO1 : Blk w1 (w.heap.size + 1 + 1 + 1) 64 ouZ := (Blk.new_ _ _ _ _ (by simp)).belowAll hb1
  have hT1 := HT.out.trans (hb1.mono HT.out.size)
  have hne1 : w.heap.size + 1 + 1 ≠ w.heap.size + 1 + 1 + 1 := by omega
  have hne2 : w.heap.size + 1 + 1 + 1 ≠ w.heap.size + 1 + 1 := by omega
  clear hl1 hl2 hb1
  obtain ⟨hl3, hl4⟩ := ld_au_cf hA1
  obtain ⟨hm1, hn1⟩ := au_cells hA1
  go_wp2_with fail
  refine (auto_of a.c l a.mode a.nth _ (HIn.out.below hT1) HC.out HM.out HN0.out HN1.out).mono ?_
  rw [HMM.out]
  rintro e w2 ⟨ll, rfl, hmi, hma, hb2⟩
  have hA2 := (hA1.belowAll hb2).alloc (.cells (mvC M ll) 84)
  have hU2 := (hU1.belowAll hb2).alloc (.cells (mvC M ll) 84)
  have hR2 := (hR1.belowAll hb2).alloc (.cells (mvC M ll) 84)
  have hO2 := (hO1.belowAll hb2).alloc (.cells (mvC M ll) 84)
  have hM2 := Blk.new w2 84 (mvC M ll)
  have hT2 := (behind hT1 hb2).alloc (behind hT1 hb2).size (.cells (mvC M ll) 84)
  have hI2 := hmi.alloc (.cells (mvC M ll) 84)
  have hlt := (hO1.belowAll hb2).lt
  clear hl3 hl4 hm1 hn1 hA1 hU1 hR1 hO1 hT1 hmi hma hb2
  go_wp2_with fail
  have hSall : ∀ W : World, Blk W w.heap.size 60 (auC a l) → Blk W w2.heap.size 84 (mvC M ll) → Blk W (w.heap.size + 1) 62 (toC t) → (fun W => Ld Try.prog W 37 (.pointer (some ⟨w2.heap.size, 3, none⟩)) ∧ ldV Try.prog W 37 (.pointer (some ⟨w2.heap.size, 3, none⟩)) = M.g.v ∧ Ld Try.prog W 58 (.pointer (some ⟨w.heap.size, 40, none⟩)) ∧ ldV Try.prog W 58 (.pointer (some ⟨w.heap.size, 40, none⟩)) = a.car.v ∧ Ld Try.prog W 60 (.pointer (some ⟨w.heap.size, 0, none⟩)) ∧ ldV Try.prog W 60 (.pointer (some ⟨w.heap.size, 0, none⟩)) = a.v l ∧ Ld Try.prog W 84 (.pointer (some ⟨w2.heap.size, 0, none⟩)) ∧ ldV Try.prog W 84 (.pointer (some ⟨w2.heap.size, 0, none⟩)) = M.v ll ∧ W.cell? ⟨w.heap.size + 1, 0, none⟩ = some (.bool t.key) ∧ W.cell? ⟨w.heap.size + 1, 1, none⟩ = some (.bool t.held) ∧ W.cell? ⟨w.heap.size + 1, 2, none⟩ = some (.bool t.fault)) W := fun W h1 h2 h3 =>
    ⟨(ld_mv_ge h2).1, (ld_mv_ge h2).2, (ld_au_cr h1).1, (ld_au_cr h1).2, (ld_au h1).1, (ld_au h1).2, (ld_mv h2).1, (ld_mv h2).2, h3.cell 0, h3.cell 1, h3.cell 2⟩
  have hn1 : w.heap.size ≠ w.heap.size + 1 + 1 := by omega
  have hn2 : w.heap.size ≠ w.heap.size + 1 + 1 + 1 := by omega
  have hn3 : w.heap.size + 1 ≠ w.heap.size + 1 + 1 := by omega
  have hn4 : w.heap.size + 1 ≠ w.heap.size + 1 + 1 + 1 := by omega
  have hn5 : w2.heap.size ≠ w.heap.size + 1 + 1 := by omega
  have hn6 : w2.heap.size ≠ w.heap.size + 1 + 1 + 1 := by omega
  have hA2d := hA2.drew; have hM2d := hM2.drew; have hU2d := hU2.drew; have hI2d := hI2.below ((Below.refl _ _).drew)
  go_region_held3 (fun W => Ld Try.prog W 37 (.pointer (some ⟨w2.heap.size, 3, none⟩)) ∧ ldV Try.prog W 37 (.pointer (some ⟨w2.heap.size, 3, none⟩)) = M.g.v ∧ Ld Try.prog W 58 (.pointer (some ⟨w.heap.size, 40, none⟩)) ∧ ldV Try.prog W 58 (.pointer (some ⟨w.heap.size, 40, none⟩)) = a.car.v ∧ Ld Try.prog W 60 (.pointer (some ⟨w.heap.size, 0, none⟩)) ∧ ldV Try.prog W 60 (.pointer (some ⟨w.heap.size, 0, none⟩)) = a.v l ∧ Ld Try.prog W 84 (.pointer (some ⟨w2.heap.size, 0, none⟩)) ∧ ldV Try.prog W 84 (.pointer (some ⟨w2.heap.size, 0, none⟩)) = M.v ll ∧ W.cell? ⟨w.heap.size + 1, 0, none⟩ = some (.bool t.key) ∧ W.cell? ⟨w.heap.size + 1, 1, none⟩ = some (.bool t.held) ∧ W.cell? ⟨w.heap.size + 1, 2, none⟩ = some (.bool t.fault)) (refine hSall _ ?_ ?_ ?_ <;> (repeat (first | with_reducible assumption | with_reducible apply Blk.far_ hn1 | with_reducible apply Blk.far_ hn2 | with_reducible apply Blk.far_ hn3 | with_reducible apply Blk.far_ hn4 | with_reducible apply Blk.far_ hn5 | with_reducible apply Blk.far_ hn6))) (first
    | (go_at_call 41; refine (auto_told a l M ll t.key _ HC.out hI2d HOk.out).mono ?_; rw [HCM.out]; rintro e w3 ⟨rfl, hb3⟩; have hA3 := hA2d.belowAll hb3; have hM3 := hM2d.belowAll hb3; have hU3 := hU2d.belowAll hb3; have hR3 := hR2.drew.belowAll hb3; have hO3 := hO2.drew.belowAll hb3; have hT3 := behind hT2.drew hb3)
    | (go_at_call 40; refine (car_Step M.g a.car ⟨cm, t.held, t.fault⟩ _ HG.out HMay.out HCW.out).mono ?_; rw [HS1.out, HS2.out]; rintro e w4 ⟨rfl, hb4⟩; have hA4 := hA3.belowAll hb4; have hM4 := hM3.belowAll hb4; have hU4 := hU3.belowAll hb4; have hR4 := hR3.belowAll hb4; have hO4 := hO3.belowAll hb4; have hT4 := behind hT3 hb4; have hRc := hR4.cell; have hRf := hR4.frozen; have hOc := hO4.cell; have hOf := hO4.frozen))
  all_goals go_wp2
  all_goals exact bodyPost_ret (results_cct rfl _ _ 58 64 rfl rfl (c1 := crC d) (c2 := #[I o.motor, I o.door, I o.floor, .bool o.chime]) (by apply Blk.conv; (case h => repeat (first | with_reducible exact hR4 | with_reducible apply Blk.set_ | with_reducible apply Blk.far_ hne1)); (case e => simp)) (by apply Blk.conv; (case h => repeat (first | with_reducible exact hO4 | with_reducible apply Blk.set_ | with_reducible apply Blk.far_ hne2)); (case e => simp)) Try.underlying58 rfl (by kernel_rfl) Try.underlying64 rfl (by kernel_rfl)) rfl ⟨rfl, by repeat (first | with_reducible exact hT4 | with_reducible refine Below.setCell ?_ (by dsimp only; omega) _)⟩

theorem auto_Step (a : Au) (l : Cl) (t : To) (w : World) (hIn : a.c.In l w) :
    Calls Try.prog 21 #[a.v l, t.v] w fun e w' => e = .returned (.tuple #[(bif a.check != 0 then Cr.zero else a.step t).v, (bif a.check != 0 then Ou.zero else a.shows t).v, I a.check]) ∧ Below w.heap.size w w' := by
  cases h : (a.check != 0)
  · have h0 : a.check = 0 := by simpa using h
    rw [h0]
    exact auto_Step_ok a l t w hIn h0
  · exact auto_Step_bad a l t w hIn h
end Nw
end Go.Proofs.Ytkipbgjaeapkkaa
