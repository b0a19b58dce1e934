/- What cycle.parts and cycle.within do: contracts. -/
import Derived.Test.YtkipbgjaeapkkaaNwParts2
set_option linter.unusedSimpArgs false
set_option linter.unusedVariables false
namespace Go.Proofs.Ytkipbgjaeapkkaa
open Go.RowKit Go.Shelf
attribute [local go_sem] Oper.semAt_some
namespace Nw

theorem Blk.keep {W W' : World} {g : Nat} {t : TypeId} {cs : Array Value} (h : Blk W g t cs) (k : KeepC W W') : Blk W' g t cs := k.blk h
/-- What cycle.within answers at a plan that may be. -/
def withinV (g : Ge) (p : Pl) (phase : Int) : Value :=
  match (p.parts g).find? (inPart phase) with
  | some x => .tuple #[x.2.v, I (wrap64 (phase - x.1)), I 0]
  | none => .tuple #[(⟨0, 0, 0⟩ : Pt).v, I 0, I 221]

theorem blk_own {β : Type} (B : Nat) (t : TypeId) (f : β → Array Value) : Own (fun s W => Blk W B t (f s)) := fun s X Y row hs hg hrow =>
  (hg.block B hs.lt (fun e' => by obtain ⟨o, ho, hc⟩ := hrow B e'.symm; rw [show X.heap[B]? = _ from hs] at ho; cases ho; cases hc)).trans hs

/-- between two rounds of cycle.within's loop -/
def WithinI (w : World) (phase : Int) (pre : List (Int × Pt)) (W : World) : Prop :=
  ((∀ x ∈ pre, inPart phase x = false) ∧ Blk W (w.heap.size + 1 + 1) 3 #[I phase] ∧ Blk W (w.heap.size + 1 + 1 + 1) 106 #[I 0, I 0, I 0] ∧ Blk W (w.heap.size + 1 + 1 + 1 + 1) 3 #[I 0] ∧ Blk W (w.heap.size + 1 + 1 + 1 + 1 + 1) 38 #[I 0]) ∧ Below w.heap.size w W
/-- where a round of it has left -/
def WithinX (w : World) (phase : Int) (c : Code) (pre : List (Int × Pt)) (W : World) : Prop :=
  (c = .ret ∧ ∃ ini x, pre = ini ++ [x] ∧ (∀ y ∈ ini, inPart phase y = false) ∧ inPart phase x = true ∧ Blk W (w.heap.size + 1 + 1 + 1) 106 #[I x.2.floor, I x.2.dir, I x.2.ticks] ∧ Blk W (w.heap.size + 1 + 1 + 1 + 1) 3 #[I (wrap64 (phase - x.1))] ∧ Blk W (w.heap.size + 1 + 1 + 1 + 1 + 1) 38 #[I 0]) ∧ Below w.heap.size w W

/-- the part, the tick and the errno in their cells -/
theorem three_cells {W : World} {r t e : Nat} {T1 T2 T3 : TypeId} {o1 o2 o3 o4 o5 : Value} (v1 v2 v3 v4 v5 : Value) (hrt : r ≠ t) (hre : r ≠ e) (hte : t ≠ e) (bR : Blk W r T1 #[o1, o2, o3]) (bT : Blk W t T2 #[o4]) (bE : Blk W e T3 #[o5]) :
    Blk (((((W.setCell ⟨r, 0, none⟩ v1).setCell ⟨r, 1, none⟩ v2).setCell ⟨r, 2, none⟩ v3).setCell ⟨t, 0, none⟩ v4).setCell ⟨e, 0, none⟩ v5) r T1 #[v1, v2, v3] ∧
    Blk (((((W.setCell ⟨r, 0, none⟩ v1).setCell ⟨r, 1, none⟩ v2).setCell ⟨r, 2, none⟩ v3).setCell ⟨t, 0, none⟩ v4).setCell ⟨e, 0, none⟩ v5) t T2 #[v4] ∧
    Blk (((((W.setCell ⟨r, 0, none⟩ v1).setCell ⟨r, 1, none⟩ v2).setCell ⟨r, 2, none⟩ v3).setCell ⟨t, 0, none⟩ v4).setCell ⟨e, 0, none⟩ v5) e T3 #[v5] := by
  refine ⟨?_, ?_, ?_⟩
  · exact ((((bR.set_ 0 v1).set_ 1 v2).set_ 2 v3).far (p := ⟨t, 0, none⟩) hrt v4).far (p := ⟨e, 0, none⟩) hre v5
  · exact ((((bT.far (p := ⟨r, 0, none⟩) (Ne.symm hrt) v1).far (p := ⟨r, 1, none⟩) (Ne.symm hrt) v2).far (p := ⟨r, 2, none⟩) (Ne.symm hrt) v3).set_ 0 v4).far (p := ⟨e, 0, none⟩) hte v5
  · exact ((((bE.far (p := ⟨r, 0, none⟩) (Ne.symm hre) v1).far (p := ⟨r, 1, none⟩) (Ne.symm hre) v2).far (p := ⟨r, 2, none⟩) (Ne.symm hre) v3).far (p := ⟨t, 0, none⟩) (Ne.symm hte) v4).set_ 0 v5
theorem keeps_five (W : World) (a b c d e : Addr) (v1 v2 v3 v4 v5 : Value) : KeepsOthers W (((((W.setCell a v1).setCell b v2).setCell c v3).setCell d v4).setCell e v5) :=
  ((((KeepsOthers.setCell W a v1).trans (KeepsOthers.setCell _ b v2)).trans (KeepsOthers.setCell _ c v3)).trans (KeepsOthers.setCell _ d v4)).trans (KeepsOthers.setCell _ e v5)
theorem below_five {w W : World} (h : Below w.heap.size w W) (a b c d e : Addr) (v1 v2 v3 v4 v5 : Value) (ha : w.heap.size ≤ a.block) (hb : w.heap.size ≤ b.block) (hc : w.heap.size ≤ c.block) (hd : w.heap.size ≤ d.block) (he : w.heap.size ≤ e.block) :
    Below w.heap.size w (((((W.setCell a v1).setCell b v2).setCell c v3).setCell d v4).setCell e v5) :=
  ((((h.setCell ha v1).setCell hb v2).setCell hc v3).setCell hd v4).setCell he v5

theorem wrapEq (x : Int) : IntKind.i64.wrap x = wrap64 x := by simp only [IntKind.wrap_i64, wrap64]
theorem within_leaves {w W : World} {phase : Int} {pre : List (Int × Pt)} {x : Int × Pt} (n0 : Nat) (a : Act) (hI : WithinI w phase pre W) (hx : inPart phase x = true) :
    ownPostG n0 KeepC (WithinI w phase) (WithinX w phase) (pre ++ [x]) W Exit.ret a (((((W.setCell { block := w.heap.size + 1 + 1 + 1, off := 0 } (Value.int IntKind.i64 x.2.floor)).setCell { block := w.heap.size + 1 + 1 + 1, off := 1 } (Value.int IntKind.i64 x.2.dir)).setCell { block := w.heap.size + 1 + 1 + 1, off := 2 } (Value.int IntKind.i64 x.2.ticks)).setCell { block := w.heap.size + 1 + 1 + 1 + 1, off := 0 } (Value.int IntKind.i64 (IntKind.i64.wrap (phase - x.1)))).setCell { block := w.heap.size + 1 + 1 + 1 + 1 + 1, off := 0 } (Value.int IntKind.i64 0)).drew := by
  obtain ⟨⟨hp1, bH, bR, bT, bE⟩, hB⟩ := hI
  have h3 := three_cells (Value.int IntKind.i64 x.2.floor) (Value.int IntKind.i64 x.2.dir) (Value.int IntKind.i64 x.2.ticks) (Value.int IntKind.i64 (IntKind.i64.wrap (phase - x.1))) (Value.int IntKind.i64 0) (by omega) (by omega) (by omega) bR bT bE
  have hk := keeps_five W { block := w.heap.size + 1 + 1 + 1, off := 0 } { block := w.heap.size + 1 + 1 + 1, off := 1 } { block := w.heap.size + 1 + 1 + 1, off := 2 } { block := w.heap.size + 1 + 1 + 1 + 1, off := 0 } { block := w.heap.size + 1 + 1 + 1 + 1 + 1, off := 0 } (Value.int IntKind.i64 x.2.floor) (Value.int IntKind.i64 x.2.dir) (Value.int IntKind.i64 x.2.ticks) (Value.int IntKind.i64 (IntKind.i64.wrap (phase - x.1))) (Value.int IntKind.i64 0)
  have hb := below_five hB { block := w.heap.size + 1 + 1 + 1, off := 0 } { block := w.heap.size + 1 + 1 + 1, off := 1 } { block := w.heap.size + 1 + 1 + 1, off := 2 } { block := w.heap.size + 1 + 1 + 1 + 1, off := 0 } { block := w.heap.size + 1 + 1 + 1 + 1 + 1, off := 0 } (Value.int IntKind.i64 x.2.floor) (Value.int IntKind.i64 x.2.dir) (Value.int IntKind.i64 x.2.ticks) (Value.int IntKind.i64 (IntKind.i64.wrap (phase - x.1))) (Value.int IntKind.i64 0) (by dsimp only; omega) (by dsimp only; omega) (by dsimp only; omega) (by dsimp only; omega) (by dsimp only; omega)
  generalize (((((W.setCell { block := w.heap.size + 1 + 1 + 1, off := 0 } (Value.int IntKind.i64 x.2.floor)).setCell { block := w.heap.size + 1 + 1 + 1, off := 1 } (Value.int IntKind.i64 x.2.dir)).setCell { block := w.heap.size + 1 + 1 + 1, off := 2 } (Value.int IntKind.i64 x.2.ticks)).setCell { block := w.heap.size + 1 + 1 + 1 + 1, off := 0 } (Value.int IntKind.i64 (IntKind.i64.wrap (phase - x.1)))).setCell { block := w.heap.size + 1 + 1 + 1 + 1 + 1, off := 0 } (Value.int IntKind.i64 0)) = W5 at h3 hk hb ⊢
  rw [wrapEq] at h3
  exact ⟨(hk.trans (KeepsOthers.drew _)).from _, ⟨rfl, pre, x, rfl, hp1, hx, h3.1.drew, h3.2.1.drew, h3.2.2.drew⟩, hb.drew⟩
end Nw
end Go.Proofs.Ytkipbgjaeapkkaa

namespace Go.Proofs.Ytkipbgjaeapkkaa
open Go.RowKit Go.Shelf
attribute [local go_sem] Oper.semAt_some
namespace Nw

set_option maxHeartbeats 1000000 in
theorem cycle_parts (g : Ge) (p : Pl) (ll : Ll) (w : World) :
    Calls Try.prog 77 #[g.v, p.v ll] w fun e w' => e = .returned (.func (.func 88) #[] #[.pointer (some ⟨w.heap.size + 1, 0, none⟩), .pointer (some ⟨w.heap.size, 0, none⟩)]) ∧ w' = (w.alloc (.cells (geC g) 37)).alloc (.cells (plC p ll) 45) := by
  go_enter Try.func77, Try.ntmps77
  go_wp2
  go_ret
  exact ⟨rfl, rfl⟩

set_option maxRecDepth 100000 in
set_option maxHeartbeats 4000000 in
theorem cycle_within (g : Ge) (p : Pl) (ll : Ll) (phase : Int) (w : World) (hIn : p.In ll w) (hg : g.ok = true) (hp : p.Ok g.floors) :
    Calls Try.prog 53 #[g.v, p.v ll, I phase] w fun e w' => e = .returned (withinV g p phase) ∧ Below w.heap.size w w' := by
  refine (callsIn_wide (n := 5)).1 ?_
  have HIn := Lib.hid hIn; have Hp := Lib.hid hp; have Hg := Lib.hid hg
  clear hIn hp hg
  refine callsIn_of_wp_marks Try.func53 rfl trivial ?_ rfl
  simp only [Try.ntmps53, List.size_toArray, List.length_cons, List.length_nil, Nat.reduceAdd, Nat.reduceSub, Array.replicate_succ, Array.replicate_zero, List.push_toArray, List.append_toArray, List.nil_append, List.cons_append]
  gi_wp2_with fail
  have bG := (((((Blk.new w 37 (geC g)).alloc (.cells (plC p ll) 45)).alloc (.cells #[I phase] 3)).alloc (.cells #[I 0, I 0, I 0] 106)).alloc (.cells #[I 0] 3)).alloc (.cells #[I 0] 38)
  have bP := ((((Blk.new (w.alloc (.cells (geC g) 37)) 45 (plC p ll)).alloc (.cells #[I phase] 3)).alloc (.cells #[I 0, I 0, I 0] 106)).alloc (.cells #[I 0] 3)).alloc (.cells #[I 0] 38)
  have bH := (((Blk.new ((w.alloc (.cells (geC g) 37)).alloc (.cells (plC p ll) 45)) 3 #[I phase]).alloc (.cells #[I 0, I 0, I 0] 106)).alloc (.cells #[I 0] 3)).alloc (.cells #[I 0] 38)
  have bR := ((Blk.new (((w.alloc (.cells (geC g) 37)).alloc (.cells (plC p ll) 45)).alloc (.cells #[I phase] 3)) 106 #[I 0, I 0, I 0]).alloc (.cells #[I 0] 3)).alloc (.cells #[I 0] 38)
  have bT := (Blk.new ((((w.alloc (.cells (geC g) 37)).alloc (.cells (plC p ll) 45)).alloc (.cells #[I phase] 3)).alloc (.cells #[I 0, I 0, I 0] 106)) 3 #[I 0]).alloc (.cells #[I 0] 38)
  have bE := Blk.new (((((w.alloc (.cells (geC g) 37)).alloc (.cells (plC p ll) 45)).alloc (.cells #[I phase] 3)).alloc (.cells #[I 0, I 0, I 0] 106)).alloc (.cells #[I 0] 3)) 38 #[I 0]
  have hB0 := (((((((Below.refl w.heap.size w).alloc (Nat.le_refl _) (.cells (geC g) 37)).alloc (by simp) (.cells (plC p ll) 45)).alloc (by simp; omega) (.cells #[I phase] 3)).alloc (by simp; omega) (.cells #[I 0, I 0, I 0] 106)).alloc (by simp; omega) (.cells #[I 0] 3)).alloc (by simp; omega) (.cells #[I 0] 38))
  simp only [World.size_alloc] at bP bH bR bT bE
  obtain ⟨W0, hW0⟩ : ∃ W0, ((((((w.alloc (.cells (geC g) 37)).alloc (.cells (plC p ll) 45)).alloc (.cells #[I phase] 3)).alloc (.cells #[I 0, I 0, I 0] 106)).alloc (.cells #[I 0] 3)).alloc (.cells #[I 0] 38)) = W0 := ⟨_, rfl⟩
  have hsz : W0.heap.size = w.heap.size + 6 := by rw [← hW0]; simp
  rw [hW0] at bG bP bH bR bT bE hB0 ⊢
  clear hW0
  have cG := bG.cell; have cP := bP.cell; have cH := bH.cell
  gi_wp2_with (refine ⟨trivial, ?_⟩; gi_at_call 51; refine (callsIn_wide.2 (cycle_check g p ll _ (HIn.out.below hB0) Hg.out Hp.out)).mono ?_; rintro e w1 ⟨rfl, hb1⟩; replace bG := bG.belowAll hb1; replace bP := bP.belowAll hb1; replace bH := bH.belowAll hb1; replace bR := bR.belowAll hb1; replace bT := bT.belowAll hb1; replace bE := bE.belowAll hb1; clear cG cP cH; have cG := bG.cell; have cP := bP.cell)
  clear cG cP
  refine ⟨trivial, ?_⟩
  refine (callsIn_wide.2 (cycle_parts g p ll _)).mono ?_
  rintro e w2 ⟨rfl, hw2⟩
  have hb2 : Below w1.heap.size w1 w2 := by rw [hw2]; exact below2 _ _ _
  have bp : Blk w2 (w1.heap.size + 1) 45 (plC p ll) := by rw [hw2]; exact Blk.new_ _ _ _ _ (by simp)
  have bg : Blk w2 w1.heap.size 37 (geC g) := by rw [hw2]; exact (Blk.new _ _ _).alloc _
  have hsz2 : w2.heap.size = w1.heap.size + 2 := by rw [hw2]; simp
  clear hw2
  have hs1 := hb1.size
  have hB2 : Below w.heap.size w w2 := behind (behind hB0 hb1) hb2
  replace bH := bH.belowAll hb2; replace bR := bR.belowAll hb2; replace bT := bT.belowAll hb2; replace bE := bE.belowAll hb2
  clear bG bP
  gi_wp2
  have hs0 := hB0.size
  refine wpIn_rangeFunc_ownH (n := 5) rfl (by omega) (gf := 88) (lb := #[.pointer (some ⟨w1.heap.size + 1, 0, none⟩), .pointer (some ⟨w1.heap.size, 0, none⟩)]) rfl trivial (enters_of Try.func88 (by kernel_rfl) rfl)
    (parts_stops 4 (by omega) (w1.heap.size + 1) w1.heap.size g p ll w2 Hp.out Hg.out bp bg (HIn.out.below hB2)) (fun h k => h.trans k) (fun W l o o' _ hl ho _ => KeepC.putObj hl ho) (Below.refl _ _) (fun _ => rfl)
    (WithinI w phase) (WithinX w phase)
    (OwnFrom.and (Own.from (fun s A B row hs hg hr => ⟨hs.1, blk_own _ _ (fun _ : Unit => _) () A B row hs.2.1 hg hr, blk_own _ _ (fun _ : Unit => _) () A B row hs.2.2.1 hg hr, blk_own _ _ (fun _ : Unit => _) () A B row hs.2.2.2.1 hg hr, blk_own _ _ (fun _ : Unit => _) () A B row hs.2.2.2.2 hg hr⟩) _) (ownFrom_below (Nat.le_refl _) (by omega)))
    (fun c => OwnFrom.and (Own.from (fun s A B row hs hg hr => by
      obtain ⟨hc, ini, x, e1, e2, e3, b1, b2, b3⟩ := hs
      exact ⟨hc, ini, x, e1, e2, e3, blk_own _ _ (fun _ : Unit => _) () A B row b1 hg hr, blk_own _ _ (fun _ : Unit => _) () A B row b2 hg hr, blk_own _ _ (fun _ : Unit => _) () A B row b3 hg hr⟩) _) (ownFrom_below (Nat.le_refl _) (by omega)))
    ⟨⟨by simp, bH, bR, bT, bE⟩, hB2⟩
    (fun x a' W => ∃ Bx, w.heap.size + 1 + 1 + 1 + 1 + 1 < Bx ∧ Blk W Bx 106 #[I x.2.floor, I x.2.dir, I x.2.ticks] ∧ a' = { tmps := #[g.v, p.v ll, I phase, .pointer (some ⟨w.heap.size, 0, none⟩), .pointer (some ⟨w.heap.size + 1, 0, none⟩), .pointer (some ⟨w.heap.size + 1 + 1, 0, none⟩), .pointer (some ⟨w.heap.size + 1 + 1 + 1, 0, none⟩), .pointer (some ⟨w.heap.size + 1 + 1 + 1 + 1, 0, none⟩), .pointer (some ⟨w.heap.size + 1 + 1 + 1 + 1 + 1, 0, none⟩), I 0, I x.1, .pointer (some ⟨Bx, 0, none⟩),
      .agg (geC g), .agg (plC p ll), I 0, I 0, .bool false, undef, undef, .agg (geC g), .agg (plC p ll), .func (.func 88) #[] #[.pointer (some ⟨w1.heap.size + 1, 0, none⟩), .pointer (some ⟨w1.heap.size, 0, none⟩)],
      I x.1, x.2.v, undef, undef, undef, undef, undef, undef, undef, undef, undef, undef, undef, undef, undef, undef, undef, undef], defers := [] })
    (fun x a' _ X Y row hs hg hr => by obtain ⟨Bx, h1, h2, h3⟩ := hs; exact ⟨Bx, h1, blk_own _ _ (fun _ : Unit => _) () X Y row h2 hg (fun r e => (hr r e).2), h3⟩)
    ?assign ?body ?done ?stop
  case assign =>
    rintro l pre x W K ⟨⟨hp1, bH, bR, bT, bE⟩, hB⟩ hK
    gi_wp2
    exact hK _ _ ((KeepsOthers.alloc _ _).from _) (KeepC.of_below (below1 _ _)) ⟨⟨hp1, bH.alloc _, bR.alloc _, bT.alloc _, bE.alloc _⟩, hB.alloc hB.size _⟩ ⟨W.heap.size, bE.lt, Blk.new _ _ _, rfl⟩
  case body =>
    rintro l pre x a' W hl ⟨r, hr⟩ ⟨⟨hp1, bH, bR, bT, bE⟩, hB⟩ ⟨Bx, hBx, bX, rfl⟩ hlt
    have cH := bH.cell; have cX := bX.cell; have cR := bR.cell; have fR := bR.frozen; have cT := bT.cell; have fT := bT.frozen; have cE := bE.cell; have fE := bE.frozen
    cases hd1 : decide (x.1 ≤ phase)
    · gi_wp2
      exact ⟨KeepsFrom.refl _ _, KeepC.refl _, ⟨by
        intro y hy
        rcases List.mem_append.1 hy with h | h
        · exact hp1 y h
        · obtain rfl := List.mem_singleton.1 h; simp [inPart, hd1], bH, bR, bT, bE⟩, hB⟩
    · cases hd2 : decide (phase < wrap64 (x.1 + x.2.ticks))
      · gi_wp2
        exact ⟨KeepsFrom.refl _ _, KeepC.refl _, ⟨by
          intro y hy
          rcases List.mem_append.1 hy with h | h
          · exact hp1 y h
          · obtain rfl := List.mem_singleton.1 h; simp [inPart, hd1, hd2], bH, bR, bT, bE⟩, hB⟩
      · gi_wp2
        have hx : inPart phase x = true := by simp [inPart, hd1, hd2]
        gi_region
        all_goals gi_wp2
        all_goals exact within_leaves (w := w) (W := W) w2.heap.size _ ⟨⟨hp1, bH, bR, bT, bE⟩, hB⟩ hx
  case done =>
    rintro D xs W hD rfl ⟨⟨hp1, bH, bR, bT, bE⟩, hB⟩ hK
    have cR := bR.cell; have fR := bR.frozen; have cT := bT.cell; have fT := bT.frozen; have cE := bE.cell; have fE := bE.frozen
    gi_wp2
    obtain ⟨bR2, bT2, bE2⟩ := three_cells (Value.int IntKind.i64 0) (Value.int IntKind.i64 0) (Value.int IntKind.i64 0) (Value.int IntKind.i64 0) (Value.int IntKind.i64 221) (by omega) (by omega) (by omega) bR bT bE
    have hB3 := below_five hB ⟨w.heap.size + 1 + 1 + 1, 0, none⟩ ⟨w.heap.size + 1 + 1 + 1, 1, none⟩ ⟨w.heap.size + 1 + 1 + 1, 2, none⟩ ⟨w.heap.size + 1 + 1 + 1 + 1, 0, none⟩ ⟨w.heap.size + 1 + 1 + 1 + 1 + 1, 0, none⟩ (Value.int IntKind.i64 0) (Value.int IntKind.i64 0) (Value.int IntKind.i64 0) (Value.int IntKind.i64 0) (Value.int IntKind.i64 221) (by dsimp only; omega) (by dsimp only; omega) (by dsimp only; omega) (by dsimp only; omega) (by dsimp only; omega)
    have hK' := (keeps_five W ⟨w.heap.size + 1 + 1 + 1, 0, none⟩ ⟨w.heap.size + 1 + 1 + 1, 1, none⟩ ⟨w.heap.size + 1 + 1 + 1, 2, none⟩ ⟨w.heap.size + 1 + 1 + 1 + 1, 0, none⟩ ⟨w.heap.size + 1 + 1 + 1 + 1 + 1, 0, none⟩ (Value.int IntKind.i64 0) (Value.int IntKind.i64 0) (Value.int IntKind.i64 0) (Value.int IntKind.i64 0) (Value.int IntKind.i64 221)).same D _ hK rfl
    have hv : withinV g p phase = .tuple #[(⟨0, 0, 0⟩ : Pt).v, I 0, I 221] := by
      unfold withinV
      rw [List.find?_eq_none.2 (fun x hx => by rw [hp1 x hx]; simp)]
    refine ⟨by simp, .inl ⟨_, _, rfl, run_takeDeferred hK', ?_⟩⟩
    rw [hv]
    have kk := KeepC.putObj (o' := .deferred none) hK' rfl
    have cR3 := (kk.blk bR2).cell; have cT3 := (kk.blk bT2).cell; have cE3 := (kk.blk bE2).cell
    refine ⟨.tuple #[(⟨0, 0, 0⟩ : Pt).v, I 0, I 221], ?_, rfl, hB3.trans (belowK_b (w := w) (Nat.le_refl _) _ D _ _ (by omega) hK' rfl rfl)⟩
    simp [results, Try.results53, go_sem, cR3, cT3, cE3]
  case stop =>
    rintro D c pre W hD hpre ⟨⟨rfl, ini, x, rfl, hini, hx, bR, bT, bE⟩, hB⟩ hK
    gi_wp2
    obtain ⟨rest, hrest⟩ := hpre
    have hv : withinV g p phase = .tuple #[x.2.v, I (wrap64 (phase - x.1)), I 0] := by
      unfold withinV
      rw [← hrest, List.append_assoc, List.find?_append, List.find?_eq_none.2 (fun y hy => by rw [hini y hy]; simp)]
      simp [hx]
    refine ⟨by simp, .inl ⟨_, _, rfl, run_takeDeferred hK, ?_⟩⟩
    rw [hv]
    have kk := KeepC.putObj (o' := .deferred none) hK rfl
    have cR3 := (kk.blk bR).cell; have cT3 := (kk.blk bT).cell; have cE3 := (kk.blk bE).cell
    refine ⟨.tuple #[x.2.v, I (wrap64 (phase - x.1)), I 0], ?_, rfl, hB.trans (belowK_b (w := w) (Nat.le_refl _) _ D _ _ (by omega) hK rfl rfl)⟩
    simp [results, Try.results53, go_sem, cR3, cT3, cE3]
end Nw
end Go.Proofs.Ytkipbgjaeapkkaa
