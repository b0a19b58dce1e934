/- The iterator of a round's parts (cycle.parts$1): its walk. -/
import Derived.Test.YtkipbgjaeapkkaaNwScope
import Derived.RegionIn
set_option linter.unusedSimpArgs false
set_option linter.unusedVariables false
namespace Go.Proofs.Ytkipbgjaeapkkaa
open Go.RowKit Go.Shelf
attribute [local go_sem] Oper.semAt_some
namespace Nw

abbrev geC (g : Ge) : Array Value := #[I g.floors, I g.times.travel, I g.times.level, I g.times.opn, I g.times.dwell, I g.times.lead, I g.times.close, I g.times.hold, I g.dwell, I g.most]
abbrev plC (p : Pl) (l : Ll) : Array Value := #[.slice l.a l.n l.c, I p.cars, I p.car]

theorem row_length (p : Pl) (h : 2 ≤ p.stops.length) : p.row.length = 2 * p.stops.length - 2 := by
  unfold Pl.row; simp; omega
theorem place_bd (p : Pl) (f : Int) (h : p.Ok f) : 0 ≤ p.place p.car ∧ p.place p.car < p.row.length := by
  obtain ⟨h2, hc1, hc8, hn0, hn1, -⟩ := h
  have hl := row_length p h2
  have hm0 : 0 ≤ p.car * (2 * (p.stops.length : Int) - 2) := Int.mul_nonneg hn0 (by omega)
  refine ⟨Int.ediv_nonneg hm0 (by omega), ?_⟩
  unfold Pl.place
  rw [hl]
  refine Int.ediv_lt_of_lt_mul (by omega) ?_
  have e : ((2 * p.stops.length - 2 : Nat) : Int) = 2 * (p.stops.length : Int) - 2 := by omega
  rw [e, Int.mul_comm]
  exact Int.mul_lt_mul_of_pos_left hn1 (by omega)

theorem ge_bounds (g : Ge) (h : g.ok = true) : 2 ≤ g.floors ∧ g.floors ≤ 64 ∧ 1 ≤ g.times.travel ∧ g.times.travel ≤ 60 ∧ 4 ≤ g.stop ∧ g.stop ≤ 480 := by
  unfold Ge.ok Tm.ok Tm.six within at h
  simp only [List.all_cons, List.all_nil, Bool.and_true, Bool.and_eq_true, decide_eq_true_eq] at h
  obtain ⟨⟨⟨⟨⟨⟨_, _⟩, ⟨_, _⟩, ⟨_, _⟩, ⟨_, _⟩, ⟨_, _⟩, ⟨_, _⟩⟩, _, _⟩, ⟨_, _⟩⟩, ⟨_, _⟩⟩, _⟩ := h
  have e1 : wrap64 (g.times.level + g.times.opn) = g.times.level + g.times.opn := IntWalk.wrap64_in _ (by omega)
  have e2 : wrap64 (g.times.level + g.times.opn + g.dwell) = g.times.level + g.times.opn + g.dwell := IntWalk.wrap64_in _ (by omega)
  have e3 : wrap64 (g.times.level + g.times.opn + g.dwell + g.times.close) = g.times.level + g.times.opn + g.dwell + g.times.close := IntWalk.wrap64_in _ (by omega)
  unfold Ge.stop
  rw [e1, e2, e3]
  omega
theorem mem_bd {xs : List Int} {b : Int} (h : ∀ k, k < xs.length → 0 ≤ xs[k]?.getD 0 ∧ xs[k]?.getD 0 < b) : ∀ x ∈ xs, 0 ≤ x ∧ x < b := by
  intro x hx
  obtain ⟨k, hk, rfl⟩ := List.getElem_of_mem hx
  have := h k hk
  simpa [hk] using this
theorem row_bd (p : Pl) (f : Int) (h : p.Ok f) (k : Nat) (hk : k < p.row.length) : 0 ≤ p.row[k]?.getD 0 ∧ p.row[k]?.getD 0 < f := by
  have hm := mem_bd (xs := p.stops) (b := f) (fun k hk => ⟨h.lo k hk, h.hi k hk⟩)
  have hr : ∀ x ∈ p.row, 0 ≤ x ∧ x < f := by
    intro x hx
    unfold Pl.row at hx
    rcases List.mem_append.1 hx with hx | hx
    · exact hm x hx
    · exact hm x (List.mem_of_mem_drop (List.mem_of_mem_take (List.mem_reverse.1 hx)))
  rw [List.getElem?_eq_getElem hk]
  exact hr _ (List.getElem_mem hk)

set_option maxRecDepth 100000 in
set_option maxHeartbeats 4000000 in
theorem parts1_in (n : Nat) (hn : 1 ≤ n) (l bp bg : Nat) (g : Ge) (p : Pl) (ll : Ll) (J Jx : List (Int × Pt) → World → Prop) (W : World) (hp : p.Ok g.floors) (hg : g.ok = true)
    (hY : ∀ pre x W1, J pre W1 → pre.length < (partsFrom p.row (p.place p.car).toNat g.stop g.times.travel p.row.length 0 0).length → YieldAt Fence.wide (n - 1) Try.prog l #[I x.1, x.2.v] W1 fun e W' =>
      (e = .returned (.bool true) ∧ J (pre ++ [x]) W' ∧ KeepC W1 W') ∨ (e = .returned (.bool false) ∧ Jx (pre ++ [x]) W'))
    (hJ : ∀ pre W1 W2, J pre W1 → Below W1.heap.size W1 W2 → J pre W2)
    (hBp : Blk W bp 45 (plC p ll)) (hBg : Blk W bg 37 (geC g)) (hIn : p.In ll W) (h0 : J [] W) :
    CallsIn Fence.wide n Try.prog 88 #[.func (.yield l) #[] #[], .pointer (some ⟨bp, 0, none⟩), .pointer (some ⟨bg, 0, none⟩)] W fun e W' => (∃ v, e = .returned v) ∧
      ((∃ xs, xs = partsFrom p.row (p.place p.car).toNat g.stop g.times.travel p.row.length 0 0 ∧ J xs W') ∨ (∃ pre, pre <+: partsFrom p.row (p.place p.car).toNat g.stop g.times.travel p.row.length 0 0 ∧ Jx pre W')) := by
  have hcp := hBp.cell
  have hcg := hBg.cell
  refine callsIn_of_wp Try.func88 rfl trivial ?_ rfl
  simp only [Try.ntmps88, List.size_toArray, List.length_cons, List.length_nil, Nat.reduceAdd, Nat.reduceSub, Array.replicate_succ, Array.replicate_zero, List.push_toArray, List.append_toArray, List.nil_append, List.cons_append]
  have HIn := Lib.hid hIn; have HJ := Lib.hid hJ; have HY := Lib.hid hY; have Hp := Lib.hid hp; have HBp := Lib.hid hBp; have HBg := Lib.hid hBg
  clear hIn hJ hY hp hBp hBg
  obtain ⟨hpl0, hpl1⟩ := place_bd p _ Hp.out
  obtain ⟨f, hf⟩ : ∃ f : Nat, p.place p.car = f := ⟨(p.place p.car).toNat, by omega⟩
  have Hf := Lib.hid hf
  have hlen := row_length p Hp.out.len
  have hm : ∃ m : Nat, p.row.length = m ∧ 2 ≤ m ∧ m ≤ 200000 ∧ f < m := ⟨_, rfl, by have := Hp.out.len; omega, by have := HIn.out.n; have := HIn.out.s.1; omega, by omega⟩
  obtain ⟨m, hm, hm2, hm3, hfm⟩ := hm
  have Hm := Lib.hid hm
  clear hf hpl0 hpl1 hlen hm hcp hcg
  have hcp := HBp.out.cell
  have hcg := HBg.out.cell
  refine nwWpIn_scope ?_
  gi_wp2_with (first | (refine ⟨trivial, ?_⟩; gi_at_call 80; refine (callsIn_wide.2 (cycle_row p ll _ HIn.out Hp.out.len)).mono ?_; rintro e w1 ⟨g1, cap1, rfl, hrow, hb1⟩; rw [Hm.out] at hrow ⊢; have hcp1 := (HBp.out.belowAll hb1).cell; clear hcp hcg) | (refine ⟨trivial, ?_⟩; gi_at_call 81; refine (callsIn_wide.2 (cycle_place p ll p.car _ HIn.out.n HIn.out.s.1 (by have := Hp.out.len; have := HIn.out.s.1; omega) Hp.out.n0 Hp.out.n1 Hp.out.c8)).mono ?_; rw [Hf.out]; rintro e w2 ⟨rfl, hb2⟩))
  refine wpIn_label ?_
  gi_wp2
  have hrow2 := hrow.below hb2
  have hB2 := HBp.out.belowAll hb1
  gi_loopw [6, 19] (fun at_ i wr => ∃ (k : Nat) (pre : List (Int × Pt)) (A : Int), k ≤ m ∧ i = I k ∧ at_ = I A ∧ 0 ≤ A ∧ A ≤ k * 10000 ∧ J pre wr ∧ pre ++ partsFrom p.row f g.stop g.times.travel (m - k) k A = partsFrom p.row f g.stop g.times.travel m 0 0 ∧ KeepC w2 wr) (fun _ i _ => m - (intOf i).toNat)
  case atStart => exact ⟨0, [], 0, by omega, rfl, rfl, by omega, by omega, HJ.out _ _ _ (HJ.out _ _ _ h0 hb1) hb2, rfl, KeepC.refl _⟩
  case round =>
    obtain ⟨k, pre, A, hk, rfl, rfl, hA0, hA1, hJs, hall, hkc⟩ := hrel
    by_cases hlt : k < m
    · obtain ⟨hgf0, hgf1, ht0, ht1, hs0, hs1⟩ := ge_bounds g hg
      obtain ⟨b0, off, hbo, -, hrc⟩ := (hkc.rdI hrow2).2 (by omega)
      obtain ⟨rfl, rfl⟩ : b0 = g1 ∧ off = 0 := by simp at hbo; exact ⟨hbo.1.symm, hbo.2.symm⟩
      have hi0 : (f + k) % m < m := Nat.mod_lt _ (by omega)
      have hi1 : (f + k + 1) % m < m := Nat.mod_lt _ (by omega)
      have hr0 := hrc _ hi0
      have hr1 := hrc _ hi1
      have hd0 := row_bd p _ Hp.out _ (by rw [Hm.out]; exact hi0)
      have hd1 := row_bd p _ Hp.out _ (by rw [Hm.out]; exact hi1)
      obtain ⟨fa, hfa⟩ : ∃ fa, p.row[(f + k) % m]?.getD 0 = fa := ⟨_, rfl⟩
      obtain ⟨fb, hfb⟩ : ∃ fb, p.row[(f + k + 1) % m]?.getD 0 = fb := ⟨_, rfl⟩
      rw [hfa] at hr0 hd0; rw [hfb] at hr1 hd1
      have Hfa := Lib.hid hfa; have Hfb := Lib.hid hfb
      obtain ⟨x, hx⟩ : ∃ x : Nat, (f + k) % m = x := ⟨_, rfl⟩
      obtain ⟨y, hy⟩ : ∃ y : Nat, (f + k + 1) % m = y := ⟨_, rfl⟩
      have hx2 : ((f : Int) + k) % m = x := by rw [← hx]; simp
      have hy2 : ((f : Int) + k + 1) % m = y := by rw [← hy]; simp
      rw [hx] at hi0 hr0; rw [hy] at hi1 hr1
      rw [Nat.zero_add] at hr0 hr1
      have Hx := Lib.hid hx; have Hy := Lib.hid hy
      clear hx hy hfa hfb hrc
      have HP : Hid (partsFrom p.row f g.stop g.times.travel (m - k) k A = (A, ⟨fa, 0, g.stop⟩) :: (rides (sign (fb - fa)) g.times.travel (fb - fa).natAbs fa (A + g.stop) ++ partsFrom p.row f g.stop g.times.travel (m - (k + 1)) (k + 1) (A + g.stop + ((fb - fa).natAbs : Int) * g.times.travel))) := by
        have e1 : rowAt p.row (f + k) = fa := by unfold rowAt; rw [Hm.out, Hx.out, ← Hfa.out, Hx.out]
        have e2 : rowAt p.row (f + k + 1) = fb := by unfold rowAt; rw [Hm.out, Hy.out, ← Hfb.out, Hy.out]
        unfold Hid
        rw [show m - k = (m - (k + 1)) + 1 from by omega, partsFrom, e1, e2]
      have hBg3 := (hkc.blk (KeepC.blk (KeepC.of_below (hb1.trans (hb2.mono (by have := hb1.size; omega)))) HBg.out)).cell
      gi_wp2
      gi_region
      have hJ3 := HJ.out _ _ _ hJs ((Below.refl _ wr).drew)
      have hkc3 := hkc.trans (KeepC.of_below ((Below.refl _ wr).drew))
      replace hBg3 := (hkc3.blk (KeepC.blk (KeepC.of_below (hb1.trans (hb2.mono (by have := hb1.size; omega)))) HBg.out)).cell
      generalize wr.drew = W3 at hJ3 hkc3 hBg3 ⊢
      clear hr0 hr1 hJs hkc
      gi_wp2_with (refine ⟨trivial, ?_⟩; gi_at_call 76; refine (callsIn_wide.2 (cycle_stop g _)).mono ?_; rintro e w4 ⟨rfl, hb4⟩; have hJ4 := HJ.out _ _ _ hJ3 hb4; have hkc4 := hkc3.trans (KeepC.of_below hb4); clear hJ3 hkc3 hBg3; obtain ⟨fn, tmps, assign, body, hy, hR⟩ := HY.out pre (A, ⟨fa, 0, g.stop⟩) w4 hJ4 (by rw [Hm.out, Hf.out, Int.toNat_natCast, ← hall, HP.out]; simp))
      refine hR.mono ?_
      rintro e W5 (⟨rfl, hJ5, hk5⟩ | ⟨rfl, hJx5⟩)
      · replace hkc4 := hkc4.trans hk5
        have hBg5 := (hkc4.blk (KeepC.blk (KeepC.of_below (hb1.trans (hb2.mono (by have := hb1.size; omega)))) HBg.out)).cell
        clear hR hy hk5
        have hsg : sign (fb - fa) = 1 ∧ fa ≤ fb ∨ sign (fb - fa) = -1 ∧ fb ≤ fa := by unfold sign; split <;> omega
        have Hsg := Lib.hid hsg
        obtain ⟨dir, hdir⟩ : ∃ dir, sign (fb - fa) = dir := ⟨_, rfl⟩
        have hdb : -1 ≤ dir ∧ dir ≤ 1 := by rw [← hdir]; rcases hsg with h | h <;> omega
        have Hdir := Lib.hid hdir
        clear hsg hdir
        gi_wp2_with (first | (refine ⟨trivial, ?_⟩; gi_at_call 76; refine (callsIn_wide.2 (cycle_stop g _)).mono ?_; rintro e w6 ⟨rfl, hb6⟩; have hJ6 := HJ.out _ _ _ hJ5 hb6; have hkc6 := hkc4.trans (KeepC.of_below hb6); clear hJ5 hkc4 hBg5) | (refine ⟨trivial, ?_⟩; gi_at_call 89; refine (callsIn_wide.2 (cycle_sign (fb - fa) _)).mono ?_; rw [Hdir.out]; rintro e w7 ⟨rfl, rfl⟩))
        obtain ⟨T, hT⟩ : ∃ T, A + g.stop + ((fb - fa).natAbs : Int) * g.times.travel = T := ⟨_, rfl⟩
        have hT2 : T ≤ (k + 1) * 10000 := by
          have h1 : ((fb - fa).natAbs : Int) * g.times.travel ≤ 64 * 60 := Int.mul_le_mul (by omega) ht1 (by omega) (by omega)
          omega
        have hT0 : 0 ≤ T := by
          have h1 : 0 ≤ ((fb - fa).natAbs : Int) * g.times.travel := Int.mul_nonneg (by omega) (by omega)
          omega
        have Hall : Hid ((pre ++ [(A, ⟨fa, 0, g.stop⟩)]) ++ (rides dir g.times.travel (fb - fa).natAbs fa (A + g.stop) ++ partsFrom p.row f g.stop g.times.travel (m - (k + 1)) (k + 1) T) = partsFrom p.row f g.stop g.times.travel m 0 0) := by
          unfold Hid
          rw [← hall, HP.out, Hdir.out, hT]
          simp
        gi_loopw [6, 8] (fun at_ fl wr2 => ∃ (r : Nat) (c A2 : Int) (pre2 : List (Int × Pt)), at_ = I A2 ∧ fl = I c ∧ (dir = 1 ∧ fb - c = r ∨ dir = -1 ∧ c - fb = r) ∧ (0 ≤ c ∧ c < 64) ∧ 0 ≤ A2 ∧ A2 + r * g.times.travel = T ∧ J pre2 wr2 ∧ KeepC w2 wr2 ∧ pre2 ++ (rides dir g.times.travel r c A2 ++ partsFrom p.row f g.stop g.times.travel (m - (k + 1)) (k + 1) T) = partsFrom p.row f g.stop g.times.travel m 0 0) (fun _ fl _ => (fb - intOf fl).natAbs)
        case atStart => exact ⟨(fb - fa).natAbs, fa, A + g.stop, _, rfl, rfl, (by have := Hsg.out; rw [Hdir.out] at this; omega), by omega, by omega, hT, hJ6, hkc6, Hall.out⟩
        case round =>
          obtain ⟨r, c, A2, pre2, rfl, rfl, hrc, hc64, hA20, hA2, hJ7, hkc7, hall7⟩ := hrel
          have hA3 : A2 ≤ 3000000000 := by
            have h1 : 0 ≤ (r : Int) * g.times.travel := Int.mul_nonneg (by omega) (by omega)
            omega
          cases r with
          | zero =>
            obtain rfl : c = fb := by omega
            gi_wp2
            go_roundw
            case rel =>
              have hAT : A2 = T := by simpa using hA2
              refine ⟨k + 1, pre2, A2, by omega, by go_num, rfl, hA20, by rw [hAT]; exact hT2, hJ7, ?_, hkc7⟩
              rw [hAT]
              simpa [rides] using hall7
            case measure => simp [intOf]; omega
          | succ r =>
            have hne : (c == fb) = false := beq_eq_false_iff_ne.2 (by omega)
            have hbd : 0 ≤ c + dir ∧ c + dir < 64 := by omega
            have hBg7 := (hkc7.blk (KeepC.blk (KeepC.of_below (hb1.trans (hb2.mono (by have := hb1.size; omega)))) HBg.out)).cell
            have hbg1 : wr.cell? ⟨bg, 1, none⟩ = some (I g.times.travel) := hBg7 1
            clear hBg7
            obtain ⟨fn, tmps, assign, body, hy, hR⟩ := HY.out pre2 (A2, ⟨c, dir, g.times.travel⟩) wr hJ7 (by rw [Hm.out, Hf.out, Int.toNat_natCast, ← hall7]; simp [rides])
            have Hrc := Lib.hid hrc; have HA2 := Lib.hid hA2; have Hall7 := Lib.hid hall7
            clear hrc hA2 hall7
            gi_wp2
            refine hR.mono ?_
            rintro e W8 (⟨rfl, hJ8, hk8⟩ | ⟨rfl, hJx8⟩)
            · have hbg8 := hk8.cell hbg1
              clear hR hy
              gi_wp2
              go_roundw
              case rel =>
                refine ⟨r, c + dir, A2 + g.times.travel, _, by go_num, by go_num, (by have := Hrc.out; omega), hbd, by omega, ?_, hJ8, hkc7.trans hk8, ?_⟩
                · have := HA2.out
                  rw [← this]; push_cast; rw [Int.add_mul]; omega
                · rw [← Hall7.out]; simp [rides]
              case measure => have := Hrc.out; simp [intOf]; omega
            · gi_wp2
              rw [Exit.noGoto_normal]
              go_end0
              refine ⟨⟨_, rfl⟩, .inr ⟨_, ?_, hJx8⟩⟩
              rw [Hm.out, Hf.out, Int.toNat_natCast, ← Hall7.out]
              exact ⟨_, by simp [rides]; rfl⟩
      · gi_wp2
        rw [Exit.noGoto_normal]
        go_end0
        refine ⟨⟨_, rfl⟩, .inr ⟨_, ?_, hJx5⟩⟩
        rw [Hm.out, Hf.out, Int.toNat_natCast, ← hall, HP.out]
        exact ⟨_, by simp; rfl⟩
    · obtain rfl : k = m := by omega
      gi_wp2
      rw [Exit.noGoto_normal]
      go_end0
      refine ⟨⟨_, rfl⟩, .inl ⟨pre, ?_, hJs⟩⟩
      rw [Hm.out, Hf.out, Int.toNat_natCast]
      simpa [partsFrom] using hall

theorem grownBy_of_below {W W' : World} (h : Below W.heap.size W W') : W.grownBy W' none := ⟨h.os, h.tape, h.output, h.size, fun k hk _ => h.block k hk⟩

theorem parts_stops (n : Nat) (hn : 1 ≤ n) (bp bg : Nat) (g : Ge) (p : Pl) (ll : Ll) (w : World) (hp : p.Ok g.floors) (hg : g.ok = true)
    (hBp : Blk w bp 45 (plC p ll)) (hBg : Blk w bg 37 (geC g)) (hIn : p.In ll w) :
    SeqStopsK Fence.wide n Try.prog 88 #[.pointer (some ⟨bp, 0, none⟩), .pointer (some ⟨bg, 0, none⟩)] (fun x : Int × Pt => #[I x.1, x.2.v]) KeepC (fun xs => xs = p.parts g) (fun pre => pre <+: p.parts g) (p.parts g).length w := fun l J Jx W hW hJ _ hY h0 =>
  parts1_in n hn l bp bg g p ll J Jx W hp hg hY (fun pre W1 W2 h hb => hJ pre W1 W2 none h (grownBy_of_below hb) (by simp)) (hBp.belowAll hW) (hBg.belowAll hW) (hIn.below hW) h0
end Nw
end Go.Proofs.Ytkipbgjaeapkkaa
