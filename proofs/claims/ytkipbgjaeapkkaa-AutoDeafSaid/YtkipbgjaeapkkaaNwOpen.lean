/- The arguments of the laws of layer 23, opened to cells. (Printed by wip/mkopen.py.) -/
import Derived.Test.YtkipbgjaeapkkaaNwLaw
import Derived.Deep.Slices
import Derived.OpenShut
import Derived.ChangeArms
set_option linter.unusedSimpArgs false
set_option linter.unusedVariables false
namespace Go.Proofs.Ytkipbgjaeapkkaa
open Go.RowKit Go.ChangeShapes Go.WideShapes
namespace Nw

section
variable {H : Type} {enc : TypeId × Value → H} {w : World} {sp : Nat → Bool} {held : Bool}
theorem fld {P : Program} {n : Nat} {cs : List Value} {xs : List (DataW H × List MemPlace)} {f : Field} (T k off : Nat) {i : Nat} (h : DataW.trod enc P w 0 sp held n f.type ((cs.drop f.offset).take (P.cellsOf f.type)) = xs[i]?) (hT : f.type = T) (ho : f.offset = off) (hk : P.cellsOf T = k) (hi : i < xs.length) :
    ∃ y, DataW.trod enc P w 0 sp held n T ((cs.drop off).take k) = some y := by
  subst hT ho hk
  exact ⟨_, h.trans (List.getElem?_eq_getElem hi)⟩
theorem aelt {P : Program} {n : Nat} {cs : List Value} {xs : List (DataW H × List MemPlace)} {T i : Nat} (h : DataW.trod enc P w 0 sp held n T ((cs.drop (i * P.cellsOf T)).take (P.cellsOf T)) = xs[i]?) (hk : P.cellsOf T = 1) (hi : i < xs.length) :
    ∃ y, DataW.trod enc P w 0 sp held n T ((cs.drop i).take 1) = some y := by
  rw [hk, Nat.mul_one] at h
  exact ⟨_, h.trans (List.getElem?_eq_getElem hi)⟩
theorem leafI {n : Nat} {v : Value} {y : DataW H × List MemPlace} (h : DataW.trod enc Try.prog w 0 sp held n 3 [v] = some y) : ∃ z, v = I z := by
  obtain ⟨z, e, -, -⟩ := DataW.trod_int Try.underlying3 h
  exact ⟨z, by simpa using e⟩
theorem leafB {n : Nat} {v : Value} {y : DataW H × List MemPlace} (h : DataW.trod enc Try.prog w 0 sp held n 4 [v] = some y) : ∃ b, v = .bool b := by
  obtain ⟨b, e, -⟩ := DataW.trod_bool Try.underlying4 h
  exact ⟨b, by simpa using e⟩
def intAt (w : World) (a : Addr) (i : Nat) : Int := match w.cell? (a.add i) with | some (.int .i64 z) => z | _ => 0
theorem add_add_ (a : Addr) (i j : Nat) : (a.add i).add j = a.add (i + j) := by
  unfold Addr.add
  cases a
  simp only
  split <;> (split <;> simp_all <;> omega)
theorem leafIs {n : Nat} {v : Value} {y : DataW H × List MemPlace} (h : DataW.trod enc Try.prog w 0 sp held n 22 [v] = some y) :
    ∃ (a : Option Addr) (len cap : Nat) (xs : List Int), v = .slice a len cap ∧ RdI w a len xs ∧ (a = none → len = 0 ∧ cap = 0) := by
  have hC : Try.prog.cellsOf 3 = 1 := by kernel_rfl
  rcases Go.Deep.open_slice Try.underlying22 h with ⟨e, -⟩ | ⟨a, len, cap, m, k, D, Pl, e, hb, hl, hm, hmm, hx, hi⟩
  · exact ⟨none, 0, 0, [], by simpa using e, RdI.nil _ _, fun _ => ⟨rfl, rfl⟩⟩
  · have hlm : len ≤ m := by rw [hmm]; split <;> omega
    have hcell : ∀ i, i < len → w.cell? (a.add i) = some (I (intAt w a i)) := by
      intro i hlt
      obtain ⟨cs', h1, h2⟩ := hi i (by omega)
      rw [hC, Nat.mul_one] at h1
      obtain ⟨-, hcl, hat⟩ := World.cells?_some h1
      obtain ⟨z, e', -, -⟩ := DataW.trod_int Try.underlying3 h2
      have h0 := hat 0 (by omega)
      rw [e', add_add_, Nat.add_zero] at h0
      unfold intAt
      rw [h0]
      rfl
    refine ⟨some a, len, cap, (List.range len).map (intAt w a), by simpa using e, ⟨by simp, fun hn => ?_⟩, fun h => by cases h⟩
    obtain ⟨b, off, s⟩ := a
    have h0 := hcell 0 hn
    have hsp : s = none := by
      have := World.cell?_spot h0
      unfold Addr.add at this
      cases s
      · rfl
      · simp at this
    subst hsp
    have hadd : ∀ i, (⟨b, off, none⟩ : Addr).add i = ⟨b, off + i, none⟩ := fun i => by unfold Addr.add; split <;> simp_all
    refine ⟨b, off, rfl, ?_, fun k hk => ?_⟩
    · have := block_lt_of_cell h0
      rw [hadd] at this
      exact this
    · rw [← hadd, hcell k hk]
      simp [hk]

theorem open_win {n : Nat} {cs : List Value} {y : DataW H × List MemPlace} (h : DataW.trod enc Try.prog w 0 sp held n 90 cs = some y) : ∃ x : Wn, cs = winC x := by
  have hlen : cs.length = 7 := by
    obtain ⟨_, _, _, _, hl, _⟩ := DataW.trod_struct Try.underlying90 h
    rw [hl]; kernel_rfl
  match cs, hlen with
  | [c0, c1, c2, c3, c4, c5, c6], _ =>
    obtain ⟨xs0, n0, -, -, -, hl0, hg0⟩ := DataW.trod_struct Try.underlying90 h
    obtain ⟨y0_0, h0_0⟩ := fld 3 1 0 (hg0 0 _ rfl) rfl rfl (by kernel_rfl) (by rw [hl0]; decide)
    simp only [List.drop_succ_cons, List.drop_zero, List.take_succ_cons, List.take_zero] at h0_0
    obtain ⟨y0_1, h0_1⟩ := fld 3 1 1 (hg0 1 _ rfl) rfl rfl (by kernel_rfl) (by rw [hl0]; decide)
    simp only [List.drop_succ_cons, List.drop_zero, List.take_succ_cons, List.take_zero] at h0_1
    obtain ⟨y0_2, h0_2⟩ := fld 3 1 2 (hg0 2 _ rfl) rfl rfl (by kernel_rfl) (by rw [hl0]; decide)
    simp only [List.drop_succ_cons, List.drop_zero, List.take_succ_cons, List.take_zero] at h0_2
    obtain ⟨y0_3, h0_3⟩ := fld 3 1 3 (hg0 3 _ rfl) rfl rfl (by kernel_rfl) (by rw [hl0]; decide)
    simp only [List.drop_succ_cons, List.drop_zero, List.take_succ_cons, List.take_zero] at h0_3
    obtain ⟨y0_4, h0_4⟩ := fld 3 1 4 (hg0 4 _ rfl) rfl rfl (by kernel_rfl) (by rw [hl0]; decide)
    simp only [List.drop_succ_cons, List.drop_zero, List.take_succ_cons, List.take_zero] at h0_4
    obtain ⟨y0_5, h0_5⟩ := fld 3 1 5 (hg0 5 _ rfl) rfl rfl (by kernel_rfl) (by rw [hl0]; decide)
    simp only [List.drop_succ_cons, List.drop_zero, List.take_succ_cons, List.take_zero] at h0_5
    obtain ⟨y0_6, h0_6⟩ := fld 3 1 6 (hg0 6 _ rfl) rfl rfl (by kernel_rfl) (by rw [hl0]; decide)
    simp only [List.drop_succ_cons, List.drop_zero, List.take_succ_cons, List.take_zero] at h0_6
    obtain ⟨z0, rfl⟩ := leafI h0_0
    obtain ⟨z1, rfl⟩ := leafI h0_1
    obtain ⟨z2, rfl⟩ := leafI h0_2
    obtain ⟨z3, rfl⟩ := leafI h0_3
    obtain ⟨z4, rfl⟩ := leafI h0_4
    obtain ⟨z5, rfl⟩ := leafI h0_5
    obtain ⟨z6, rfl⟩ := leafI h0_6
    exact ⟨⟨z0, z1, z2, z3, z4, z5, z6⟩, rfl⟩
def winAt (w : World) (a : Addr) (i : Nat) : Wn := ⟨intAt w a (i * 7), intAt w a (i * 7 + 1), intAt w a (i * 7 + 2), intAt w a (i * 7 + 3), intAt w a (i * 7 + 4), intAt w a (i * 7 + 5), intAt w a (i * 7 + 6)⟩
theorem leafWs {n : Nat} {v : Value} {y : DataW H × List MemPlace} (h : DataW.trod enc Try.prog w 0 sp held n 31 [v] = some y) :
    ∃ (a : Option Addr) (len cap : Nat) (xs : List Wn), v = .slice a len cap ∧ RdW w a len xs ∧ (a = none → len = 0 ∧ cap = 0) := by
  have hC : Try.prog.cellsOf 90 = 7 := by kernel_rfl
  rcases Go.Deep.open_slice Try.underlying31 h with ⟨e, -⟩ | ⟨a, len, cap, m, k, D, Pl, e, hb, hl, hm, hmm, hx, hi⟩
  · exact ⟨none, 0, 0, [], by simpa using e, ⟨rfl, fun h => absurd h (by omega)⟩, fun _ => ⟨rfl, rfl⟩⟩
  · have hlm : len ≤ m := by rw [hmm]; split <;> omega
    have hcell : ∀ i, i < len → ∀ j, j < 7 → w.cell? (a.add (i * 7 + j)) = some (I (intAt w a (i * 7 + j))) := by
      intro i hlt j hj
      obtain ⟨cs', h1, h2⟩ := hi i (by omega)
      rw [hC] at h1
      obtain ⟨-, hcl, hat⟩ := World.cells?_some h1
      obtain ⟨x, rfl⟩ := open_win h2
      have h0 := hat j hj
      rw [add_add_] at h0
      have h3 : ∃ z, (winC x)[j]? = some (I z) := by
        unfold winC
        match j, hj with
        | 0, _ => exact ⟨_, rfl⟩
        | 1, _ => exact ⟨_, rfl⟩
        | 2, _ => exact ⟨_, rfl⟩
        | 3, _ => exact ⟨_, rfl⟩
        | 4, _ => exact ⟨_, rfl⟩
        | 5, _ => exact ⟨_, rfl⟩
        | 6, _ => exact ⟨_, rfl⟩
      obtain ⟨z, hz⟩ := h3
      rw [hz] at h0
      unfold intAt
      rw [h0]
    refine ⟨some a, len, cap, (List.range len).map (winAt w a), by simpa using e, ⟨by simp, fun hn => ?_⟩, fun h => by cases h⟩
    obtain ⟨b, off, s⟩ := a
    have h0 := hcell 0 hn 0 (by omega)
    have hsp : s = none := by
      have := World.cell?_spot h0
      unfold Addr.add at this
      cases s
      · rfl
      · simp at this
    subst hsp
    have hadd : ∀ i, (⟨b, off, none⟩ : Addr).add i = ⟨b, off + i, none⟩ := fun i => by unfold Addr.add; split <;> simp_all
    refine ⟨b, off, rfl, ?_, fun k hk => ?_⟩
    · have := block_lt_of_cell h0
      rw [hadd] at this
      exact this
    · have hw : ((List.range len).map (winAt w ⟨b, off, none⟩))[k]?.getD default = winAt w ⟨b, off, none⟩ k := by simp [hk]
      rw [hw]
      have hc : ∀ j, j < 7 → w.cell? ⟨b, off + k * 7 + j, none⟩ = some (I (intAt w ⟨b, off, none⟩ (k * 7 + j))) := fun j hj => by
        rw [← hcell k hk j hj, hadd, Nat.add_assoc]
      exact ⟨hc 0 (by omega), hc 1 (by omega), hc 2 (by omega), hc 3 (by omega), hc 4 (by omega), hc 5 (by omega), hc 6 (by omega)⟩

set_option maxHeartbeats 4000000 in
theorem open_auto {n : Nat} {cs : List Value} {y : DataW H × List MemPlace} (h : DataW.trod enc Try.prog w 0 sp held n 60 cs = some y) :
    ∃ (a : Au) (l : Cl), cs = (auC a l).toList ∧ RdI w l.sa l.sn a.c.stops ∧ RdW w l.wa l.wn a.c.windows ∧ (l.sa = none → l.sn = 0 ∧ l.sc = 0) ∧ (l.wa = none → l.wn = 0 ∧ l.wc = 0) := by
  have hlen : cs.length = 47 := by
    obtain ⟨_, _, _, _, hl, _⟩ := DataW.trod_struct Try.underlying60 h
    rw [hl]; kernel_rfl
  rcases cs with _ | ⟨c0, cs⟩
  · exact absurd hlen (by simp)
  rcases cs with _ | ⟨c1, cs⟩
  · exact absurd hlen (by simp)
  rcases cs with _ | ⟨c2, cs⟩
  · exact absurd hlen (by simp)
  rcases cs with _ | ⟨c3, cs⟩
  · exact absurd hlen (by simp)
  rcases cs with _ | ⟨c4, cs⟩
  · exact absurd hlen (by simp)
  rcases cs with _ | ⟨c5, cs⟩
  · exact absurd hlen (by simp)
  rcases cs with _ | ⟨c6, cs⟩
  · exact absurd hlen (by simp)
  rcases cs with _ | ⟨c7, cs⟩
  · exact absurd hlen (by simp)
  rcases cs with _ | ⟨c8, cs⟩
  · exact absurd hlen (by simp)
  rcases cs with _ | ⟨c9, cs⟩
  · exact absurd hlen (by simp)
  rcases cs with _ | ⟨c10, cs⟩
  · exact absurd hlen (by simp)
  rcases cs with _ | ⟨c11, cs⟩
  · exact absurd hlen (by simp)
  rcases cs with _ | ⟨c12, cs⟩
  · exact absurd hlen (by simp)
  rcases cs with _ | ⟨c13, cs⟩
  · exact absurd hlen (by simp)
  rcases cs with _ | ⟨c14, cs⟩
  · exact absurd hlen (by simp)
  rcases cs with _ | ⟨c15, cs⟩
  · exact absurd hlen (by simp)
  rcases cs with _ | ⟨c16, cs⟩
  · exact absurd hlen (by simp)
  rcases cs with _ | ⟨c17, cs⟩
  · exact absurd hlen (by simp)
  rcases cs with _ | ⟨c18, cs⟩
  · exact absurd hlen (by simp)
  rcases cs with _ | ⟨c19, cs⟩
  · exact absurd hlen (by simp)
  rcases cs with _ | ⟨c20, cs⟩
  · exact absurd hlen (by simp)
  rcases cs with _ | ⟨c21, cs⟩
  · exact absurd hlen (by simp)
  rcases cs with _ | ⟨c22, cs⟩
  · exact absurd hlen (by simp)
  rcases cs with _ | ⟨c23, cs⟩
  · exact absurd hlen (by simp)
  rcases cs with _ | ⟨c24, cs⟩
  · exact absurd hlen (by simp)
  rcases cs with _ | ⟨c25, cs⟩
  · exact absurd hlen (by simp)
  rcases cs with _ | ⟨c26, cs⟩
  · exact absurd hlen (by simp)
  rcases cs with _ | ⟨c27, cs⟩
  · exact absurd hlen (by simp)
  rcases cs with _ | ⟨c28, cs⟩
  · exact absurd hlen (by simp)
  rcases cs with _ | ⟨c29, cs⟩
  · exact absurd hlen (by simp)
  rcases cs with _ | ⟨c30, cs⟩
  · exact absurd hlen (by simp)
  rcases cs with _ | ⟨c31, cs⟩
  · exact absurd hlen (by simp)
  rcases cs with _ | ⟨c32, cs⟩
  · exact absurd hlen (by simp)
  rcases cs with _ | ⟨c33, cs⟩
  · exact absurd hlen (by simp)
  rcases cs with _ | ⟨c34, cs⟩
  · exact absurd hlen (by simp)
  rcases cs with _ | ⟨c35, cs⟩
  · exact absurd hlen (by simp)
  rcases cs with _ | ⟨c36, cs⟩
  · exact absurd hlen (by simp)
  rcases cs with _ | ⟨c37, cs⟩
  · exact absurd hlen (by simp)
  rcases cs with _ | ⟨c38, cs⟩
  · exact absurd hlen (by simp)
  rcases cs with _ | ⟨c39, cs⟩
  · exact absurd hlen (by simp)
  rcases cs with _ | ⟨c40, cs⟩
  · exact absurd hlen (by simp)
  rcases cs with _ | ⟨c41, cs⟩
  · exact absurd hlen (by simp)
  rcases cs with _ | ⟨c42, cs⟩
  · exact absurd hlen (by simp)
  rcases cs with _ | ⟨c43, cs⟩
  · exact absurd hlen (by simp)
  rcases cs with _ | ⟨c44, cs⟩
  · exact absurd hlen (by simp)
  rcases cs with _ | ⟨c45, cs⟩
  · exact absurd hlen (by simp)
  rcases cs with _ | ⟨c46, cs⟩
  · exact absurd hlen (by simp)
  rcases cs with _ | ⟨c47, cs⟩
  case cons => exact absurd hlen (by simp)
  case nil =>
    obtain ⟨xs8, n8, -, -, -, hl8, hg8⟩ := DataW.trod_struct Try.underlying60 h
    obtain ⟨y8_0, h8_0⟩ := fld 33 37 0 (hg8 0 _ rfl) rfl rfl (by kernel_rfl) (by rw [hl8]; decide)
    simp only [List.drop_succ_cons, List.drop_zero, List.take_succ_cons, List.take_zero] at h8_0
    obtain ⟨y8_1, h8_1⟩ := fld 3 1 37 (hg8 1 _ rfl) rfl rfl (by kernel_rfl) (by rw [hl8]; decide)
    simp only [List.drop_succ_cons, List.drop_zero, List.take_succ_cons, List.take_zero] at h8_1
    obtain ⟨y8_2, h8_2⟩ := fld 3 1 38 (hg8 2 _ rfl) rfl rfl (by kernel_rfl) (by rw [hl8]; decide)
    simp only [List.drop_succ_cons, List.drop_zero, List.take_succ_cons, List.take_zero] at h8_2
    obtain ⟨y8_3, h8_3⟩ := fld 3 1 39 (hg8 3 _ rfl) rfl rfl (by kernel_rfl) (by rw [hl8]; decide)
    simp only [List.drop_succ_cons, List.drop_zero, List.take_succ_cons, List.take_zero] at h8_3
    obtain ⟨y8_4, h8_4⟩ := fld 58 7 40 (hg8 4 _ rfl) rfl rfl (by kernel_rfl) (by rw [hl8]; decide)
    simp only [List.drop_succ_cons, List.drop_zero, List.take_succ_cons, List.take_zero] at h8_4
    obtain ⟨xs9, n9, -, -, -, hl9, hg9⟩ := DataW.trod_struct Try.underlying33 h8_0
    obtain ⟨y9_0, h9_0⟩ := fld 3 1 0 (hg9 0 _ rfl) rfl rfl (by kernel_rfl) (by rw [hl9]; decide)
    simp only [List.drop_succ_cons, List.drop_zero, List.take_succ_cons, List.take_zero] at h9_0
    obtain ⟨y9_1, h9_1⟩ := fld 3 1 1 (hg9 1 _ rfl) rfl rfl (by kernel_rfl) (by rw [hl9]; decide)
    simp only [List.drop_succ_cons, List.drop_zero, List.take_succ_cons, List.take_zero] at h9_1
    obtain ⟨y9_2, h9_2⟩ := fld 3 1 2 (hg9 2 _ rfl) rfl rfl (by kernel_rfl) (by rw [hl9]; decide)
    simp only [List.drop_succ_cons, List.drop_zero, List.take_succ_cons, List.take_zero] at h9_2
    obtain ⟨y9_3, h9_3⟩ := fld 22 1 3 (hg9 3 _ rfl) rfl rfl (by kernel_rfl) (by rw [hl9]; decide)
    simp only [List.drop_succ_cons, List.drop_zero, List.take_succ_cons, List.take_zero] at h9_3
    obtain ⟨y9_4, h9_4⟩ := fld 24 7 4 (hg9 4 _ rfl) rfl rfl (by kernel_rfl) (by rw [hl9]; decide)
    simp only [List.drop_succ_cons, List.drop_zero, List.take_succ_cons, List.take_zero] at h9_4
    obtain ⟨y9_5, h9_5⟩ := fld 3 1 11 (hg9 5 _ rfl) rfl rfl (by kernel_rfl) (by rw [hl9]; decide)
    simp only [List.drop_succ_cons, List.drop_zero, List.take_succ_cons, List.take_zero] at h9_5
    obtain ⟨y9_6, h9_6⟩ := fld 3 1 12 (hg9 6 _ rfl) rfl rfl (by kernel_rfl) (by rw [hl9]; decide)
    simp only [List.drop_succ_cons, List.drop_zero, List.take_succ_cons, List.take_zero] at h9_6
    obtain ⟨y9_7, h9_7⟩ := fld 28 10 13 (hg9 7 _ rfl) rfl rfl (by kernel_rfl) (by rw [hl9]; decide)
    simp only [List.drop_succ_cons, List.drop_zero, List.take_succ_cons, List.take_zero] at h9_7
    obtain ⟨y9_8, h9_8⟩ := fld 30 12 23 (hg9 8 _ rfl) rfl rfl (by kernel_rfl) (by rw [hl9]; decide)
    simp only [List.drop_succ_cons, List.drop_zero, List.take_succ_cons, List.take_zero] at h9_8
    obtain ⟨y9_9, h9_9⟩ := fld 4 1 35 (hg9 9 _ rfl) rfl rfl (by kernel_rfl) (by rw [hl9]; decide)
    simp only [List.drop_succ_cons, List.drop_zero, List.take_succ_cons, List.take_zero] at h9_9
    obtain ⟨y9_10, h9_10⟩ := fld 31 1 36 (hg9 10 _ rfl) rfl rfl (by kernel_rfl) (by rw [hl9]; decide)
    simp only [List.drop_succ_cons, List.drop_zero, List.take_succ_cons, List.take_zero] at h9_10
    obtain ⟨z0, rfl⟩ := leafI h9_0
    obtain ⟨z1, rfl⟩ := leafI h9_1
    obtain ⟨z2, rfl⟩ := leafI h9_2
    obtain ⟨sa, sn, sc, xs, rfl, hrs, hns⟩ := leafIs h9_3
    obtain ⟨xs14, n14, -, -, -, hl14, hg14⟩ := DataW.trod_struct Try.underlying24 h9_4
    obtain ⟨y14_0, h14_0⟩ := fld 3 1 0 (hg14 0 _ rfl) rfl rfl (by kernel_rfl) (by rw [hl14]; decide)
    simp only [List.drop_succ_cons, List.drop_zero, List.take_succ_cons, List.take_zero] at h14_0
    obtain ⟨y14_1, h14_1⟩ := fld 3 1 1 (hg14 1 _ rfl) rfl rfl (by kernel_rfl) (by rw [hl14]; decide)
    simp only [List.drop_succ_cons, List.drop_zero, List.take_succ_cons, List.take_zero] at h14_1
    obtain ⟨y14_2, h14_2⟩ := fld 3 1 2 (hg14 2 _ rfl) rfl rfl (by kernel_rfl) (by rw [hl14]; decide)
    simp only [List.drop_succ_cons, List.drop_zero, List.take_succ_cons, List.take_zero] at h14_2
    obtain ⟨y14_3, h14_3⟩ := fld 3 1 3 (hg14 3 _ rfl) rfl rfl (by kernel_rfl) (by rw [hl14]; decide)
    simp only [List.drop_succ_cons, List.drop_zero, List.take_succ_cons, List.take_zero] at h14_3
    obtain ⟨y14_4, h14_4⟩ := fld 3 1 4 (hg14 4 _ rfl) rfl rfl (by kernel_rfl) (by rw [hl14]; decide)
    simp only [List.drop_succ_cons, List.drop_zero, List.take_succ_cons, List.take_zero] at h14_4
    obtain ⟨y14_5, h14_5⟩ := fld 3 1 5 (hg14 5 _ rfl) rfl rfl (by kernel_rfl) (by rw [hl14]; decide)
    simp only [List.drop_succ_cons, List.drop_zero, List.take_succ_cons, List.take_zero] at h14_5
    obtain ⟨y14_6, h14_6⟩ := fld 3 1 6 (hg14 6 _ rfl) rfl rfl (by kernel_rfl) (by rw [hl14]; decide)
    simp only [List.drop_succ_cons, List.drop_zero, List.take_succ_cons, List.take_zero] at h14_6
    obtain ⟨z4, rfl⟩ := leafI h14_0
    obtain ⟨z5, rfl⟩ := leafI h14_1
    obtain ⟨z6, rfl⟩ := leafI h14_2
    obtain ⟨z7, rfl⟩ := leafI h14_3
    obtain ⟨z8, rfl⟩ := leafI h14_4
    obtain ⟨z9, rfl⟩ := leafI h14_5
    obtain ⟨z10, rfl⟩ := leafI h14_6
    obtain ⟨z11, rfl⟩ := leafI h9_5
    obtain ⟨z12, rfl⟩ := leafI h9_6
    obtain ⟨xs24, n24, -, -, -, hl24, hg24⟩ := DataW.trod_struct Try.underlying28 h9_7
    obtain ⟨y24_0, h24_0⟩ := fld 3 1 0 (hg24 0 _ rfl) rfl rfl (by kernel_rfl) (by rw [hl24]; decide)
    simp only [List.drop_succ_cons, List.drop_zero, List.take_succ_cons, List.take_zero] at h24_0
    obtain ⟨y24_1, h24_1⟩ := fld 3 1 1 (hg24 1 _ rfl) rfl rfl (by kernel_rfl) (by rw [hl24]; decide)
    simp only [List.drop_succ_cons, List.drop_zero, List.take_succ_cons, List.take_zero] at h24_1
    obtain ⟨y24_2, h24_2⟩ := fld 26 4 2 (hg24 2 _ rfl) rfl rfl (by kernel_rfl) (by rw [hl24]; decide)
    simp only [List.drop_succ_cons, List.drop_zero, List.take_succ_cons, List.take_zero] at h24_2
    obtain ⟨y24_3, h24_3⟩ := fld 26 4 6 (hg24 3 _ rfl) rfl rfl (by kernel_rfl) (by rw [hl24]; decide)
    simp only [List.drop_succ_cons, List.drop_zero, List.take_succ_cons, List.take_zero] at h24_3
    obtain ⟨z13, rfl⟩ := leafI h24_0
    obtain ⟨z14, rfl⟩ := leafI h24_1
    obtain ⟨xs27, n27, -, -, -, hl27, hg27⟩ := DataW.trod_struct Try.underlying26 h24_2
    obtain ⟨y27_0, h27_0⟩ := fld 3 1 0 (hg27 0 _ rfl) rfl rfl (by kernel_rfl) (by rw [hl27]; decide)
    simp only [List.drop_succ_cons, List.drop_zero, List.take_succ_cons, List.take_zero] at h27_0
    obtain ⟨y27_1, h27_1⟩ := fld 3 1 1 (hg27 1 _ rfl) rfl rfl (by kernel_rfl) (by rw [hl27]; decide)
    simp only [List.drop_succ_cons, List.drop_zero, List.take_succ_cons, List.take_zero] at h27_1
    obtain ⟨y27_2, h27_2⟩ := fld 3 1 2 (hg27 2 _ rfl) rfl rfl (by kernel_rfl) (by rw [hl27]; decide)
    simp only [List.drop_succ_cons, List.drop_zero, List.take_succ_cons, List.take_zero] at h27_2
    obtain ⟨y27_3, h27_3⟩ := fld 3 1 3 (hg27 3 _ rfl) rfl rfl (by kernel_rfl) (by rw [hl27]; decide)
    simp only [List.drop_succ_cons, List.drop_zero, List.take_succ_cons, List.take_zero] at h27_3
    obtain ⟨z15, rfl⟩ := leafI h27_0
    obtain ⟨z16, rfl⟩ := leafI h27_1
    obtain ⟨z17, rfl⟩ := leafI h27_2
    obtain ⟨z18, rfl⟩ := leafI h27_3
    obtain ⟨xs32, n32, -, -, -, hl32, hg32⟩ := DataW.trod_struct Try.underlying26 h24_3
    obtain ⟨y32_0, h32_0⟩ := fld 3 1 0 (hg32 0 _ rfl) rfl rfl (by kernel_rfl) (by rw [hl32]; decide)
    simp only [List.drop_succ_cons, List.drop_zero, List.take_succ_cons, List.take_zero] at h32_0
    obtain ⟨y32_1, h32_1⟩ := fld 3 1 1 (hg32 1 _ rfl) rfl rfl (by kernel_rfl) (by rw [hl32]; decide)
    simp only [List.drop_succ_cons, List.drop_zero, List.take_succ_cons, List.take_zero] at h32_1
    obtain ⟨y32_2, h32_2⟩ := fld 3 1 2 (hg32 2 _ rfl) rfl rfl (by kernel_rfl) (by rw [hl32]; decide)
    simp only [List.drop_succ_cons, List.drop_zero, List.take_succ_cons, List.take_zero] at h32_2
    obtain ⟨y32_3, h32_3⟩ := fld 3 1 3 (hg32 3 _ rfl) rfl rfl (by kernel_rfl) (by rw [hl32]; decide)
    simp only [List.drop_succ_cons, List.drop_zero, List.take_succ_cons, List.take_zero] at h32_3
    obtain ⟨z19, rfl⟩ := leafI h32_0
    obtain ⟨z20, rfl⟩ := leafI h32_1
    obtain ⟨z21, rfl⟩ := leafI h32_2
    obtain ⟨z22, rfl⟩ := leafI h32_3
    obtain ⟨xs37, n37, -, -, -, hl37, hg37⟩ := DataW.trod_array Try.underlying30 h9_8
    obtain ⟨y37_0, h37_0⟩ := aelt (hg37 0 (by omega)) (by kernel_rfl) (by omega)
    simp only [List.drop_succ_cons, List.drop_zero, List.take_succ_cons, List.take_zero] at h37_0
    obtain ⟨z23, rfl⟩ := leafI h37_0
    obtain ⟨y37_1, h37_1⟩ := aelt (hg37 1 (by omega)) (by kernel_rfl) (by omega)
    simp only [List.drop_succ_cons, List.drop_zero, List.take_succ_cons, List.take_zero] at h37_1
    obtain ⟨z24, rfl⟩ := leafI h37_1
    obtain ⟨y37_2, h37_2⟩ := aelt (hg37 2 (by omega)) (by kernel_rfl) (by omega)
    simp only [List.drop_succ_cons, List.drop_zero, List.take_succ_cons, List.take_zero] at h37_2
    obtain ⟨z25, rfl⟩ := leafI h37_2
    obtain ⟨y37_3, h37_3⟩ := aelt (hg37 3 (by omega)) (by kernel_rfl) (by omega)
    simp only [List.drop_succ_cons, List.drop_zero, List.take_succ_cons, List.take_zero] at h37_3
    obtain ⟨z26, rfl⟩ := leafI h37_3
    obtain ⟨y37_4, h37_4⟩ := aelt (hg37 4 (by omega)) (by kernel_rfl) (by omega)
    simp only [List.drop_succ_cons, List.drop_zero, List.take_succ_cons, List.take_zero] at h37_4
    obtain ⟨z27, rfl⟩ := leafI h37_4
    obtain ⟨y37_5, h37_5⟩ := aelt (hg37 5 (by omega)) (by kernel_rfl) (by omega)
    simp only [List.drop_succ_cons, List.drop_zero, List.take_succ_cons, List.take_zero] at h37_5
    obtain ⟨z28, rfl⟩ := leafI h37_5
    obtain ⟨y37_6, h37_6⟩ := aelt (hg37 6 (by omega)) (by kernel_rfl) (by omega)
    simp only [List.drop_succ_cons, List.drop_zero, List.take_succ_cons, List.take_zero] at h37_6
    obtain ⟨z29, rfl⟩ := leafI h37_6
    obtain ⟨y37_7, h37_7⟩ := aelt (hg37 7 (by omega)) (by kernel_rfl) (by omega)
    simp only [List.drop_succ_cons, List.drop_zero, List.take_succ_cons, List.take_zero] at h37_7
    obtain ⟨z30, rfl⟩ := leafI h37_7
    obtain ⟨y37_8, h37_8⟩ := aelt (hg37 8 (by omega)) (by kernel_rfl) (by omega)
    simp only [List.drop_succ_cons, List.drop_zero, List.take_succ_cons, List.take_zero] at h37_8
    obtain ⟨z31, rfl⟩ := leafI h37_8
    obtain ⟨y37_9, h37_9⟩ := aelt (hg37 9 (by omega)) (by kernel_rfl) (by omega)
    simp only [List.drop_succ_cons, List.drop_zero, List.take_succ_cons, List.take_zero] at h37_9
    obtain ⟨z32, rfl⟩ := leafI h37_9
    obtain ⟨y37_10, h37_10⟩ := aelt (hg37 10 (by omega)) (by kernel_rfl) (by omega)
    simp only [List.drop_succ_cons, List.drop_zero, List.take_succ_cons, List.take_zero] at h37_10
    obtain ⟨z33, rfl⟩ := leafI h37_10
    obtain ⟨y37_11, h37_11⟩ := aelt (hg37 11 (by omega)) (by kernel_rfl) (by omega)
    simp only [List.drop_succ_cons, List.drop_zero, List.take_succ_cons, List.take_zero] at h37_11
    obtain ⟨z34, rfl⟩ := leafI h37_11
    obtain ⟨b35, rfl⟩ := leafB h9_9
    obtain ⟨wa, wn, wc, ws, rfl, hrw, hnw⟩ := leafWs h9_10
    obtain ⟨z37, rfl⟩ := leafI h8_1
    obtain ⟨z38, rfl⟩ := leafI h8_2
    obtain ⟨z39, rfl⟩ := leafI h8_3
    obtain ⟨xs55, n55, -, -, -, hl55, hg55⟩ := DataW.trod_struct Try.underlying58 h8_4
    obtain ⟨y55_0, h55_0⟩ := fld 3 1 0 (hg55 0 _ rfl) rfl rfl (by kernel_rfl) (by rw [hl55]; decide)
    simp only [List.drop_succ_cons, List.drop_zero, List.take_succ_cons, List.take_zero] at h55_0
    obtain ⟨y55_1, h55_1⟩ := fld 3 1 1 (hg55 1 _ rfl) rfl rfl (by kernel_rfl) (by rw [hl55]; decide)
    simp only [List.drop_succ_cons, List.drop_zero, List.take_succ_cons, List.take_zero] at h55_1
    obtain ⟨y55_2, h55_2⟩ := fld 3 1 2 (hg55 2 _ rfl) rfl rfl (by kernel_rfl) (by rw [hl55]; decide)
    simp only [List.drop_succ_cons, List.drop_zero, List.take_succ_cons, List.take_zero] at h55_2
    obtain ⟨y55_3, h55_3⟩ := fld 3 1 3 (hg55 3 _ rfl) rfl rfl (by kernel_rfl) (by rw [hl55]; decide)
    simp only [List.drop_succ_cons, List.drop_zero, List.take_succ_cons, List.take_zero] at h55_3
    obtain ⟨y55_4, h55_4⟩ := fld 56 3 4 (hg55 4 _ rfl) rfl rfl (by kernel_rfl) (by rw [hl55]; decide)
    simp only [List.drop_succ_cons, List.drop_zero, List.take_succ_cons, List.take_zero] at h55_4
    obtain ⟨z40, rfl⟩ := leafI h55_0
    obtain ⟨z41, rfl⟩ := leafI h55_1
    obtain ⟨z42, rfl⟩ := leafI h55_2
    obtain ⟨z43, rfl⟩ := leafI h55_3
    obtain ⟨xs60, n60, -, -, -, hl60, hg60⟩ := DataW.trod_struct Try.underlying56 h55_4
    obtain ⟨y60_0, h60_0⟩ := fld 3 1 0 (hg60 0 _ rfl) rfl rfl (by kernel_rfl) (by rw [hl60]; decide)
    simp only [List.drop_succ_cons, List.drop_zero, List.take_succ_cons, List.take_zero] at h60_0
    obtain ⟨y60_1, h60_1⟩ := fld 3 1 1 (hg60 1 _ rfl) rfl rfl (by kernel_rfl) (by rw [hl60]; decide)
    simp only [List.drop_succ_cons, List.drop_zero, List.take_succ_cons, List.take_zero] at h60_1
    obtain ⟨y60_2, h60_2⟩ := fld 3 1 2 (hg60 2 _ rfl) rfl rfl (by kernel_rfl) (by rw [hl60]; decide)
    simp only [List.drop_succ_cons, List.drop_zero, List.take_succ_cons, List.take_zero] at h60_2
    obtain ⟨z44, rfl⟩ := leafI h60_0
    obtain ⟨z45, rfl⟩ := leafI h60_1
    obtain ⟨z46, rfl⟩ := leafI h60_2
    exact ⟨⟨⟨z0, z1, z2, xs, ⟨z4, z5, z6, z7, z8, z9, z10⟩, z11, z12, ⟨z13, z14, ⟨z15, z16, z17, z18⟩, ⟨z19, z20, z21, z22⟩⟩, ⟨z23, z24, z25, z26, z27, z28, z29, z30, z31, z32, z33, z34⟩, b35, ws⟩, z37, z38, z39, ⟨z40, z41, z42, z43, ⟨z44, z45, z46⟩⟩⟩, ⟨sa, sn, sc, wa, wn, wc⟩, rfl, hrs, hrw, hns, hnw⟩
theorem open_touch {n : Nat} {cs : List Value} {y : DataW H × List MemPlace} (h : DataW.trod enc Try.prog w 0 sp held n 62 cs = some y) : ∃ t : To, cs = (toC t).toList := by
  have hlen : cs.length = 3 := by
    obtain ⟨_, _, _, _, hl, _⟩ := DataW.trod_struct Try.underlying62 h
    rw [hl]; kernel_rfl
  match cs, hlen with
  | [c0, c1, c2], _ =>
    obtain ⟨xs64, n64, -, -, -, hl64, hg64⟩ := DataW.trod_struct Try.underlying62 h
    obtain ⟨y64_0, h64_0⟩ := fld 4 1 0 (hg64 0 _ rfl) rfl rfl (by kernel_rfl) (by rw [hl64]; decide)
    simp only [List.drop_succ_cons, List.drop_zero, List.take_succ_cons, List.take_zero] at h64_0
    obtain ⟨y64_1, h64_1⟩ := fld 4 1 1 (hg64 1 _ rfl) rfl rfl (by kernel_rfl) (by rw [hl64]; decide)
    simp only [List.drop_succ_cons, List.drop_zero, List.take_succ_cons, List.take_zero] at h64_1
    obtain ⟨y64_2, h64_2⟩ := fld 4 1 2 (hg64 2 _ rfl) rfl rfl (by kernel_rfl) (by rw [hl64]; decide)
    simp only [List.drop_succ_cons, List.drop_zero, List.take_succ_cons, List.take_zero] at h64_2
    obtain ⟨b0, rfl⟩ := leafB h64_0
    obtain ⟨b1, rfl⟩ := leafB h64_1
    obtain ⟨b2, rfl⟩ := leafB h64_2
    exact ⟨⟨b1, b0, b2⟩, rfl⟩
end
end Nw
end Go.Proofs.Ytkipbgjaeapkkaa
