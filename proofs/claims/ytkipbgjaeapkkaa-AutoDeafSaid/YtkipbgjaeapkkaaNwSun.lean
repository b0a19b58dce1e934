/- What sunset.months and sunset.Check do: contracts. -/
import Derived.Test.YtkipbgjaeapkkaaNwWords
import Derived.Maps.AppendAt
set_option linter.unusedSimpArgs false
set_option linter.unusedVariables false
namespace Go.Proofs.Ytkipbgjaeapkkaa
open Go.RowKit
namespace Nw

theorem Try.infoInt : (Try.prog.info? 3).map (fun i => (i.zero, i.size, i.bytes)) = some (some (I 0), 1, 8) := by kernel_rfl

/-- the cells of a table, asked at a computed place -/
theorem sun_cell (s : Sn) (w : World) (k : Nat) (b : Nat) (hb : b = w.heap.size) : (w.alloc (.cells #[I s.s0, I s.s1, I s.s2, I s.s3, I s.s4, I s.s5, I s.s6, I s.s7, I s.s8, I s.s9, I s.s10, I s.s11] 30)).cell? ⟨b, k % 12, none⟩ = some (I (s.at_ (k % 12))) := by
  subst hb
  have h : k % 12 < 12 := Nat.mod_lt _ (by omega)
  generalize k % 12 = j at h
  unfold Sn.at_ Sn.list
  rcases j with _ | _ | _ | _ | _ | _ | _ | _ | _ | _ | _ | _ | j
  all_goals first | omega | simp

set_option maxRecDepth 100000 in
set_option maxHeartbeats 1000000 in
theorem sunset_months2 (s : Sn) (x y : Nat) (X Y : Int) (b : Nat) (w : World) (hx : x ≤ 1000) (hy : y ≤ 1000) (hX : X = x) (hY : Y = y) (ha : b < w.heap.size) (h0 : w.cell? ⟨b, 0, none⟩ = some (I X)) (h1 : w.cell? ⟨b, 1, none⟩ = some (I Y)) :
    Calls Try.prog 71 #[s.v, .slice (some ⟨b, 0, none⟩) 2 2] w fun e w' => ∃ g cap, e = .returned (.slice (some ⟨g, 0, none⟩) 2 cap) ∧ w'.cell? ⟨g, 0, none⟩ = some (I (s.at_ (x % 12))) ∧ w'.cell? ⟨g, 1, none⟩ = some (I (s.at_ (y % 12))) ∧ w.heap.size ≤ g ∧ g < w'.heap.size ∧ Below w.heap.size w w' := by
  subst hX hY
  obtain ⟨i0, hi, hz0, hz1, hz2⟩ := info_parts Try.infoInt
  go_enter Try.func71, Try.ntmps71
  go_wp2
  have hbx := sun_cell s w x w.heap.size rfl
  have hby := sun_cell s w y w.heap.size rfl
  have h0w := (World.cell?_alloc_lt w (.cells #[I s.s0, I s.s1, I s.s2, I s.s3, I s.s4, I s.s5, I s.s6, I s.s7, I s.s8, I s.s9, I s.s10, I s.s11] 30) ⟨b, 0, none⟩ ha).trans h0
  have h1w := (World.cell?_alloc_lt w (.cells #[I s.s0, I s.s1, I s.s2, I s.s3, I s.s4, I s.s5, I s.s6, I s.s7, I s.s8, I s.s9, I s.s10, I s.s11] 30) ⟨b, 1, none⟩ ha).trans h1
  generalize hW : w.alloc (.cells #[I s.s0, I s.s1, I s.s2, I s.s3, I s.s4, I s.s5, I s.s6, I s.s7, I s.s8, I s.s9, I s.s10, I s.s11] 30) = W at *
  have HbW : Below w.heap.size w W := by rw [← hW]; exact below1 _ _
  have hsz : W.heap.size = w.heap.size + 1 := by rw [← hW]; simp
  have HW := Lib.hid hW; have HS := Lib.hid hsz; clear hW hsz h0 h1
  go_loopw [5, 10] (fun v i wr => ∃ k : Nat, k ≤ 2 ∧ i = I k ∧ wr.ownsRow W.heap.size 3 1 v k (([I (s.at_ (x % 12)), I (s.at_ (y % 12))]).take k) ∧ Below W.heap.size W wr) (fun _ i _ => 2 - (intOf i).toNat)
  case atStart => exact ⟨0, by omega, rfl, World.ownsRow_nil _ _ _ _, Below.refl _ _⟩
  case round =>
    obtain ⟨k, hk, rfl, hown, hb⟩ := hrel
    have hb0 := (hb.cell (p := ⟨b, 0, none⟩) (by rw [HS.out]; show b < _; omega)).trans h0w
    have hb1 := (hb.cell (p := ⟨b, 1, none⟩) (by rw [HS.out]; show b < _; omega)).trans h1w
    have hbx' := (hb.cell (p := ⟨w.heap.size, x % 12, none⟩) (by rw [HS.out]; show w.heap.size < _; omega)).trans hbx
    have hby' := (hb.cell (p := ⟨w.heap.size, y % 12, none⟩) (by rw [HS.out]; show w.heap.size < _; omega)).trans hby
    rcases k with _ | _ | _ | k
    · go_wp2_with (at_builtin; refine wpList_append_own _ rfl _ _ 22 rfl W.heap.size 3 i0 (I 0) 1 8 Try.underlying22 hi hz0 hz1 hz2 rfl (by decide) _ _ _ rfl (hown.alloc _) ⟨wr.heap.size, 0, none⟩ 1 1 [I (s.at_ (x % 12))] rfl rfl (cell_one_new _ _ _) (by simp [Value.oneCell']) (by simp [maxLen]) (by omega) (by have := hb.size; simp; omega) ?_; intro v' w1 hown' hgrow _)
      exact ⟨⟨1, by omega, rfl, hown', (hb.alloc hb.size _).grown hgrow (by have := hb.size; simp; omega) (fun j e => (hown.lt j e).1)⟩, by simp [intOf]⟩
    · go_wp2_with (at_builtin; refine wpList_append_own _ rfl _ _ 22 rfl W.heap.size 3 i0 (I 0) 1 8 Try.underlying22 hi hz0 hz1 hz2 rfl (by decide) _ _ _ rfl (hown.alloc _) ⟨wr.heap.size, 0, none⟩ 1 1 [I (s.at_ (y % 12))] rfl rfl (cell_one_new _ _ _) (by simp [Value.oneCell']) (by simp [maxLen]) (by omega) (by have := hb.size; simp; omega) ?_; intro v' w1 hown' hgrow _)
      exact ⟨⟨2, by omega, rfl, hown', (hb.alloc hb.size _).grown hgrow (by have := hb.size; simp; omega) (fun j e => (hown.lt j e).1)⟩, by simp [intOf]⟩
    · go_wp2
      go_ret
      obtain ⟨hl, hv | ⟨g, cap, cur, hv, hg, hblk, hn, hm, hcs, htake⟩⟩ := hown
      · exact absurd hv.2 (by omega)
      · have hown2 : wr.ownsRow W.heap.size 3 1 (.slice (some ⟨g, 0, none⟩) 2 cap) 2 [I (s.at_ (x % 12)), I (s.at_ (y % 12))] := ⟨hl, .inr ⟨g, cap, cur, rfl, hg, hblk, hn, hm, hcs, htake⟩⟩
        refine ⟨g, cap, by rw [← hv]; rfl, hown2.cellAt 0 (by omega), hown2.cellAt 1 (by omega), ?_, (Array.getElem?_eq_some_iff.1 hblk).1, behind HbW hb⟩
        have := HbW.size; omega
    · omega
end Nw
end Go.Proofs.Ytkipbgjaeapkkaa
