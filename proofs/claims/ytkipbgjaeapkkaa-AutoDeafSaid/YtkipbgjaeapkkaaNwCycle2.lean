/- What cycle.row does: a contract. -/
import Derived.Test.YtkipbgjaeapkkaaNwCycle
import Derived.Test.YtkipbgjaeapkkaaNwSun
set_option linter.unusedSimpArgs false
set_option linter.unusedVariables false
namespace Go.Proofs.Ytkipbgjaeapkkaa
open Go.RowKit
namespace Nw

/-- the row of stops, gone back to the place behind k -/
def rowTo (xs : List Int) (n k : Nat) : List Int := xs ++ ((xs.drop (k + 1)).take (n - 2 - k)).reverse
theorem rowTo_start (xs : List Int) (n : Nat) : rowTo xs n (n - 2) = xs := by unfold rowTo; simp
theorem rowTo_step (xs : List Int) (n k : Nat) (hn : xs.length = n) (hk : k + 1 ≤ n - 2) : rowTo xs n k = rowTo xs n (k + 1) ++ [xs[k + 1]?.getD 0] := by
  unfold rowTo
  have h1 : k + 1 < xs.length := by omega
  rw [List.drop_eq_getElem_cons h1, show n - 2 - k = (n - 2 - (k + 1)) + 1 from by omega, List.take_succ_cons, List.reverse_cons, ← List.append_assoc]
  simp [h1]
theorem rowTo_end (p : Pl) : rowTo p.stops p.stops.length 0 = p.row := rfl

/-- A slice of one's own reads as a list of numbers. -/
theorem RdI.of_own {w : World} {B g n cap : Nat} {e : TypeId} {xs : List Int} (h : w.ownsRow B e 1 (.slice (some ⟨g, 0, none⟩) n cap) n (xs.map I)) (hn : 0 < n) : RdI w (some ⟨g, 0, none⟩) n xs := by
  have hl : xs.length = n := by have := h.1; simpa using this
  obtain ⟨_, ⟨hv, h0⟩ | ⟨g', cap', cur, hv, _, hblk, _⟩⟩ := id h
  · omega
  · obtain rfl : g = g' := by simp at hv; exact hv.1
    refine ⟨hl, fun _ => ⟨g, 0, rfl, (Array.getElem?_eq_some_iff.1 hblk).1, fun k hk => ?_⟩⟩
    rw [Nat.zero_add, h.cellAt k (by omega)]
    simp [List.getElem?_map, List.getElem?_eq_getElem (show k < xs.length by omega)]

/-- It hands back new memory that reads as xs. -/
def RetI (xs : List Int) (w : World) (e : Ending) (w' : World) : Prop :=
  ∃ g cap, e = .returned (.slice (some ⟨g, 0, none⟩) xs.length cap) ∧ RdI w' (some ⟨g, 0, none⟩) xs.length xs ∧ Below w.heap.size w w'

set_option maxRecDepth 100000 in
set_option maxHeartbeats 2000000 in
theorem cycle_row (p : Pl) (l : Ll) (w : World) (hIn : p.In l w) (h2 : 2 ≤ p.stops.length) :
    Calls Try.prog 80 #[p.v l] w (RetI p.row w) := by
  obtain ⟨i0, hi, hz0, hz1, hz2⟩ := info_parts Try.infoInt
  obtain ⟨hn, hs⟩ := hIn
  obtain ⟨sa, sn, sc⟩ := l
  dsimp only at hn hs ⊢
  obtain ⟨hlen, hcells⟩ := hs
  rw [hlen] at h2
  obtain ⟨b, off, rfl, hlt, hc⟩ := hcells (by omega)
  have hc' : ∀ k, k < sn → ∀ w', Below w.heap.size w w' → w'.cell? ⟨b, off + k, none⟩ = some (I (p.stops[k]?.getD 0)) := fun k hk w' hb => (hb.cell (p := ⟨b, off + k, none⟩) hlt).trans (hc k hk)
  have Hc := Lib.hid hc'; have HL := Lib.hid hlen
  have hnews : ∀ w', Below w.heap.size w w' → ∀ j u, (p.stops.map I)[j]? = some u → w'.cell? ((⟨b, off, none⟩ : Addr).add j) = some u := by
    intro w' hb j u hj
    have hj' : j < p.stops.length := by
      rcases Nat.lt_or_ge j p.stops.length with h | h
      · exact h
      · rw [List.getElem?_eq_none (by simpa using h)] at hj; cases hj
    have hadd : (⟨b, off, none⟩ : Addr).add j = ⟨b, off + j, none⟩ := by unfold Addr.add; split <;> simp_all
    rw [hadd, hc' j (by omega) w' hb]
    simp [List.getElem?_map, hj'] at hj
    simp [hj', hj]
  have Hnews := Lib.hid hnews
  clear hc hc' hcells hlen hnews
  have hown0 : ((w.alloc (.cells #[.slice (some ⟨b, off, none⟩) sn sc, I p.cars, I p.car] 45)).alloc (.cells #[] 3)).ownsRow (w.heap.size + 1) 3 1 (.slice (some ⟨w.heap.size + 1, 0, none⟩) 0 0) 0 [] := by
    have h := World.ownsRow_lit (base := w.heap.size + 1) (e := 3) (size := 1) (w.alloc (.cells #[.slice (some ⟨b, off, none⟩) sn sc, I p.cars, I p.car] 45)) #[] 0 (by simp) (by simp [maxLen]) (by simp)
    simpa using h
  have hO0 := Lib.hid hown0; clear hown0
  have hW0 : Below (w.heap.size + 1) (w.alloc (.cells #[.slice (some ⟨b, off, none⟩) sn sc, I p.cars, I p.car] 45)) ((w.alloc (.cells #[.slice (some ⟨b, off, none⟩) sn sc, I p.cars, I p.car] 45)).alloc (.cells #[] 3)) := (Below.refl _ _).alloc (by simp) _
  go_enter Try.func80, Try.ntmps80
  go_wp2_with (at_builtin; refine wpList_append_own _ rfl _ _ 22 rfl (w.heap.size + 1) 3 i0 (I 0) 1 8 Try.underlying22 hi hz0 hz1 hz2 rfl (by decide) _ _ _ rfl hO0.out ⟨b, off, none⟩ sn sc (p.stops.map I) rfl (by simp [HL.out]) (Hnews.out _ (below2 _ _ _)) (by simp [Value.oneCell']) (by simp [maxLen]; omega) (by omega) (by simp) ?_; intro v1 w1 hown1 hgrow1 _; have hb1 := hW0.grown hgrow1 (by simp) (fun j e => (hO0.out.lt j e).1); have hbox := (hb1.cell (p := ⟨w.heap.size, 0, none⟩) (by simp)).trans (show _ = some (.slice (some ⟨b, off, none⟩) sn sc) by simp))
  rw [Nat.zero_add, List.nil_append] at hown1
  clear hgrow1 hbox
  go_loopw [3, 4] (fun v i wr => ∃ k : Nat, k ≤ sn - 2 ∧ i = I k ∧ wr.ownsRow (w.heap.size + 1) 3 1 v (sn + (sn - 2 - k)) ((rowTo p.stops sn k).map I) ∧ Below (w.heap.size + 1) (w.alloc (.cells #[.slice (some ⟨b, off, none⟩) sn sc, I p.cars, I p.car] 45)) wr) (fun _ i _ => (intOf i).toNat)
  case atStart => exact ⟨sn - 2, by omega, by congr 1; omega, by rw [rowTo_start]; simpa using hown1, hb1⟩
  case round =>
    obtain ⟨k, hk, rfl, hown, hb⟩ := hrel
    have hbT : Below w.heap.size w wr := (below1 _ _).trans (hb.mono (by omega))
    have hbox := (hb.cell (p := ⟨w.heap.size, 0, none⟩) (by simp)).trans (show _ = some (.slice (some ⟨b, off, none⟩) sn sc) by simp)
    have hcell := fun h => Hc.out k h wr hbT
    rcases k with _ | k
    · go_wp2
      go_ret
      have hrow : rowTo p.stops sn 0 = p.row := by rw [← HL.out]; rfl
      rw [hrow] at hown
      have hlen : p.row.length = sn + (sn - 2 - 0) := by have := hown.1; simpa using this
      rw [← hlen] at hown
      obtain ⟨hl, hv | ⟨g, cap, cur, hv, hg, hblk, hn', hm, hcs, htake⟩⟩ := hown
      · exact absurd hv.2 (by omega)
      · have hown2 : wr.ownsRow (w.heap.size + 1) 3 1 (.slice (some ⟨g, 0, none⟩) p.row.length cap) p.row.length (p.row.map I) := ⟨hl, .inr ⟨g, cap, cur, rfl, hg, hblk, hn', hm, hcs, htake⟩⟩
        exact ⟨g, cap, by rw [← hv]; rfl, RdI.of_own hown2 (by omega), hbT⟩
    · have hcell' := hcell (by omega)
      clear hcell
      go_wp2_with (at_builtin; refine wpList_append_own _ rfl _ _ 22 rfl (w.heap.size + 1) 3 i0 (I 0) 1 8 Try.underlying22 hi hz0 hz1 hz2 rfl (by decide) _ _ _ rfl (hown.alloc _) ⟨wr.heap.size, 0, none⟩ 1 1 [I (p.stops[k + 1]?.getD 0)] rfl rfl (cell_one_new _ _ _) (by simp [Value.oneCell']) (by simp [maxLen]; omega) (by omega) (by have := hb.size; simp at this; simp; omega) ?_; intro v2 w2 hown2 hgrow2 _)
      refine ⟨⟨k, by omega, rfl, ?_, (hb.alloc (by have := hb.size; simp at this; omega) _).grown hgrow2 (by have := hb.size; simp at this; simp; omega) (fun j e => (hown.lt j e).1)⟩, by simp [intOf]⟩
      rw [rowTo_step p.stops sn k HL.out (by omega), List.map_append]
      rw [show sn + (sn - 2 - (k + 1)) + 1 = sn + (sn - 2 - k) from by omega] at hown2
      exact hown2
end Nw
end Go.Proofs.Ytkipbgjaeapkkaa
