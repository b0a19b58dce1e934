/- What newellaw10.Plain does: a contract. -/
import Derived.Test.YtkipbgjaeapkkaaNwOwn
set_option linter.unusedSimpArgs false
set_option linter.unusedVariables false
namespace Go.Proofs.Ytkipbgjaeapkkaa
open Go.RowKit
attribute [local go_sem ↓] Nw.ld_rule Nw.eq_rule Nw.st_rule
namespace Nw

/-- the chapters' example -/
def plainC : Cf := ⟨4, 1, 0, [0, 1, 3], ⟨2, 1, 2, 4, 1, 2, 3⟩, 5, 3, ⟨0, 0, ⟨0, 0, 0, 0⟩, ⟨0, 0, 0, 0⟩⟩, ⟨1000, 1050, 1100, 1150, 1180, 1200, 1170, 1130, 1080, 1030, 1000, 990⟩, false, [⟨1, 2, 0, 65, 0, 1200, 600⟩]⟩

abbrev plainA (sa wa : Option Addr) : Array Value := #[I 4, I 1, I 0, .slice sa 3 3, I 2, I 1, I 2, I 4, I 1, I 2, I 3, I 5, I 3, I 0, I 0, I 0, I 0, I 0, I 0, I 0, I 0, I 0, I 0, I 1000, I 1050, I 1100, I 1150, I 1180, I 1200, I 1170, I 1130, I 1080, I 1030, I 1000, I 990, .bool false, .slice wa 1 1]
theorem st_blk {P : Program} {W : World} {g : Nat} {t ty : TypeId} {cs v : Array Value} (h : Blk W g t cs) (hs : v.size ≤ cs.size) (hi : (P.info? ty).map (·.size) = some v.size) (h1 : v.all (·.oneCell') = true) : St P W ty (.pointer (some ⟨g, 0, none⟩)) (.agg v) ∧ stV W (.pointer (some ⟨g, 0, none⟩)) (.agg v) = W.setCells g 0 v.toList :=
  ⟨⟨g, 0, v, rfl, rfl, h.there hs, hi, h1⟩, rfl⟩

set_option maxRecDepth 100000 in
set_option maxHeartbeats 2000000 in
theorem law10_Plain (w : World) : Calls Try.prog 28 #[] w (RetC plainC w) := by
  have hI : Blk (((w.alloc (.cells cfZ 33)).alloc (.cells #[I 0, I 1, I 3] 3)).alloc (.cells #[I 1, I 2, I 0, I 65, I 0, I 1200, I 600] 90)) (w.heap.size + 1) 3 #[I 0, I 1, I 3] := (Blk.new_ _ _ _ _ (by simp)).alloc _
  have hW : Blk (((w.alloc (.cells cfZ 33)).alloc (.cells #[I 0, I 1, I 3] 3)).alloc (.cells #[I 1, I 2, I 0, I 65, I 0, I 1200, I 600] 90)) (w.heap.size + 1 + 1) 90 #[I 1, I 2, I 0, I 65, I 0, I 1200, I 600] := Blk.new_ _ _ _ _ (by simp)
  have hR : Blk (((w.alloc (.cells cfZ 33)).alloc (.cells #[I 0, I 1, I 3] 3)).alloc (.cells #[I 1, I 2, I 0, I 65, I 0, I 1200, I 600] 90)) w.heap.size 33 cfZ := ((Blk.new _ _ _).alloc _).alloc _
  have hT : Below w.heap.size w (((w.alloc (.cells cfZ 33)).alloc (.cells #[I 0, I 1, I 3] 3)).alloc (.cells #[I 1, I 2, I 0, I 65, I 0, I 1200, I 600] 90)) := below3 _ _ _ _
  have hst := st_blk (P := Try.prog) (ty := 33) (v := plainA (some ⟨w.heap.size + 1, 0, none⟩) (some ⟨w.heap.size + 1 + 1, 0, none⟩)) hR (by simp) (by kernel_rfl) (by simp [Value.oneCell'])
  have hs1 := hst.1; have hs2 := hst.2; clear hst
  have hn1 : w.heap.size + 1 ≠ w.heap.size := by omega
  have hn2 : w.heap.size + 1 + 1 ≠ w.heap.size := by omega
  have hR5 := hR.setCells_own (plainA (some ⟨w.heap.size + 1, 0, none⟩) (some ⟨w.heap.size + 1 + 1, 0, none⟩)) (by simp)
  have hI5 := Blk.setCells_far hn1 (plainA (some ⟨w.heap.size + 1, 0, none⟩) (some ⟨w.heap.size + 1 + 1, 0, none⟩)).toList 0 hI
  have hW5 := Blk.setCells_far hn2 (plainA (some ⟨w.heap.size + 1, 0, none⟩) (some ⟨w.heap.size + 1 + 1, 0, none⟩)).toList 0 hW
  have hT5 := Below.setCells_ (Nat.le_refl _) (plainA (some ⟨w.heap.size + 1, 0, none⟩) (some ⟨w.heap.size + 1 + 1, 0, none⟩)).toList 0 hT
  generalize hWW : (((w.alloc (.cells cfZ 33)).alloc (.cells #[I 0, I 1, I 3] 3)).alloc (.cells #[I 1, I 2, I 0, I 65, I 0, I 1200, I 600] 90)).setCells w.heap.size 0 (plainA (some ⟨w.heap.size + 1, 0, none⟩) (some ⟨w.heap.size + 1 + 1, 0, none⟩)).toList = W5 at hs2 hR5 hI5 hW5 hT5
  clear hWW hI hW hR hT
  go_enter Try.func28, Try.ntmps28
  go_wp2
  exact bodyPost_ret (results_c rfl _ _ 33 rfl (c1 := plainA (some ⟨w.heap.size + 1, 0, none⟩) (some ⟨w.heap.size + 1 + 1, 0, none⟩)) hR5 Try.underlying33 rfl (by kernel_rfl)) rfl ⟨⟨some ⟨w.heap.size + 1, 0, none⟩, 3, 3, some ⟨w.heap.size + 1 + 1, 0, none⟩, 1, 1⟩, rfl, ⟨by simp, by simp,
    ⟨rfl, fun _ => ⟨w.heap.size + 1, 0, rfl, hI5.lt, fun k hk => by
      rw [Nat.zero_add]
      refine (hI5.cell k).trans ?_
      have hk' : k < 3 := hk
      match k, hk' with
      | 0, _ => rfl
      | 1, _ => rfl
      | 2, _ => rfl⟩⟩,
    ⟨rfl, fun _ => ⟨w.heap.size + 1 + 1, 0, rfl, hW5.lt, fun k hk => by
      have hk' : k < 1 := hk
      obtain rfl : k = 0 := by omega
      exact ⟨hW5.cell 0, hW5.cell 1, hW5.cell 2, hW5.cell 3, hW5.cell 4, hW5.cell 5, hW5.cell 6⟩⟩⟩⟩, fun x e => (by cases e; simp), fun x e => (by cases e; show w.heap.size ≤ w.heap.size + 1 + 1; omega), hT5⟩
end Nw
end Go.Proofs.Ytkipbgjaeapkkaa
