/- The iterator of a round's parts (cycle.parts): its contract, for every loop body that leaves old cells alone. -/
import Derived.RangeFuncNested
import Derived.RangeFuncBound
import Derived.RangeFuncCalls
import Derived.RangeFuncLeaves
import Derived.Shelf.Abstract
import Derived.Shelf.RegionOpen
import Derived.OwnWalkIn
import Derived.TacticsInMore
import Derived.LoopNIn
import Derived.LoopIn
import Derived.Test.YtkipbgjaeapkkaaNwCycle2
set_option linter.unusedSimpArgs false
set_option linter.unusedVariables false
namespace Go.Proofs.Ytkipbgjaeapkkaa
open Go.RowKit Go.Shelf
attribute [local go_sem] Oper.semAt_some
namespace Nw

/-- Old cells lie as they lay. -/
def KeepC (W W' : World) : Prop := W.heap.size ≤ W'.heap.size ∧ ∀ (k : Nat) cs t fr, W.heap[k]? = some (Obj.cells cs t fr) → W'.heap[k]? = some (Obj.cells cs t fr)
theorem KeepC.refl (W : World) : KeepC W W := ⟨Nat.le_refl _, fun _ _ _ _ h => h⟩
theorem KeepC.trans {A B C : World} (h : KeepC A B) (k : KeepC B C) : KeepC A C := ⟨Nat.le_trans h.1 k.1, fun i cs t fr hi => k.2 i cs t fr (h.2 i cs t fr hi)⟩
theorem KeepC.of_below {W W' : World} (h : Below W.heap.size W W') : KeepC W W' :=
  ⟨h.size, fun k cs t fr hk => (h.block k (Array.getElem?_eq_some_iff.1 hk).1).trans hk⟩
theorem KeepC.cell {W W' : World} (h : KeepC W W') {a : Addr} {v : Value} (hc : W.cell? a = some v) : W'.cell? a = some v := by
  unfold World.cell? at hc ⊢
  split at hc
  · rename_i cs t fr hk
    rw [h.2 _ _ _ _ hk]
    exact hc
  · cases hc
theorem KeepC.blk {W W' : World} (h : KeepC W W') {g : Nat} {t : TypeId} {cs : Array Value} (hb : Blk W g t cs) : Blk W' g t cs := h.2 _ _ _ _ hb
theorem KeepC.rdI {W W' : World} (h : KeepC W W') {a : Option Addr} {n : Nat} {xs : List Int} (hr : RdI W a n xs) : RdI W' a n xs :=
  ⟨hr.1, fun hn => by
    obtain ⟨b, off, e, hl, hc⟩ := hr.2 hn
    exact ⟨b, off, e, Nat.lt_of_lt_of_le hl h.1, fun k hk => h.cell (hc k hk)⟩⟩
theorem KeepC.putObj {W : World} {l : Nat} {o o' : Obj} (hl : W.heap[l]? = some o) (ho : o.isCells = false) : KeepC W (W.putObj l o') := by
  refine ⟨by simp, fun k cs t fr hk => ?_⟩
  by_cases e : k = l
  · subst e; rw [hl] at hk; cases hk; simp [Obj.isCells] at ho
  · exact (World.putObj_heap_other e).trans hk

end Nw
end Go.Proofs.Ytkipbgjaeapkkaa
