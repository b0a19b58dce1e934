/- What newelref10.Few, newellaw23.own and newellaw10.Plain do: contracts. -/
import Derived.Test.YtkipbgjaeapkkaaNwOwn
set_option linter.unusedSimpArgs false
set_option linter.unusedVariables false
namespace Go.Proofs.Ytkipbgjaeapkkaa
open Go.RowKit
attribute [local go_sem ↓] Nw.ld_rule Nw.eq_rule Nw.st_rule
namespace Nw

def Cl.few (l : Cl) : Bool := decide ((l.sn : Int) ≤ 80) && decide ((l.wn : Int) ≤ 20)

set_option maxRecDepth 100000 in
set_option maxHeartbeats 1000000 in
theorem ref10_Few (c : Cf) (l : Cl) (w : World) :
    Calls Try.prog 9 #[c.v l] w fun e w' => e = .returned (.bool l.few) ∧ Below w.heap.size w w' := by
  have HV : Hid (l.few = (decide ((l.sn : Int) ≤ 80) && decide ((l.wn : Int) ≤ 20))) := rfl
  cases h1 : decide ((l.sn : Int) ≤ 80) <;> cases h2 : decide ((l.wn : Int) ≤ 20)
  all_goals
    go_enter Try.func9, Try.ntmps9
    go_wp2
    go_ret
    exact ⟨by rw [HV.out, h1, h2]; rfl, below1 _ _⟩

theorem Blk.setCells_part {W : World} {g : Nat} {t : TypeId} {cs tgt : Array Value} (h : Blk W g t cs) (vs : List Value) (hl : vs.length ≤ cs.size) (hs : tgt.size = cs.size)
    (h1 : ∀ j, j < vs.length → tgt[j]? = vs[j]?) (h2 : ∀ j, vs.length ≤ j → tgt[j]? = cs[j]?) : Blk (W.setCells g 0 vs) g t tgt := by
  obtain ⟨cs', k1, k2⟩ := h.setCells_some vs 0
  refine k1.conv ?_
  apply Array.ext
  · omega
  · intro j hj1 hj2
    have hc := k1.cell j
    rw [Array.getElem?_eq_getElem hj1] at hc
    have ht : tgt[j]? = some tgt[j] := Array.getElem?_eq_getElem hj2
    rcases Nat.lt_or_ge j vs.length with hlt | hge
    · have hin := World.cell?_setCells_in g vs 0 W (fun i hi => (h.there (n := vs.length) (by omega) i hi).1) j hlt
      rw [Nat.zero_add] at hin
      rw [h1 j hlt, List.getElem?_eq_getElem hlt] at ht
      rw [hin] at hc
      injection hc with hc
      injection ht with ht
      rw [← hc, ht]
    · rw [World.cell?_setCells_out g vs 0 W ⟨g, j, none⟩ (fun _ _ => .inr (by simpa using hge)), h.cell, ← h2 j hge, ht] at hc
      injection hc with hc
      exact hc.symm

theorem st_au {W : World} {g : Nat} {a : Au} {l : Cl} {cs : Array Value} (h : Blk W g 60 cs) (hs : cs.size = 47) : St Try.prog W 60 (.pointer (some ⟨g, 0, none⟩)) (a.v l) ∧ stV W (.pointer (some ⟨g, 0, none⟩)) (a.v l) = W.setCells g 0 (auC a l).toList :=
  ⟨⟨g, 0, auC a l, rfl, rfl, h.there (by rw [hs]; exact Nat.le_refl _), by kernel_rfl, by simp [Value.oneCell']⟩, rfl⟩
theorem st_cfg_part {W : World} {g : Nat} {t : TypeId} {c : Cf} {l : Cl} {cs : Array Value} (h : Blk W g t cs) (hs : 37 ≤ cs.size) : St Try.prog W 33 (.pointer (some ⟨g, 0, none⟩)) (c.v l) ∧ stV W (.pointer (some ⟨g, 0, none⟩)) (c.v l) = W.setCells g 0 (cfC c l).toList :=
  ⟨⟨g, 0, cfC c l, rfl, rfl, h.there hs, by kernel_rfl, by simp [Value.oneCell']⟩, rfl⟩

abbrev auZ : Array Value := #[I 0, I 0, I 0, .slice none 0 0, I 0, I 0, I 0, I 0, I 0, I 0, I 0, I 0, I 0, I 0, I 0, I 0, I 0, I 0, I 0, I 0, I 0, I 0, I 0, I 0, I 0, I 0, I 0, I 0, I 0, I 0, I 0, I 0, I 0, I 0, I 0, .bool false, .slice none 0 0, I 0, I 0, I 0, I 0, I 0, I 0, I 0, I 0, I 0, I 0]
/-- a car handed back, its configuration's lists in new memory -/
def RetA (a : Au) (w : World) (e : Ending) (w' : World) : Prop :=
  ∃ l : Cl, e = .returned (a.v l) ∧ a.c.In l w' ∧ Below w.heap.size w w'

set_option maxRecDepth 100000 in
set_option maxHeartbeats 4000000 in
theorem law23_own (a : Au) (l : Cl) (w : World) (hIn : a.c.In l w) (hna : l.sa = none → l.sn = 0 ∧ l.sc = 0) (hnb : l.wa = none → l.wn = 0 ∧ l.wc = 0) :
    Calls Try.prog 22 #[a.v l] w (RetA a w) := by
  have HIn := Lib.hid hIn; have HNA := Lib.hid hna; have HNB := Lib.hid hnb
  clear hIn hna hnb
  have hA0 := (Blk.new w 60 (auC a l)).alloc (.cells auZ 60)
  have hR0 : Blk ((w.alloc (.cells (auC a l) 60)).alloc (.cells auZ 60)) (w.heap.size + 1) 60 auZ := Blk.new_ _ _ _ _ (by simp)
  have HA0 := Lib.hid hA0; have HR0 := Lib.hid hR0
  obtain ⟨hl1, hl2⟩ := ld_au_cf hA0
  clear hA0 hR0
  go_enter Try.func22, Try.ntmps22
  go_wp2_with fail
  refine (law10_Own a.c l _ (HIn.out.below (below2 _ _ _)) HNA.out HNB.out).mono ?_
  rintro e w1 ⟨l', rfl, hi', hg1, hg2, hb1⟩
  have hA1 := HA0.out.belowAll hb1
  have hR1 := HR0.out.belowAll hb1
  have hT1 := behind (below2 _ _ _) hb1
  have hg1' : ∀ x, l'.sa = some x → w.heap.size + 1 + 1 ≤ x.block := fun x e => by have := hg1 x e; simpa using this
  have hg2' : ∀ x, l'.wa = some x → w.heap.size + 1 + 1 ≤ x.block := fun x e => by have := hg2 x e; simpa using this
  clear hl1 hl2 hb1 hg1 hg2
  have hst := st_cfg_part (c := a.c) (l := l') hA1 (by simp)
  have hs1 := hst.1; have hs2 := hst.2; clear hst
  have hA2 : Blk (w1.setCells w.heap.size 0 (cfC a.c l').toList) w.heap.size 60 (auC a l') := hA1.setCells_part (cfC a.c l').toList (by simp) (by simp) (by
    intro j hj
    have hj' : j < 37 := by simpa using hj
    have := au_cf a l' j ((cfC a.c l').toList[j]) (List.getElem?_eq_getElem hj)
    rw [Nat.zero_add] at this
    rw [this, List.getElem?_eq_getElem hj]) (by
    intro j hj
    have hj' : 37 ≤ j := by simpa using hj
    obtain ⟨k, rfl⟩ : ∃ k, j = 37 + k := ⟨j - 37, by omega⟩
    match k with
    | 0 => rfl
    | 1 => rfl
    | 2 => rfl
    | 3 => rfl
    | 4 => rfl
    | 5 => rfl
    | 6 => rfl
    | 7 => rfl
    | 8 => rfl
    | 9 => rfl
    | k + 10 => rw [Array.getElem?_eq_none (by simp; omega), Array.getElem?_eq_none (by simp; omega)])
  have hne : w.heap.size + 1 ≠ w.heap.size := by omega
  have hR2 := Blk.setCells_far hne (cfC a.c l').toList 0 hR1
  have hT2 := Below.setCells_ (Nat.le_refl _) (cfC a.c l').toList 0 hT1
  have hI2 := RdI.setCells_ hg1' (g := w.heap.size) (by omega) (cfC a.c l').toList 0 hi'.s
  have hW2 := RdW.setCells_ hg2' (g := w.heap.size) (by omega) (cfC a.c l').toList 0 hi'.w
  generalize hWW : w1.setCells w.heap.size 0 (cfC a.c l').toList = W2 at hs2 hA2 hR2 hT2 hI2 hW2
  clear hWW hA1 hR1 hT1
  obtain ⟨hl1, hl2⟩ := ld_au hA2
  have hst := st_au (a := a) (l := l') hR2 (by simp)
  have hs3 := hst.1; have hs4 := hst.2; clear hst
  go_wp2
  exact bodyPost_ret (results_c rfl _ _ 60 rfl (c1 := auC a l') (hR2.setCells_own (auC a l') rfl) Try.underlying60 rfl (by kernel_rfl)) rfl ⟨l', rfl, ⟨hi'.sn, hi'.wn, RdI.setCells_ hg1' (by omega) _ _ hI2, RdW.setCells_ hg2' (by omega) _ _ hW2⟩, Below.setCells_ (by omega) _ _ hT2⟩

end Nw
end Go.Proofs.Ytkipbgjaeapkkaa
