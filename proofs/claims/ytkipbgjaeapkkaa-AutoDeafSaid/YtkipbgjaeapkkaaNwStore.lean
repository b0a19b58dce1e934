/- A struct of many cells that is stored whole: one rule. -/
import Derived.Test.YtkipbgjaeapkkaaNwStep2
import Derived.Deep.MidRow
set_option linter.unusedSimpArgs false
set_option linter.unusedVariables false
namespace Go.Proofs.Ytkipbgjaeapkkaa
open Go.RowKit
namespace Nw

/-- the world behind a store -/
def stV (W : World) (p v : Value) : World :=
  match p, v with
  | .pointer (some ⟨b, o, none⟩), .agg cs => W.setCells b o cs.toList
  | _, _ => W
/-- it can be stored -/
def St (P : Program) (W : World) (ty : TypeId) (p v : Value) : Prop :=
  ∃ (b o : Nat) (cs : Array Value), p = .pointer (some ⟨b, o, none⟩) ∧ v = .agg cs ∧ W.there b o cs.size ∧ (P.info? ty).map (·.size) = some cs.size ∧ cs.all (·.oneCell') = true
theorem st_rule {P : Program} {W : World} {ty : TypeId} {a : Act} {x y : Operand} (h : St P W ty (a.eval x) (a.eval y)) {dst : Option Tmp} {t : TypeId} {pos : String} {after : Array Edge} {K : Act → World → Prop} {Q : Exit → Act → World → Prop} :
    Oper.wp P { dst := dst, op := .store ty x y, type := t, pos := pos, after := after, guard := none } a W K Q = K (a.put dst undef) (stV W (a.eval x) (a.eval y)) := by
  obtain ⟨b, o, cs, hp, hv, ht, hi, h1⟩ := h
  unfold Oper.wp execOp
  simp only [hp, hv, Instr.storeAt, Instr.sureAddr, Sem.run_bind, Sem.run_pure, Result.andThen_ok, run_storeVar_mid W b o ty cs ht hi h1, stV]
  rfl

theorem Blk.setCells_some {g : Nat} {t : TypeId} : ∀ (vs : List Value) (o : Nat) {W : World} {cs : Array Value}, Blk W g t cs → ∃ cs', Blk (W.setCells g o vs) g t cs' ∧ cs'.size = cs.size
  | [], _, _, cs, h => ⟨cs, h, rfl⟩
  | v :: r, o, W, cs, h => by
    obtain ⟨cs', h1, h2⟩ := Blk.setCells_some r (o + 1) (h.set_ o v)
    exact ⟨cs', h1, by rw [h2]; simp⟩
theorem Blk.there {W : World} {g : Nat} {t : TypeId} {cs : Array Value} (h : Blk W g t cs) {n : Nat} (hn : n ≤ cs.size) : W.there g 0 n := fun j hj => by
  rw [Nat.zero_add]
  refine ⟨?_, h.frozen j⟩
  rw [h.cell, Array.getElem?_eq_getElem (by omega)]
  rfl
theorem Blk.setCells_own {W : World} {g : Nat} {t : TypeId} {cs : Array Value} (h : Blk W g t cs) (vs : Array Value) (hl : vs.size = cs.size) : Blk (W.setCells g 0 vs.toList) g t vs := by
  obtain ⟨cs', h1, h2⟩ := h.setCells_some vs.toList 0
  refine h1.conv ?_
  apply Array.ext
  · omega
  · intro j hj1 hj2
    have hc := h1.cell j
    have hin := World.cell?_setCells_in g vs.toList 0 W (fun i hi => (h.there (n := vs.size) (by omega) i (by simpa using hi)).1) j (by simpa using hj2)
    rw [Nat.zero_add] at hin
    rw [hin, Array.getElem?_eq_getElem hj1] at hc
    simpa using hc.symm
theorem Blk.setCells_far {g b : Nat} {t : TypeId} {cs : Array Value} (hne : g ≠ b) : ∀ (vs : List Value) (o : Nat) {W : World}, Blk W g t cs → Blk (W.setCells b o vs) g t cs
  | [], _, _, h => h
  | v :: r, o, W, h => Blk.setCells_far hne r (o + 1) (Blk.far_ hne h v)
theorem Below.setCells_ {B b : Nat} {a : World} (hb : B ≤ b) : ∀ (vs : List Value) (o : Nat) {W : World}, Below B a W → Below B a (W.setCells b o vs)
  | [], _, _, h => h
  | v :: r, o, W, h => Below.setCells_ hb r (o + 1) (h.setCell hb v)
theorem RdI.setCells_ {a : Option Addr} {n : Nat} {xs : List Int} {B g : Nat} (ha : ∀ x, a = some x → B ≤ x.block) (hg : g < B) : ∀ (vs : List Value) (o : Nat) {W : World}, RdI W a n xs → RdI (W.setCells g o vs) a n xs
  | [], _, _, h => h
  | v :: r, o, W, h => RdI.setCells_ ha hg r (o + 1) (h.set ha hg v)
theorem cell_far {W : World} {b g k o : Nat} (hne : b ≠ g) (u : Value) : (W.setCell ⟨g, o, none⟩ u).cell? ⟨b, k, none⟩ = W.cell? ⟨b, k, none⟩ := by
  have hh := Below.heap_setCell W ⟨g, o, none⟩ u b (by dsimp only; omega)
  unfold World.cell?
  simp only [hh]
theorem RdW.set {w : World} {a : Option Addr} {n : Nat} {xs : List Wn} (h : RdW w a n xs) {B g o : Nat} (ha : ∀ x, a = some x → B ≤ x.block) (hg : g < B) (u : Value) : RdW (w.setCell ⟨g, o, none⟩ u) a n xs :=
  ⟨h.1, fun hn => by
    obtain ⟨b, off, e, hl, hc⟩ := h.2 hn
    have hb : B ≤ b := ha _ e
    refine ⟨b, off, e, by simpa [World.setCell] using hl, fun k hk => ?_⟩
    have := hc k hk
    simp only [cell_far (show b ≠ g by omega)]
    exact this⟩
theorem RdW.setCells_ {a : Option Addr} {n : Nat} {xs : List Wn} {B g : Nat} (ha : ∀ x, a = some x → B ≤ x.block) (hg : g < B) : ∀ (vs : List Value) (o : Nat) {W : World}, RdW W a n xs → RdW (W.setCells g o vs) a n xs
  | [], _, _, h => h
  | v :: r, o, W, h => RdW.setCells_ ha hg r (o + 1) (h.set ha hg v)

/-- a window's cells -/
def winC (x : Wn) : List Value := [I x.kind, I x.mode, I x.prio, I x.arg, I x.shift, I x.minute, I x.len]
def flatW (xs : List Wn) : List Value := xs.flatMap winC
theorem flatW_length (xs : List Wn) : (flatW xs).length = xs.length * 7 := by
  induction xs with
  | nil => rfl
  | cons x xs ih => unfold flatW at ih ⊢; rw [List.flatMap_cons, List.length_append, ih]; simp [winC]; omega
theorem flatW_get (xs : List Wn) : ∀ (k r : Nat), k < xs.length → r < 7 → (flatW xs)[k * 7 + r]? = (winC (xs[k]?.getD default))[r]? := by
  induction xs with
  | nil => intro k r hk; simp at hk
  | cons x xs ih =>
    intro k r hk hr
    unfold flatW at ih ⊢
    rw [List.flatMap_cons]
    cases k with
    | zero => rw [List.getElem?_append_left (by simp [winC]; omega)]; simp
    | succ k =>
      rw [List.getElem?_append_right (by simp [winC]; omega)]
      have h1 : (k + 1) * 7 + r - (winC x).length = k * 7 + r := by simp [winC]; omega
      rw [h1, ih k r (by simpa using hk) hr]
      simp
/-- The cells of a list of windows that came in. -/
theorem RdW.cells {w : World} {b off n : Nat} {xs : List Wn} (h : RdW w (some ⟨b, off, none⟩) n xs) (j : Nat) (u : Value) (hj : (flatW xs)[j]? = some u) : w.cell? ((⟨b, off, none⟩ : Addr).add j) = some u := by
  have hadd : (⟨b, off, none⟩ : Addr).add j = ⟨b, off + j, none⟩ := by unfold Addr.add; split <;> simp_all
  rw [hadd]
  have hlt : j < xs.length * 7 := by
    rcases Nat.lt_or_ge j (xs.length * 7) with h | h
    · exact h
    · rw [List.getElem?_eq_none (by rw [flatW_length]; exact h)] at hj; cases hj
  have hl := h.1
  obtain ⟨b', off', e, -, hc⟩ := h.2 (by omega)
  cases e
  have hk : j / 7 < xs.length := by omega
  have hr : j % 7 < 7 := Nat.mod_lt _ (by omega)
  have hdm : j = (j / 7) * 7 + j % 7 := by omega
  rw [hdm, flatW_get xs _ _ hk hr] at hj
  have hcell := hc (j / 7) (by omega)
  rw [show off + j = off + (j / 7) * 7 + j % 7 from by omega]
  generalize j % 7 = r at hj hr ⊢
  generalize xs[j / 7]?.getD default = y at hj hcell
  obtain ⟨h0, h1, h2, h3, h4, h5, h6⟩ := hcell
  unfold winC at hj
  match r, hr with
  | 0, _ => simp at hj; rw [← hj]; exact h0
  | 1, _ => simp at hj; rw [← hj]; exact h1
  | 2, _ => simp at hj; rw [← hj]; exact h2
  | 3, _ => simp at hj; rw [← hj]; exact h3
  | 4, _ => simp at hj; rw [← hj]; exact h4
  | 5, _ => simp at hj; rw [← hj]; exact h5
  | 6, _ => simp at hj; rw [← hj]; exact h6
/-- A slice of one's own reads as a list of windows. -/
theorem RdW.of_own0 {w : World} {B n : Nat} {e : TypeId} {v : Value} {xs : List Wn} (hx : xs.length = n) (h : w.ownsRow B e 7 v n (flatW xs)) : ∃ a c, v = .slice a n c ∧ RdW w a n xs ∧ ∀ x, a = some x → B ≤ x.block := by
  obtain ⟨h1, ⟨rfl, h0⟩ | ⟨g, cap, cur, rfl, h3⟩⟩ := id h
  · subst h0
    exact ⟨_, _, rfl, ⟨hx, fun h => absurd h (by omega)⟩, fun x e => by cases e⟩
  · refine ⟨_, _, rfl, ⟨hx, fun hn => ⟨g, 0, rfl, (Array.getElem?_eq_some_iff.1 h3.2.1).1, fun k hk => ?_⟩⟩, fun x e => by cases e; exact h3.1⟩
    have hc : ∀ r, r < 7 → w.cell? ⟨g, k * 7 + r, none⟩ = (winC (xs[k]?.getD default))[r]? := fun r hr => by
      rw [h.cellAt (k * 7 + r) (by omega), flatW_get xs k r (by omega) hr]
    rw [Nat.zero_add]
    exact ⟨hc 0 (by omega), hc 1 (by omega), hc 2 (by omega), hc 3 (by omega), hc 4 (by omega), hc 5 (by omega), hc 6 (by omega)⟩
end Nw
end Go.Proofs.Ytkipbgjaeapkkaa
