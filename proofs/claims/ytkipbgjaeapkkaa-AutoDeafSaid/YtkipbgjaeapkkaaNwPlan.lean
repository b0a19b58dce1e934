/- What auto.plan does: a contract. -/
import Derived.Test.YtkipbgjaeapkkaaNwGear
set_option linter.unusedSimpArgs false
set_option linter.unusedVariables false
namespace Go.Proofs.Ytkipbgjaeapkkaa
open Go.RowKit
namespace Nw

theorem results_c {P : Program} {fn : Func} {p : Tmp} {t1 : TypeId} (h : fn.results = #[.cell p t1]) (tmps : Array Value) (w : World) {g1 : Nat} (T1 : TypeId) {c1 : Array Value} {d1 : TypeDesc}
    (hp : tmps.getD p undef = .pointer (some ⟨g1, 0, none⟩)) (h1 : Blk w g1 T1 c1)
    (hu1 : P.underlying t1 = some d1) (hd1 : (match d1 with | .struct _ | .array _ _ => true | _ => false) = true) (hi1 : (P.info? t1).map (·.size) = some c1.size) :
    (results fn tmps).run P w = .ok (.agg c1) w := by
  have hp' : tmps[p]?.getD undef = .pointer (some ⟨g1, 0, none⟩) := by simpa using hp
  simp [results, h, hp', asAddr, run_loadVar_row w g1 T1 t1 c1 (0, 0) d1 h1 hu1 hd1 hi1]

/-- a plan handed back, its list in new memory -/
def RetP (p : Pl) (w : World) (e : Ending) (w' : World) : Prop :=
  ∃ ll : Ll, e = .returned (p.v ll) ∧ p.In ll w' ∧ (∀ x, ll.a = some x → w.heap.size ≤ x.block) ∧ Below w.heap.size w w'

theorem RdI.nil (w : World) (a : Option Addr) : RdI w a 0 [] := ⟨rfl, fun h => absurd h (by omega)⟩
theorem RdI.of_own0 {w : World} {B n : Nat} {e : TypeId} {v : Value} {xs : List Int} (h : w.ownsRow B e 1 v n (xs.map I)) : ∃ a c, v = .slice a n c ∧ RdI w a n xs ∧ ∀ x, a = some x → B ≤ x.block := by
  rcases Nat.eq_zero_or_pos n with rfl | hn
  · have hl : xs = [] := by have := h.1; simpa using this
    subst hl
    obtain ⟨_, ⟨rfl, _⟩ | ⟨g, cap, cur, rfl, hg, _⟩⟩ := h
    · exact ⟨_, _, rfl, RdI.nil _ _, fun x e => by cases e⟩
    · exact ⟨_, _, rfl, RdI.nil _ _, fun x e => by cases e; exact hg⟩
  · obtain ⟨h1, ⟨_, h0⟩ | ⟨g, cap, cur, rfl, h3⟩⟩ := h
    · omega
    · exact ⟨_, _, rfl, RdI.of_own ⟨h1, .inr ⟨g, cap, cur, rfl, h3⟩⟩ hn, fun x e => by cases e; exact h3.1⟩
/-- A store elsewhere leaves the list. -/
theorem RdI.set {w : World} {a : Option Addr} {n : Nat} {xs : List Int} (h : RdI w a n xs) {B g o : Nat} (ha : ∀ x, a = some x → B ≤ x.block) (hg : g < B) (u : Value) : RdI (w.setCell ⟨g, o, none⟩ u) a n xs :=
  ⟨h.1, fun hn => by
    obtain ⟨b, off, e, hl, hc⟩ := h.2 hn
    have hb : B ≤ b := ha _ e
    refine ⟨b, off, e, by simpa [World.setCell] using hl, fun k hk => ?_⟩
    have hh := Below.heap_setCell w ⟨g, o, none⟩ u b (by dsimp only; omega)
    have := hc k hk
    unfold World.cell? at this ⊢
    simp only [hh]
    exact this⟩

set_option maxRecDepth 100000 in
set_option maxHeartbeats 2000000 in
theorem auto_plan_none (c : Cf) (l : Cl) (mode nth : Int) (w : World) (h1 : (mode == 1) = false) (h2 : (mode == 2) = false) :
    Calls Try.prog 56 #[c.v l, I mode, I nth] w (RetP (c.plan mode nth) w) := by
  have HV : Hid (c.plan mode nth = ⟨[], 0, 0⟩) := by unfold Hid Cf.plan; rw [h1, h2]; rfl
  rw [HV.out]
  go_enter Try.func56, Try.ntmps56
  go_wp2
  exact bodyPost_ret (results_c rfl _ _ 45 rfl (c1 := #[.slice none 0 0, I 0, I 0]) ((Blk.new_ _ _ _ _ (by simp)).alloc _) Try.underlying45 rfl (by kernel_rfl)) rfl ⟨⟨none, 0, 0⟩, rfl, ⟨by simp, RdI.nil _ _⟩, fun x e => (by cases e), below3 _ _ _ _⟩

theorem Blk.grownN {w w' : World} {g B : Nat} {row : Option Nat} {t : TypeId} {cs : Array Value} (h : Blk w g t cs) (hg : w.grownBy w' row) (hrow : ∀ j, row = some j → B ≤ j) (hlt : g < B) : Blk w' g t cs :=
  (hg.block g h.lt (fun e => absurd (hrow g e.symm) (by omega))).trans h

set_option maxRecDepth 100000 in
set_option maxHeartbeats 4000000 in
theorem auto_plan_stops (c : Cf) (l : Cl) (nth : Int) (w : World) (hIn : c.In l w) (h2 : 2 ≤ c.stops.length) :
    Calls Try.prog 56 #[c.v l, I 1, I nth] w (RetP (c.plan 1 nth) w) := by
  have HV : Hid (c.plan 1 nth = ⟨c.stops, c.cars, nth⟩) := rfl
  rw [HV.out]
  obtain ⟨i0, hi, hz0, hz1, hz2⟩ := info_parts Try.infoInt
  obtain ⟨hn, -, hs, -⟩ := hIn
  obtain ⟨sa, sn, sc, wa, wn, wc⟩ := l
  dsimp only at hn hs ⊢
  obtain ⟨hlen, hcells⟩ := hs
  rw [hlen] at h2
  obtain ⟨b, off, rfl, hlt, hc⟩ := hcells (by omega)
  have hnews : ∀ w', Below w.heap.size w w' → ∀ j u, (c.stops.map I)[j]? = some u → w'.cell? ((⟨b, off, none⟩ : Addr).add j) = some u := by
    intro w' hb j u hj
    have hj' : j < c.stops.length := by
      rcases Nat.lt_or_ge j c.stops.length with h | h
      · exact h
      · rw [List.getElem?_eq_none (by simpa using h)] at hj; cases hj
    have hadd : (⟨b, off, none⟩ : Addr).add j = ⟨b, off + j, none⟩ := by unfold Addr.add; split <;> simp_all
    rw [hadd, (hb.cell (p := ⟨b, off + j, none⟩) hlt).trans (hc j (by omega))]
    simp [List.getElem?_map, hj'] at hj
    simp [hj', hj]
  have Hnews := Lib.hid hnews; have HL := Lib.hid hlen
  clear hc hcells hlen hnews
  have hW0 : ∀ o1 o2 o3, Below (w.heap.size + 1 + 1 + 1) (((w.alloc o1).alloc o2).alloc o3) (((w.alloc o1).alloc o2).alloc o3) := fun _ _ _ => Below.refl _ _
  have hO0 : ∀ W : World, W.ownsRow (w.heap.size + 1 + 1 + 1) 3 1 (.slice none 0 0) 0 [] := fun W => ⟨rfl, .inl ⟨rfl, rfl⟩⟩
  go_enter Try.func56, Try.ntmps56
  go_wp2_with (at_builtin; refine wpList_append_own _ rfl _ _ 22 rfl (w.heap.size + 1 + 1 + 1) 3 i0 (I 0) 1 8 Try.underlying22 hi hz0 hz1 hz2 rfl (by decide) _ _ _ rfl (hO0 _) ⟨b, off, none⟩ sn sc (c.stops.map I) rfl ?qa ?qb ?qc ?qd ?qe ?qf ?qg; (case qa => simp [HL.out]); (case qb => exact Hnews.out _ (below3 _ _ _ _)); (case qc => simp [Value.oneCell']); (case qd => simp [maxLen]; omega); (case qe => omega); (case qf => simp); (intro v1 w1 hown1 hgrow1 _); rw [Nat.zero_add, List.nil_append] at hown1; obtain ⟨va, vc, rfl, -, -⟩ := RdI.of_own0 hown1; have hb1 := (hW0 _ _ _).grown hgrow1 (by simp) (fun j e => by cases e); have hbP := (Blk.new_ (((w.alloc _).alloc _)) 45 _ (w.heap.size + 1 + 1) (by simp)).below hb1 (by omega); have hbR := ((Blk.new_ ((w.alloc _)) 45 _ (w.heap.size + 1) (by simp)).alloc _).below hb1 (by omega); have hcP := hbP.cell; have hfP := hbP.frozen; have hcR := hbR.cell; have hfR := hbR.frozen)
  go_wp2
  have hne : w.heap.size + 1 ≠ w.heap.size + 1 + 1 := by omega
  obtain ⟨va2, vc2, e2, hrd, hge⟩ := RdI.of_own0 (ownsRow_setCell_below (ownsRow_setCell_below (ownsRow_setCell_below (ownsRow_setCell_below hown1 (a := ⟨w.heap.size + 1 + 1, 0, none⟩) (by dsimp only; omega) (.slice va sn vc)) (a := ⟨w.heap.size + 1, 0, none⟩) (by dsimp only; omega) (.slice va sn vc)) (a := ⟨w.heap.size + 1, 1, none⟩) (by dsimp only; omega) (I c.cars)) (a := ⟨w.heap.size + 1, 2, none⟩) (by dsimp only; omega) (I nth))
  injection e2 with e3 e4 e5
  subst e3 e5
  have hT : Below w.heap.size w w1 := (below3 w _ _ _).trans (hb1.mono (by omega))
  exact bodyPost_ret (results_c rfl _ _ 45 rfl (c1 := #[.slice va sn vc, I c.cars, I nth]) (by apply Blk.conv; (case h => repeat (first | with_reducible exact hbR | with_reducible apply Blk.set_ | with_reducible apply Blk.far_ hne)); (case e => simp)) Try.underlying45 rfl (by kernel_rfl)) rfl ⟨⟨va, sn, vc⟩, rfl, ⟨hn, hrd⟩, fun x e => (by have := hge x e; omega), by repeat (first | with_reducible exact hT | with_reducible refine Below.setCell ?_ (by dsimp only; omega) _ | with_reducible refine Below.drew ?_)⟩

set_option maxRecDepth 100000 in
set_option maxHeartbeats 4000000 in
theorem auto_plan_floors (c : Cf) (l : Cl) (nth : Int) (w : World) (h0 : 0 ≤ c.floors) (h1 : c.floors ≤ 64) :
    Calls Try.prog 56 #[c.v l, I 2, I nth] w (RetP (c.plan 2 nth) w) := by
  have HV : Hid (c.plan 2 nth = ⟨floorsUp c.floors.toNat, c.cars, nth⟩) := rfl
  rw [HV.out]
  obtain ⟨N, hN⟩ : ∃ N : Nat, c.floors = N := ⟨c.floors.toNat, by omega⟩
  have HN : Hid (c.floors.toNat = N) := by unfold Hid; omega
  rw [HN.out]
  have hN64 : N ≤ 64 := by omega
  clear h0 h1
  obtain ⟨i0, hi, hz0, hz1, hz2⟩ := info_parts Try.infoInt
  have hO0 : ∀ W : World, W.ownsRow (w.heap.size + 1 + 1 + 1) 3 1 (.slice none 0 0) 0 [] := fun W => ⟨rfl, .inl ⟨rfl, rfl⟩⟩
  go_enter Try.func56, Try.ntmps56
  go_wp2
  go_loopw [27] (fun i wr => ∃ (k : Nat) (v : Value), k ≤ N ∧ i = I k ∧ wr.ownsRow (w.heap.size + 1 + 1 + 1) 3 1 v k ((floorsUp k).map I) ∧ Blk wr (w.heap.size + 1 + 1) 45 #[v, I c.cars, I nth] ∧ Blk wr (w.heap.size + 1) 45 #[.slice none 0 0, I 0, I 0] ∧ w.heap.size + 1 + 1 + 1 ≤ wr.heap.size ∧ Below w.heap.size w wr) (fun i _ => N - (intOf i).toNat)
  case atStart => exact ⟨0, _, by omega, rfl, hO0 _, Blk.new_ _ _ _ _ (by simp), (Blk.new_ _ _ _ _ (by simp)).alloc _, by simp, below3 _ _ _ _⟩
  case round =>
    obtain ⟨k, v, hk, rfl, hown, hP, hR, hsz, hb⟩ := hrel
    have hcP := hP.cell; have hfP := hP.frozen; have hcR := hR.cell; have hfR := hR.frozen
    obtain ⟨va, vc, rfl, -, -⟩ := RdI.of_own0 hown
    by_cases hlt : k < N
    · go_wp2_with (at_builtin; refine wpList_append_own _ rfl _ _ 22 rfl (w.heap.size + 1 + 1 + 1) 3 i0 (I 0) 1 8 Try.underlying22 hi hz0 hz1 hz2 rfl (by decide) _ _ _ rfl (hown.alloc _) ⟨wr.heap.size, 0, none⟩ 1 1 [I k] rfl ?qa ?qb ?qc ?qd ?qe ?qf ?qg; (case qa => rfl); (case qb => exact cell_one_new _ _ _); (case qc => simp [Value.oneCell']); (case qd => simp [maxLen]; omega); (case qe => omega); (case qf => simp; omega); (intro v1 w1 hown1 hgrow1 _); have hown2 : w1.ownsRow (w.heap.size + 1 + 1 + 1) 3 1 v1 (k + 1) ((floorsUp (k + 1)).map I) := (by unfold floorsUp; rw [List.range_succ, List.map_append, List.map_append]; exact hown1); clear hown1; obtain ⟨va1, vc1, rfl, -, -⟩ := RdI.of_own0 hown2; have hP1 := (hP.alloc _).grownN hgrow1 (fun j e => (hown.lt j e).1) (by omega); have hR1 := (hR.alloc _).grownN hgrow1 (fun j e => (hown.lt j e).1) (by omega); have hcP1 := hP1.cell; have hfP1 := hP1.frozen; clear hcP hfP hcR hfR)
      have hsz1 := hgrow1.size
      simp at hsz1
      refine ⟨⟨k + 1, _, by omega, by go_num, ownsRow_setCell_below hown2 (by dsimp only; omega) _, (hP1.set_ 0 _).conv (by simp), Blk.far_ (by omega) hR1 _, by simp; omega, ?_⟩, by simp [intOf]; omega⟩
      exact ((hb.alloc (by omega) _).grown hgrow1 (by simp; omega) (fun j e => by have := (hown.lt j e).1; omega)).setCell (by dsimp only; omega) _
    · obtain rfl : k = N := by omega
      go_wp2
      have hne : w.heap.size + 1 ≠ w.heap.size + 1 + 1 := by omega
      obtain ⟨va2, vc2, e2, hrd, hge⟩ := RdI.of_own0 (ownsRow_setCell_below (ownsRow_setCell_below (ownsRow_setCell_below hown (a := ⟨w.heap.size + 1, 0, none⟩) (by dsimp only; omega) (.slice va k vc)) (a := ⟨w.heap.size + 1, 1, none⟩) (by dsimp only; omega) (I c.cars)) (a := ⟨w.heap.size + 1, 2, none⟩) (by dsimp only; omega) (I nth))
      injection e2 with e3 e4 e5
      subst e3 e5
      exact bodyPost_ret (results_c rfl _ _ 45 rfl (c1 := #[.slice va k vc, I c.cars, I nth]) (by apply Blk.conv; (case h => repeat (first | with_reducible exact hR | with_reducible apply Blk.set_ | with_reducible apply Blk.far_ hne)); (case e => simp)) Try.underlying45 rfl (by kernel_rfl)) rfl ⟨⟨va, k, vc⟩, rfl, ⟨by show k ≤ 100000; omega, hrd⟩, fun x e => (by have := hge x e; omega), by repeat (first | with_reducible exact hb | with_reducible refine Below.setCell ?_ (by dsimp only; omega) _ | with_reducible refine Below.drew ?_)⟩

theorem auto_plan (c : Cf) (l : Cl) (mode nth : Int) (w : World) (hIn : c.In l w) (hc : c.check = 0) :
    Calls Try.prog 56 #[c.v l, I mode, I nth] w (RetP (c.plan mode nth) w) := by
  have hz := Cf.size_bd hc
  cases h1 : (mode == 1)
  · cases h2 : (mode == 2)
    · exact auto_plan_none c l mode nth w h1 h2
    · obtain rfl : mode = 2 := by simpa using h2
      exact auto_plan_floors c l nth w (by omega) (by omega)
  · obtain rfl : mode = 1 := by simpa using h1
    exact auto_plan_stops c l nth w hIn (Cf.stops_bd hc).1
end Nw
end Go.Proofs.Ytkipbgjaeapkkaa
