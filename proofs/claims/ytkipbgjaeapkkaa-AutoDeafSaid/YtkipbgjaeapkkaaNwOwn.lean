/- What newellaw10.Own does: a contract. (Printed by wip/mkown.py.) -/
import Derived.Test.YtkipbgjaeapkkaaNwStore
set_option linter.unusedSimpArgs false
set_option linter.unusedVariables false
namespace Go.Proofs.Ytkipbgjaeapkkaa
open Go.RowKit
attribute [local go_sem ↓] Nw.ld_rule Nw.eq_rule Nw.st_rule
namespace Nw

theorem infoWin : (Try.prog.info? 90).map (fun i => (i.zero, i.size, i.bytes)) = some (some (.agg #[I 0, I 0, I 0, I 0, I 0, I 0, I 0]), 7, 56) := by kernel_rfl
abbrev cfZ : Array Value := #[I 0, I 0, I 0, .slice none 0 0, I 0, I 0, I 0, I 0, I 0, I 0, I 0, I 0, I 0, I 0, I 0, I 0, I 0, I 0, I 0, I 0, I 0, I 0, I 0, I 0, I 0, I 0, I 0, I 0, I 0, I 0, I 0, I 0, I 0, I 0, I 0, .bool false, .slice none 0 0]
/-- a configuration handed back, its lists in new memory -/
def RetC (c : Cf) (w : World) (e : Ending) (w' : World) : Prop :=
  ∃ l : Cl, e = .returned (c.v l) ∧ c.In l w' ∧ (∀ x, l.sa = some x → w.heap.size ≤ x.block) ∧ (∀ x, l.wa = some x → w.heap.size ≤ x.block) ∧ Below w.heap.size w w'
theorem ld_cfg {W : World} {g : Nat} {c : Cf} {l : Cl} (h : Blk W g 33 (cfC c l)) : Ld Try.prog W 33 (.pointer (some ⟨g, 0, none⟩)) ∧ ldV Try.prog W 33 (.pointer (some ⟨g, 0, none⟩)) = c.v l :=
  Ld.of_part h 33 0 _ (cfC c l).toList (hl_take (n := 37) rfl) Try.underlying33 rfl (by kernel_rfl)
theorem st_cfg {W : World} {g : Nat} {c : Cf} {l : Cl} {cs : Array Value} (h : Blk W g 33 cs) (hs : cs.size = 37) : St Try.prog W 33 (.pointer (some ⟨g, 0, none⟩)) (c.v l) ∧ stV W (.pointer (some ⟨g, 0, none⟩)) (c.v l) = W.setCells g 0 (cfC c l).toList :=
  ⟨⟨g, 0, cfC c l, rfl, rfl, h.there (by rw [hs]; exact Nat.le_refl _), by kernel_rfl, by simp [Value.oneCell']⟩, rfl⟩
theorem RdI.lt_ {w : World} {a : Option Addr} {n : Nat} {xs : List Int} {e : TypeId} {B c : Nat} (h : w.ownsRow B e 1 (.slice a n c) n (xs.map I)) : ∀ x, a = some x → x.block < w.heap.size := by
  intro x hx
  subst hx
  exact (h.lt x.block rfl).2
theorem RdI.grownN {w w' : World} {a : Option Addr} {n : Nat} {xs : List Int} {row : Option Nat} (h : RdI w a n xs) (hg : w.grownBy w' row) (hlt : ∀ j, row = some j → ∀ x, a = some x → x.block ≠ j) : RdI w' a n xs :=
  ⟨h.1, fun hn => by
    obtain ⟨b, off, e, hl, hc⟩ := h.2 hn
    refine ⟨b, off, e, Nat.lt_of_lt_of_le hl hg.size, fun k hk => ?_⟩
    have hh := hg.block b hl (fun e' => hlt b e'.symm _ e rfl)
    have := hc k hk
    unfold World.cell? at this ⊢
    simp only [hh]
    exact this⟩
theorem own_lit (W : World) (B : Nat) (e : TypeId) (n : Nat) (hB : B ≤ W.heap.size) : (W.alloc (.cells #[] e)).ownsRow B e n (.slice (some ⟨W.heap.size, 0, none⟩) 0 0) 0 [] :=
  ⟨by simp, .inr ⟨W.heap.size, 0, #[], rfl, hB, heap_alloc_new _ _, Nat.le_refl _, by simp [maxLen], by simp, by simp⟩⟩
theorem ints_news {W : World} {b off n : Nat} {xs : List Int} (h : RdI W (some ⟨b, off, none⟩) n xs) (j : Nat) (u : Value) (hj : (xs.map I)[j]? = some u) : W.cell? ((⟨b, off, none⟩ : Addr).add j) = some u := by
  have hj' : j < xs.length := by
    rcases Nat.lt_or_ge j xs.length with h | h
    · exact h
    · rw [List.getElem?_eq_none (by simpa using h)] at hj; cases hj
  have hl := h.1
  obtain ⟨b', off', e, -, hc⟩ := h.2 (by omega)
  cases e
  have hadd : (⟨b, off, none⟩ : Addr).add j = ⟨b, off + j, none⟩ := by unfold Addr.add; split <;> simp_all
  rw [hadd, hc j (by omega)]
  simp [List.getElem?_map, hj'] at hj
  simp [hj', hj]
theorem ints_news_ {W : World} {a : Option Addr} {n : Nat} {xs : List Int} (h : RdI W a n xs) {ad : Addr} (e : a = some ad) (j : Nat) (u : Value) (hj : (xs.map I)[j]? = some u) : W.cell? (ad.add j) = some u := by
  rcases Nat.eq_zero_or_pos n with h0 | h0
  · have hx : xs = [] := by have := h.1; rw [h0] at this; exact List.eq_nil_of_length_eq_zero this
    rw [hx] at hj; simp at hj
  · obtain ⟨b, off, e', -⟩ := h.2 h0
    rw [e] at e'
    cases e'
    subst e
    exact ints_news h j u hj
theorem RdW.cells_ {W : World} {a : Option Addr} {n : Nat} {xs : List Wn} (h : RdW W a n xs) {ad : Addr} (e : a = some ad) (j : Nat) (u : Value) (hj : (flatW xs)[j]? = some u) : W.cell? (ad.add j) = some u := by
  rcases Nat.eq_zero_or_pos n with h0 | h0
  · have hx : xs = [] := by have := h.1; rw [h0] at this; exact List.eq_nil_of_length_eq_zero this
    rw [hx] at hj; simp [flatW] at hj
  · obtain ⟨b, off, e', -⟩ := h.2 h0
    rw [e] at e'
    cases e'
    subst e
    exact h.cells j u hj
theorem run_append_nil {P : Program} (w : World) (base : Nat) (t ty e : TypeId) (i : TypeInfo) (size : Nat) (ht : P.underlying t = some (.slice e)) (hi : P.info? e = some i) (hsize : i.size = size)
    (v : Value) (n : Nat) (xs : List Value) (hown : w.ownsRow base e size v n xs) : (Builtin.append_ #[t, t] ty #[v, .slice none 0 0]).run P w = .ok v w := by
  obtain ⟨_, ⟨rfl, rfl⟩ | ⟨g, cap, cur, rfl, _, _, hc, _⟩⟩ := hown
  · simp [Builtin.append_, Sem.run_bind, run_underlying ht w, sizeOf, typeInfo, hi, hsize, Builtin.lenOf, Builtin.firstCells, storeCells]
  · simp [Builtin.append_, Sem.run_bind, run_underlying ht w, sizeOf, typeInfo, hi, hsize, Builtin.lenOf, Builtin.firstCells, storeCells, hc]
/-- append of a list that is nil, or not. -/
theorem wpList_append_any {P : Program} (w : World) {ops : Array Oper} {rest : List Oper} {o : Oper} {a : Act} {Q : Exit → Act → World → Prop} (hgd : o.guard = none) (s x : Operand) (t : TypeId)
    (ho : o.op = .call { callee := .builtin .append, args := #[s, x], argTypes := #[t, t] })
    (base : Nat) (e : TypeId) (i : TypeInfo) (z : Value) (size bytes : Nat) (ht : P.underlying t = some (.slice e)) (hi : P.info? e = some i) (hz : i.zero = some z)
    (hsize : i.size = size) (hby : i.bytes = bytes) (hzs : z.cells.size = size) (hsz : 0 < size)
    (v : Value) (n : Nat) (xs : List Value) (hs : a.eval s = v) (hown : w.ownsRow base e size v n xs)
    (oa : Option Addr) (m c : Nat) (news : List Value) (hx : a.eval x = .slice oa m c) (hoa : oa = none → m = 0 ∧ c = 0) (hl : news.length = m * size) (hnews : ∀ ad, oa = some ad → ∀ j u, news[j]? = some u → w.cell? (ad.add j) = some u) (h1 : ∀ u ∈ news, u.oneCell' = true)
    (h63 : n + m ≤ maxLen) (hbytes : (n + m) * bytes ≤ 140737488355328) (hbase : base ≤ w.heap.size)
    (h : ∀ v' w', w'.ownsRow base e size v' (n + m) (xs ++ news) → w.grownBy w' v.ownBlock → wpList P ops Q rest (a.put o.dst v') w') : wpList P ops Q (o :: rest) a w := by
  cases oa with
  | some ad => exact wpList_append_own w hgd s x t ho base e i z size bytes ht hi hz hsize hby hzs hsz v n xs hs hown ad m c news hx hl (hnews ad rfl) h1 h63 hbytes hbase fun v' w' h2 h3 _ => h v' w' h2 h3
  | none =>
    obtain ⟨rfl, rfl⟩ := hoa rfl
    have hn : news = [] := List.eq_nil_of_length_eq_zero (by simpa using hl)
    subst hn
    refine wpList_plain hgd fun K' hK' => ?_
    have hr := run_append_nil (P := P) w base t o.type e i size ht hi hsize v n xs hown
    unfold Oper.wp execOp
    simp only [ho, resolve, invoke, builtin, Sem.run_bind, Sem.run_pure, Result.andThen_ok, List.map_toArray, List.map_cons, List.map_nil, hs, hx, hr]
    refine hK' _ _ (h v w ?_ ⟨rfl, rfl, rfl, Nat.le_refl _, fun _ _ _ => rfl⟩)
    rw [List.append_nil, Nat.add_zero]
    exact hown
theorem flatW_one (xs : List Wn) : ∀ u ∈ flatW xs, u.oneCell' = true := by
  intro u hu
  obtain ⟨x, _, hx⟩ := List.mem_flatMap.1 hu
  simp [winC] at hx
  rcases hx with rfl | rfl | rfl | rfl | rfl | rfl | rfl <;> rfl

set_option maxRecDepth 100000 in
set_option maxHeartbeats 4000000 in
theorem law10_Own (c : Cf) (l : Cl) (w : World) (hIn : c.In l w) (hna : l.sa = none → l.sn = 0 ∧ l.sc = 0) (hnb : l.wa = none → l.wn = 0 ∧ l.wc = 0) :
    Calls Try.prog 12 #[c.v l] w (RetC c w) := by
  obtain ⟨i0, hi, hz0, hz1, hz2⟩ := info_parts Try.infoInt
  obtain ⟨i1, ki, kz0, kz1, kz2⟩ := info_parts infoWin
  have hsn := hIn.sn; have hwn := hIn.wn
  have HNA := Lib.hid hna; have HNB := Lib.hid hnb; clear hna hnb
  have HIn := Lib.hid hIn; clear hIn
  have hB0 : ∀ o1 o2 : Obj, Below w.heap.size w ((w.alloc o1).alloc o2) := below2 w
  have hS1 := own_lit ((w.alloc (.cells (cfC c l) 33)).alloc (.cells cfZ 33)) (w.heap.size + 1 + 1) 3 1 (by simp)
  rw [World.size_alloc, World.size_alloc] at hS1
  have hC1 := ((Blk.new w 33 (cfC c l)).alloc (.cells cfZ 33)).alloc (.cells #[] 3)
  have hR1 := (Blk.new_ (w.alloc (.cells (cfC c l) 33)) 33 cfZ (w.heap.size + 1) (by simp)).alloc (.cells #[] 3)
  have hT1 : Below w.heap.size w (((w.alloc (.cells (cfC c l) 33)).alloc (.cells cfZ 33)).alloc (.cells #[] 3)) := below3 _ _ _ _
  have tok1 : True := trivial
  have tok2 : True := trivial
  go_enter Try.func12, Try.ntmps12
  go_wp2_with (first | (at_builtin; have _t := tok1; refine wpList_append_any _ rfl _ _ 22 rfl (w.heap.size + 1 + 1) 3 i0 (I 0) 1 8 Try.underlying22 hi hz0 hz1 hz2 rfl (by decide) _ _ _ rfl hS1 l.sa l.sn l.sc (c.stops.map I) rfl HNA.out ?qa ?qb ?qc ?qd ?qe ?qf ?qg; (case qa => simpa using HIn.out.s.1); (case qb => exact fun ad e => ints_news_ (HIn.out.s.below hT1) e); (case qc => simp [Value.oneCell']); (case qd => simp [maxLen]; omega); (case qe => omega); (case qf => simp); (intro v1 w2 hown2 hgrow2); rw [Nat.zero_add, List.nil_append] at hown2; have hC2 := hC1.grownN hgrow2 (fun j e => (hS1.lt j e).1) (by omega); have hR2 := hR1.grownN hgrow2 (fun j e => (hS1.lt j e).1) (by omega); have hT2 := hT1.grown hgrow2 hT1.size (fun j e => by have := (hS1.lt j e).1; omega); have hsz2 := hgrow2.size; simp at hsz2; obtain ⟨va, vc, rfl, hrd2, hge2⟩ := RdI.of_own0 hown2; have hval := RdI.lt_ hown2; have hCc := hC2.cell; have hCf := hC2.frozen; have hz2 := hC2.lt; have hne1 : w.heap.size + 1 ≠ w.heap.size := (by omega); have hC3 := (hC2.set_ 3 (.slice va l.sn vc)).alloc (.cells #[] 90); have hR3 := (Blk.far_ (o := 3) hne1 hR2 (.slice va l.sn vc)).alloc (.cells #[] 90); have hT2' := hT2.setCell (p := ⟨w.heap.size, 3, none⟩) (Nat.le_refl _) (.slice va l.sn vc); have hT3 := hT2'.alloc hT2'.size (.cells #[] 90); have hI3 := (hrd2.set (o := 3) hge2 (g := w.heap.size) (by omega) (.slice va l.sn vc)).alloc (.cells #[] 90); have hS3 := own_lit (w2.setCell ⟨w.heap.size, 3, none⟩ (.slice va l.sn vc)) (w.heap.size + 1 + 1) 90 7 (by simp; omega); rw [World.size_setCell] at hS3; clear tok1) | (at_builtin; have _t := tok2; refine wpList_append_any _ rfl _ _ 31 rfl (w.heap.size + 1 + 1) 90 i1 (.agg #[I 0, I 0, I 0, I 0, I 0, I 0, I 0]) 7 56 Try.underlying31 ki kz0 kz1 kz2 rfl (by decide) _ _ _ rfl hS3 l.wa l.wn l.wc (flatW c.windows) rfl HNB.out ?ra ?rb ?rc ?rd ?re ?rf ?rg; (case ra => rw [flatW_length, HIn.out.w.1]); (case rb => exact fun ad e => RdW.cells_ (HIn.out.w.below hT3) e); (case rc => exact flatW_one _); (case rd => simp [maxLen]; omega); (case re => omega); (case rf => simp; omega); (intro v2 w4 hown4 hgrow4); rw [Nat.zero_add, List.nil_append] at hown4; have hC4 := hC3.grownN hgrow4 (fun j e => (hS3.lt j e).1) (by omega); have hR4 := hR3.grownN hgrow4 (fun j e => (hS3.lt j e).1) (by omega); have hT4 := hT3.grown hgrow4 hT3.size (fun j e => by have := (hS3.lt j e).1; omega); have hI4 := hI3.grownN hgrow4 (fun j e x ex => by cases e; have := hval x ex; show x.block ≠ w2.heap.size; omega); obtain ⟨vb, vd, rfl, hrw4, hge4⟩ := RdW.of_own0 HIn.out.w.1 hown4; have hCc4 := hC4.cell; have hCf4 := hC4.frozen; clear hCc hCf; have hC5 := (hC4.set_ 36 (.slice vb l.wn vd)).conv (cs' := cfC c ⟨va, l.sn, vc, vb, l.wn, vd⟩) (by simp); have hR5 := Blk.far_ (o := 36) hne1 hR4 (.slice vb l.wn vd); obtain ⟨hl1, hl2⟩ := ld_cfg hC5; have hst := st_cfg (c := c) (l := ⟨va, l.sn, vc, vb, l.wn, vd⟩) hR5 (by simp); have hst1 := hst.1; have hst2 := hst.2; clear hst; clear tok2))
  have hge2' : ∀ x, va = some x → w.heap.size + 1 + 1 ≤ x.block := hge2
  have hT5 := hT4.setCell (p := ⟨w.heap.size, 36, none⟩) (Nat.le_refl _) (.slice vb l.wn vd)
  have hI5 := hI4.set (o := 36) hge2' (g := w.heap.size) (by omega) (.slice vb l.wn vd)
  have hW5 := hrw4.set (o := 36) hge4 (g := w.heap.size) (by omega) (.slice vb l.wn vd)
  exact bodyPost_ret (results_c rfl _ _ 33 rfl (c1 := cfC c ⟨va, l.sn, vc, vb, l.wn, vd⟩) (hR5.setCells_own (cfC c ⟨va, l.sn, vc, vb, l.wn, vd⟩) rfl) Try.underlying33 rfl (by kernel_rfl)) rfl ⟨⟨va, l.sn, vc, vb, l.wn, vd⟩, rfl, ⟨hsn, hwn, hI5.setCells_ hge2' (by omega) _ _, hW5.setCells_ hge4 (by omega) _ _⟩, fun x e => (by have := hge2' x e; omega), fun x e => (by have := hge4 x e; omega), Below.setCells_ (by omega) _ _ hT5⟩
end Nw
end Go.Proofs.Ytkipbgjaeapkkaa
