/- What cycle.At does: a contract. -/
import Derived.Test.YtkipbgjaeapkkaaNwLength
import Derived.Test.YtkipbgjaeapkkaaNwModel
set_option linter.unusedSimpArgs false
set_option linter.unusedVariables false
namespace Go.Proofs.Ytkipbgjaeapkkaa
open Go.RowKit
namespace Nw

theorem Blk.conv {w : World} {g : Nat} {t : TypeId} {cs cs' : Array Value} (h : Blk w g t cs) (e : cs = cs') : Blk w g t cs' := e ▸ h
theorem results_ct {P : Program} {fn : Func} {p r : Tmp} {t1 : TypeId} (h : fn.results = #[.cell p t1, .tmp r]) (tmps : Array Value) (w : World) {g1 : Nat} (T1 : TypeId) {c1 : Array Value} {d1 : TypeDesc}
    (hp : tmps.getD p undef = .pointer (some ⟨g1, 0, none⟩)) (h1 : Blk w g1 T1 c1)
    (hu1 : P.underlying t1 = some d1) (hd1 : (match d1 with | .struct _ | .array _ _ => true | _ => false) = true) (hi1 : (P.info? t1).map (·.size) = some c1.size) :
    (results fn tmps).run P w = .ok (.tuple #[.agg c1, tmps.getD r undef]) w := by
  have hp' : tmps[p]?.getD undef = .pointer (some ⟨g1, 0, none⟩) := by simpa using hp
  simp [results, h, hp', asAddr, run_loadVar_row w g1 T1 t1 c1 (0, 0) d1 h1 hu1 hd1 hi1]

set_option maxRecDepth 100000 in
set_option maxHeartbeats 1000000 in
theorem cycle_At_some (g : Ge) (p : Pl) (ll : Ll) (phase : Int) (x : Pt) (n : Int) (w : World) (hIn : p.In ll w) (hg : g.ok = true) (hp : p.Ok g.floors) (h : p.within g phase = some (x, n)) :
    Calls Try.prog 26 #[g.v, p.v ll, I phase] w fun e w' => e = .returned (.tuple #[(atOf g x n).v, I 0]) ∧ Below w.heap.size w w' := by
  have HIn := Lib.hid hIn; have Hg := Lib.hid hg; have Hp := Lib.hid hp; have Hh := Lib.hid h
  clear hIn hp hg h
  have HV : Hid (atOf g x n = bif n == 0 then ⟨x.floor, 0, 0, 0, Dr.zero⟩
    else bif !(x.dir == 0) then ⟨x.floor, x.dir, 1, wrap64 (g.times.travel - n), Dr.zero⟩
    else bif decide (n < g.times.level) then ⟨x.floor, 0, 2, wrap64 (g.times.level - n), Dr.zero⟩
    else ⟨x.floor, 0, 3, 0, doorAt g (wrap64 (n - g.times.level))⟩) := rfl
  generalize atOf g x n = V at HV ⊢
  cases h0 : (n == 0)
  · cases h1 : (x.dir == 0)
    · rw [h0, h1] at HV
      go_enter Try.func26, Try.ntmps26
      go_wp2_with fail
      refine (cycle_within_some g p ll phase x n _ ((HIn.out.alloc _).alloc _ |>.alloc _) Hg.out Hp.out Hh.out).mono ?_
      rintro e w1 ⟨rfl, hb1⟩
      obtain ⟨hc1, hf1⟩ := bcell hb1
      have hz0 : w.heap.size < w1.heap.size := by have := hb1.size; simp at this; omega
      have hz1 : w.heap.size + 1 < w1.heap.size := by have := hb1.size; simp at this; omega
      have hz2 : w.heap.size + 1 + 1 < w1.heap.size := by have := hb1.size; simp at this; omega
      have hR : Blk w1 (w.heap.size + 1 + 1) 58 #[I 0, I 0, I 0, I 0, I 0, I 0, I 0] := (Blk.new_ _ _ _ _ (by simp)).belowAll hb1
      have HR := Lib.hid hR; clear hR
      have hT := behind (below3 w _ _ _) hb1
      have HT := Lib.hid hT; clear hT
      have hn1 : w1.heap.size ≠ w.heap.size + 1 + 1 := by omega
      have hn2 : w1.heap.size + 1 ≠ w.heap.size + 1 + 1 := by omega
      have hn3 : w1.heap.size + 1 + 1 ≠ w.heap.size + 1 + 1 := by omega
      have hz3 : w.heap.size < w1.heap.size + 1 := by omega
      have hz4 : w.heap.size < w1.heap.size + 1 + 1 := by omega
      have hz5 : w.heap.size < w1.heap.size + 1 + 1 + 1 := by omega
      go_wp2
      go_region
      all_goals go_wp2
      exact bodyPost_ret (results_ct rfl _ _ 58 rfl (c1 := #[I x.floor, I x.dir, I 1, I (wrap64 (g.times.travel - n)), I 0, I 0, I 0]) (by apply Blk.conv; (case h => repeat (first | with_reducible exact HR.out | with_reducible apply Blk.alloc | with_reducible apply Blk.set_ | with_reducible apply Blk.drewN | with_reducible apply Blk.drew)); (case e => rfl)) Try.underlying58 rfl (by kernel_rfl)) rfl ⟨by rw [HV.out]; rfl, by repeat (first | with_reducible exact HT.out | with_reducible refine Below.alloc ?_ (by first | omega | (simp <;> omega)) _ | with_reducible refine Below.setCell ?_ (by dsimp only; omega) _ | with_reducible refine Below.drew ?_ | refine below_drewN ?_ _)⟩
    · cases h2 : decide (n < g.times.level)
      · rw [h0, h1, h2] at HV
        unfold doorAt at HV
        cases h3 : decide (wrap64 (n - g.times.level) < g.times.opn)
        · cases h4 : decide (wrap64 (wrap64 (n - g.times.level) - g.times.opn) < g.dwell)
          · cases h5 : decide (wrap64 (wrap64 (wrap64 (n - g.times.level) - g.times.opn) - g.dwell) < g.times.close)
            · rw [h3, h4, h5] at HV
              go_enter Try.func26, Try.ntmps26
              go_wp2_with fail
              refine (cycle_within_some g p ll phase x n _ ((HIn.out.alloc _).alloc _ |>.alloc _) Hg.out Hp.out Hh.out).mono ?_
              rintro e w1 ⟨rfl, hb1⟩
              obtain ⟨hc1, hf1⟩ := bcell hb1
              have hz0 : w.heap.size < w1.heap.size := by have := hb1.size; simp at this; omega
              have hz1 : w.heap.size + 1 < w1.heap.size := by have := hb1.size; simp at this; omega
              have hz2 : w.heap.size + 1 + 1 < w1.heap.size := by have := hb1.size; simp at this; omega
              have hR : Blk w1 (w.heap.size + 1 + 1) 58 #[I 0, I 0, I 0, I 0, I 0, I 0, I 0] := (Blk.new_ _ _ _ _ (by simp)).belowAll hb1
              have HR := Lib.hid hR; clear hR
              have hT := behind (below3 w _ _ _) hb1
              have HT := Lib.hid hT; clear hT
              have hn1 : w1.heap.size ≠ w.heap.size + 1 + 1 := by omega
              have hn2 : w1.heap.size + 1 ≠ w.heap.size + 1 + 1 := by omega
              have hn3 : w1.heap.size + 1 + 1 ≠ w.heap.size + 1 + 1 := by omega
              have hz3 : w.heap.size < w1.heap.size + 1 := by omega
              have hz4 : w.heap.size < w1.heap.size + 1 + 1 := by omega
              have hz5 : w.heap.size < w1.heap.size + 1 + 1 + 1 := by omega
              go_wp2
              refine wp_loop_rounds 4 ?_
              repeat any_goals (rw [rounds_succ]; go_wp2)
              exact bodyPost_ret (results_ct rfl _ _ 58 rfl (c1 := #[I x.floor, I 0, I 3, I 0, I 0, I 0, I 0]) (by apply Blk.conv; (case h => repeat (first | with_reducible exact HR.out | with_reducible apply Blk.alloc | with_reducible apply Blk.set_ | with_reducible apply Blk.drewN | with_reducible apply Blk.drew)); (case e => rfl)) Try.underlying58 rfl (by kernel_rfl)) rfl ⟨by rw [HV.out]; rfl, by repeat (first | with_reducible exact HT.out | with_reducible refine Below.alloc ?_ (by first | omega | (simp <;> omega)) _ | with_reducible refine Below.setCell ?_ (by dsimp only; omega) _ | with_reducible refine Below.drew ?_ | refine below_drewN ?_ _)⟩
            · rw [h3, h4, h5] at HV
              go_enter Try.func26, Try.ntmps26
              go_wp2_with fail
              refine (cycle_within_some g p ll phase x n _ ((HIn.out.alloc _).alloc _ |>.alloc _) Hg.out Hp.out Hh.out).mono ?_
              rintro e w1 ⟨rfl, hb1⟩
              obtain ⟨hc1, hf1⟩ := bcell hb1
              have hz0 : w.heap.size < w1.heap.size := by have := hb1.size; simp at this; omega
              have hz1 : w.heap.size + 1 < w1.heap.size := by have := hb1.size; simp at this; omega
              have hz2 : w.heap.size + 1 + 1 < w1.heap.size := by have := hb1.size; simp at this; omega
              have hR : Blk w1 (w.heap.size + 1 + 1) 58 #[I 0, I 0, I 0, I 0, I 0, I 0, I 0] := (Blk.new_ _ _ _ _ (by simp)).belowAll hb1
              have HR := Lib.hid hR; clear hR
              have hT := behind (below3 w _ _ _) hb1
              have HT := Lib.hid hT; clear hT
              have hn1 : w1.heap.size ≠ w.heap.size + 1 + 1 := by omega
              have hn2 : w1.heap.size + 1 ≠ w.heap.size + 1 + 1 := by omega
              have hn3 : w1.heap.size + 1 + 1 ≠ w.heap.size + 1 + 1 := by omega
              have hz3 : w.heap.size < w1.heap.size + 1 := by omega
              have hz4 : w.heap.size < w1.heap.size + 1 + 1 := by omega
              have hz5 : w.heap.size < w1.heap.size + 1 + 1 + 1 := by omega
              go_wp2
              refine wp_loop_rounds 4 ?_
              repeat any_goals (rw [rounds_succ]; go_wp2)
              exact bodyPost_ret (results_ct rfl _ _ 58 rfl (c1 := #[I x.floor, I 0, I 3, I 0, I 3, I (wrap64 (g.times.close - wrap64 (wrap64 (wrap64 (n - g.times.level) - g.times.opn) - g.dwell))), I 0]) (by apply Blk.conv; (case h => repeat (first | with_reducible exact HR.out | with_reducible apply Blk.alloc | with_reducible apply Blk.set_ | with_reducible apply Blk.drewN | with_reducible apply Blk.drew)); (case e => rfl)) Try.underlying58 rfl (by kernel_rfl)) rfl ⟨by rw [HV.out]; rfl, by repeat (first | with_reducible exact HT.out | with_reducible refine Below.alloc ?_ (by first | omega | (simp <;> omega)) _ | with_reducible refine Below.setCell ?_ (by dsimp only; omega) _ | with_reducible refine Below.drew ?_ | refine below_drewN ?_ _)⟩
          · rw [h3, h4] at HV
            go_enter Try.func26, Try.ntmps26
            go_wp2_with fail
            refine (cycle_within_some g p ll phase x n _ ((HIn.out.alloc _).alloc _ |>.alloc _) Hg.out Hp.out Hh.out).mono ?_
            rintro e w1 ⟨rfl, hb1⟩
            obtain ⟨hc1, hf1⟩ := bcell hb1
            have hz0 : w.heap.size < w1.heap.size := by have := hb1.size; simp at this; omega
            have hz1 : w.heap.size + 1 < w1.heap.size := by have := hb1.size; simp at this; omega
            have hz2 : w.heap.size + 1 + 1 < w1.heap.size := by have := hb1.size; simp at this; omega
            have hR : Blk w1 (w.heap.size + 1 + 1) 58 #[I 0, I 0, I 0, I 0, I 0, I 0, I 0] := (Blk.new_ _ _ _ _ (by simp)).belowAll hb1
            have HR := Lib.hid hR; clear hR
            have hT := behind (below3 w _ _ _) hb1
            have HT := Lib.hid hT; clear hT
            have hn1 : w1.heap.size ≠ w.heap.size + 1 + 1 := by omega
            have hn2 : w1.heap.size + 1 ≠ w.heap.size + 1 + 1 := by omega
            have hn3 : w1.heap.size + 1 + 1 ≠ w.heap.size + 1 + 1 := by omega
            have hz3 : w.heap.size < w1.heap.size + 1 := by omega
            have hz4 : w.heap.size < w1.heap.size + 1 + 1 := by omega
            have hz5 : w.heap.size < w1.heap.size + 1 + 1 + 1 := by omega
            go_wp2
            refine wp_loop_rounds 4 ?_
            repeat any_goals (rw [rounds_succ]; go_wp2)
            exact bodyPost_ret (results_ct rfl _ _ 58 rfl (c1 := #[I x.floor, I 0, I 3, I 0, I 2, I (wrap64 (g.dwell - wrap64 (wrap64 (n - g.times.level) - g.times.opn))), I 0]) (by apply Blk.conv; (case h => repeat (first | with_reducible exact HR.out | with_reducible apply Blk.alloc | with_reducible apply Blk.set_ | with_reducible apply Blk.drewN | with_reducible apply Blk.drew)); (case e => rfl)) Try.underlying58 rfl (by kernel_rfl)) rfl ⟨by rw [HV.out]; rfl, by repeat (first | with_reducible exact HT.out | with_reducible refine Below.alloc ?_ (by first | omega | (simp <;> omega)) _ | with_reducible refine Below.setCell ?_ (by dsimp only; omega) _ | with_reducible refine Below.drew ?_ | refine below_drewN ?_ _)⟩
        · rw [h3] at HV
          go_enter Try.func26, Try.ntmps26
          go_wp2_with fail
          refine (cycle_within_some g p ll phase x n _ ((HIn.out.alloc _).alloc _ |>.alloc _) Hg.out Hp.out Hh.out).mono ?_
          rintro e w1 ⟨rfl, hb1⟩
          obtain ⟨hc1, hf1⟩ := bcell hb1
          have hz0 : w.heap.size < w1.heap.size := by have := hb1.size; simp at this; omega
          have hz1 : w.heap.size + 1 < w1.heap.size := by have := hb1.size; simp at this; omega
          have hz2 : w.heap.size + 1 + 1 < w1.heap.size := by have := hb1.size; simp at this; omega
          have hR : Blk w1 (w.heap.size + 1 + 1) 58 #[I 0, I 0, I 0, I 0, I 0, I 0, I 0] := (Blk.new_ _ _ _ _ (by simp)).belowAll hb1
          have HR := Lib.hid hR; clear hR
          have hT := behind (below3 w _ _ _) hb1
          have HT := Lib.hid hT; clear hT
          have hn1 : w1.heap.size ≠ w.heap.size + 1 + 1 := by omega
          have hn2 : w1.heap.size + 1 ≠ w.heap.size + 1 + 1 := by omega
          have hn3 : w1.heap.size + 1 + 1 ≠ w.heap.size + 1 + 1 := by omega
          have hz3 : w.heap.size < w1.heap.size + 1 := by omega
          have hz4 : w.heap.size < w1.heap.size + 1 + 1 := by omega
          have hz5 : w.heap.size < w1.heap.size + 1 + 1 + 1 := by omega
          go_wp2
          refine wp_loop_rounds 4 ?_
          repeat any_goals (rw [rounds_succ]; go_wp2)
          exact bodyPost_ret (results_ct rfl _ _ 58 rfl (c1 := #[I x.floor, I 0, I 3, I 0, I 1, I (wrap64 (g.times.opn - wrap64 (n - g.times.level))), I 0]) (by apply Blk.conv; (case h => repeat (first | with_reducible exact HR.out | with_reducible apply Blk.alloc | with_reducible apply Blk.set_ | with_reducible apply Blk.drewN | with_reducible apply Blk.drew)); (case e => rfl)) Try.underlying58 rfl (by kernel_rfl)) rfl ⟨by rw [HV.out]; rfl, by repeat (first | with_reducible exact HT.out | with_reducible refine Below.alloc ?_ (by first | omega | (simp <;> omega)) _ | with_reducible refine Below.setCell ?_ (by dsimp only; omega) _ | with_reducible refine Below.drew ?_ | refine below_drewN ?_ _)⟩
      · rw [h0, h1, h2] at HV
        go_enter Try.func26, Try.ntmps26
        go_wp2_with fail
        refine (cycle_within_some g p ll phase x n _ ((HIn.out.alloc _).alloc _ |>.alloc _) Hg.out Hp.out Hh.out).mono ?_
        rintro e w1 ⟨rfl, hb1⟩
        obtain ⟨hc1, hf1⟩ := bcell hb1
        have hz0 : w.heap.size < w1.heap.size := by have := hb1.size; simp at this; omega
        have hz1 : w.heap.size + 1 < w1.heap.size := by have := hb1.size; simp at this; omega
        have hz2 : w.heap.size + 1 + 1 < w1.heap.size := by have := hb1.size; simp at this; omega
        have hR : Blk w1 (w.heap.size + 1 + 1) 58 #[I 0, I 0, I 0, I 0, I 0, I 0, I 0] := (Blk.new_ _ _ _ _ (by simp)).belowAll hb1
        have HR := Lib.hid hR; clear hR
        have hT := behind (below3 w _ _ _) hb1
        have HT := Lib.hid hT; clear hT
        have hn1 : w1.heap.size ≠ w.heap.size + 1 + 1 := by omega
        have hn2 : w1.heap.size + 1 ≠ w.heap.size + 1 + 1 := by omega
        have hn3 : w1.heap.size + 1 + 1 ≠ w.heap.size + 1 + 1 := by omega
        have hz3 : w.heap.size < w1.heap.size + 1 := by omega
        have hz4 : w.heap.size < w1.heap.size + 1 + 1 := by omega
        have hz5 : w.heap.size < w1.heap.size + 1 + 1 + 1 := by omega
        go_wp2
        go_region
        all_goals go_wp2
        exact bodyPost_ret (results_ct rfl _ _ 58 rfl (c1 := #[I x.floor, I 0, I 2, I (wrap64 (g.times.level - n)), I 0, I 0, I 0]) (by apply Blk.conv; (case h => repeat (first | with_reducible exact HR.out | with_reducible apply Blk.alloc | with_reducible apply Blk.set_ | with_reducible apply Blk.drewN | with_reducible apply Blk.drew)); (case e => rfl)) Try.underlying58 rfl (by kernel_rfl)) rfl ⟨by rw [HV.out]; rfl, by repeat (first | with_reducible exact HT.out | with_reducible refine Below.alloc ?_ (by first | omega | (simp <;> omega)) _ | with_reducible refine Below.setCell ?_ (by dsimp only; omega) _ | with_reducible refine Below.drew ?_ | refine below_drewN ?_ _)⟩
  · rw [h0] at HV
    go_enter Try.func26, Try.ntmps26
    go_wp2_with fail
    refine (cycle_within_some g p ll phase x n _ ((HIn.out.alloc _).alloc _ |>.alloc _) Hg.out Hp.out Hh.out).mono ?_
    rintro e w1 ⟨rfl, hb1⟩
    obtain ⟨hc1, hf1⟩ := bcell hb1
    have hz0 : w.heap.size < w1.heap.size := by have := hb1.size; simp at this; omega
    have hz1 : w.heap.size + 1 < w1.heap.size := by have := hb1.size; simp at this; omega
    have hz2 : w.heap.size + 1 + 1 < w1.heap.size := by have := hb1.size; simp at this; omega
    have hR : Blk w1 (w.heap.size + 1 + 1) 58 #[I 0, I 0, I 0, I 0, I 0, I 0, I 0] := (Blk.new_ _ _ _ _ (by simp)).belowAll hb1
    have HR := Lib.hid hR; clear hR
    have hT := behind (below3 w _ _ _) hb1
    have HT := Lib.hid hT; clear hT
    have hn1 : w1.heap.size ≠ w.heap.size + 1 + 1 := by omega
    have hn2 : w1.heap.size + 1 ≠ w.heap.size + 1 + 1 := by omega
    have hn3 : w1.heap.size + 1 + 1 ≠ w.heap.size + 1 + 1 := by omega
    have hz3 : w.heap.size < w1.heap.size + 1 := by omega
    have hz4 : w.heap.size < w1.heap.size + 1 + 1 := by omega
    have hz5 : w.heap.size < w1.heap.size + 1 + 1 + 1 := by omega
    go_wp2
    exact bodyPost_ret (results_ct rfl _ _ 58 rfl (c1 := #[I x.floor, I 0, I 0, I 0, I 0, I 0, I 0]) (by apply Blk.conv; (case h => repeat (first | with_reducible exact HR.out | with_reducible apply Blk.alloc | with_reducible apply Blk.set_ | with_reducible apply Blk.drewN | with_reducible apply Blk.drew)); (case e => rfl)) Try.underlying58 rfl (by kernel_rfl)) rfl ⟨by rw [HV.out]; rfl, by repeat (first | with_reducible exact HT.out | with_reducible refine Below.alloc ?_ (by first | omega | (simp <;> omega)) _ | with_reducible refine Below.setCell ?_ (by dsimp only; omega) _ | with_reducible refine Below.drew ?_ | refine below_drewN ?_ _)⟩

set_option maxRecDepth 100000 in
set_option maxHeartbeats 1000000 in
theorem cycle_At_none (g : Ge) (p : Pl) (ll : Ll) (phase : Int) (w : World) (hIn : p.In ll w) (hg : g.ok = true) (hp : p.Ok g.floors) (h : p.within g phase = none) :
    Calls Try.prog 26 #[g.v, p.v ll, I phase] w fun e w' => e = .returned (.tuple #[Cr.zero.v, I 221]) ∧ Below w.heap.size w w' := by
  have HIn := Lib.hid hIn; have Hg := Lib.hid hg; have Hp := Lib.hid hp; have Hh := Lib.hid h
  clear hIn hp hg h
  go_enter Try.func26, Try.ntmps26
  go_wp2_with fail
  refine (cycle_within_none g p ll phase _ ((HIn.out.alloc _).alloc _ |>.alloc _) Hg.out Hp.out Hh.out).mono ?_
  rintro e w1 ⟨rfl, hb1⟩
  obtain ⟨hc1, hf1⟩ := bcell hb1
  have hzw10 : w.heap.size < w1.heap.size := by have := hb1.size; simp at this; omega
  have hzw11 : w.heap.size + 1 < w1.heap.size := by have := hb1.size; simp at this; omega
  have hzw12 : w.heap.size + 1 + 1 < w1.heap.size := by have := hb1.size; simp at this; omega
  have hR : Blk w1 (w.heap.size + 1 + 1) 58 #[I 0, I 0, I 0, I 0, I 0, I 0, I 0] := (Blk.new_ _ _ _ _ (by simp)).belowAll hb1
  have HR := Lib.hid hR; clear hR
  have hT := behind (below3 w _ _ _) hb1
  have HT := Lib.hid hT; clear hT
  have hn1 : w1.heap.size ≠ w.heap.size + 1 + 1 := by omega
  go_wp2
  exact bodyPost_ret (results_ct rfl _ _ 58 rfl (c1 := #[I 0, I 0, I 0, I 0, I 0, I 0, I 0]) (by apply Blk.conv; (case h => repeat (first | with_reducible exact HR.out | with_reducible apply Blk.alloc | with_reducible apply Blk.set_ | with_reducible apply Blk.drewN | with_reducible apply Blk.drew)); (case e => rfl)) Try.underlying58 rfl (by kernel_rfl)) rfl ⟨rfl, by repeat (first | with_reducible exact HT.out | with_reducible refine Below.alloc ?_ (by first | omega | (simp <;> omega)) _ | with_reducible refine Below.setCell ?_ (by dsimp only; omega) _ | with_reducible refine Below.drew ?_ | refine below_drewN ?_ _)⟩

theorem cycle_At (g : Ge) (p : Pl) (ll : Ll) (phase : Int) (w : World) (hIn : p.In ll w) (hg : g.ok = true) (hp : p.Ok g.floors) :
    Calls Try.prog 26 #[g.v, p.v ll, I phase] w fun e w' => e = .returned (.tuple #[(p.at_ g phase).v, I (match p.within g phase with | some _ => 0 | none => 221)]) ∧ Below w.heap.size w w' := by
  unfold Pl.at_
  cases h : p.within g phase with
  | none => exact cycle_At_none g p ll phase w hIn hg hp h
  | some y => obtain ⟨x, n⟩ := y; exact cycle_At_some g p ll phase x n w hIn hg hp h
/-- The whole of cycle.Cmd. -/
theorem cycle_Cmd_all (g : Ge) (p : Pl) (ll : Ll) (phase : Int) (w : World) (hIn : p.In ll w) (hg : g.ok = true) (hp : p.Ok g.floors) :
    Calls Try.prog 65 #[g.v, p.v ll, I phase] w fun e w' => e = .returned (.tuple #[I (p.cmd g phase), I (match p.within g phase with | some _ => 0 | none => 221)]) ∧ Below w.heap.size w w' := by
  unfold Pl.cmd
  cases h : p.within g phase with
  | none => exact cycle_Cmd_none g p ll phase w hIn hg hp h
  | some y => obtain ⟨x, n⟩ := y; exact cycle_Cmd g p ll phase x n w hIn hg hp h
end Nw
end Go.Proofs.Ytkipbgjaeapkkaa
