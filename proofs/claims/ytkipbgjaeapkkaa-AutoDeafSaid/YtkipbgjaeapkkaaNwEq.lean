/- A struct of many cells that is loaded inside a region that draws: one rule, ahead of the walk's own. -/
import Derived.Test.YtkipbgjaeapkkaaNwBlk
import Derived.Test.YtkipbgjaeapkkaaNwAt
namespace Go.Proofs.Ytkipbgjaeapkkaa
open Go.RowKit
namespace Nw

/-- what a load gives -/
def ldV (P : Program) (W : World) (ty : TypeId) (v : Value) : Value :=
  match v with
  | .pointer (some ad) => match (loadVar ty ad).run P W with | .ok u _ => u | _ => undef
  | _ => undef
/-- it can be loaded -/
def Ld (P : Program) (W : World) (ty : TypeId) (v : Value) : Prop := ∃ ad u, v = .pointer (some ad) ∧ (loadVar ty ad).run P W = .ok u W
theorem Ld.of_part {P : Program} {w : World} {g : Nat} {t : TypeId} {cs : Array Value} (h : Blk w g t cs) (ty : TypeId) (off : Nat) (d : TypeDesc) (l : List Value) (hl : ∀ j v, l[j]? = some v → cs[off + j]? = some v)
    (hu : P.underlying ty = some d) (hd : (match d with | .struct _ | .array _ _ => true | _ => false) = true) (hi : (P.info? ty).map (·.size) = some l.length) :
    Ld P w ty (.pointer (some ⟨g, off, none⟩)) ∧ ldV P w ty (.pointer (some ⟨g, off, none⟩)) = .agg l.toArray := by
  have hr := run_loadVar_part h ty off d l hl hu hd hi
  exact ⟨⟨_, _, rfl, hr⟩, by simp only [ldV, hr]⟩
theorem Ld.drew {P : Program} {W : World} {ty : TypeId} {g off : Nat} {u : Value} (h : Ld P W ty (.pointer (some ⟨g, off, none⟩)) ∧ ldV P W ty (.pointer (some ⟨g, off, none⟩)) = u) (hW : ∀ u, (loadVar ty ⟨g, off, none⟩).run P W = .ok u W → (loadVar ty ⟨g, off, none⟩).run P W.drew = .ok u W.drew) :
    Ld P W.drew ty (.pointer (some ⟨g, off, none⟩)) ∧ ldV P W.drew ty (.pointer (some ⟨g, off, none⟩)) = u := by
  obtain ⟨⟨ad, u', e, hr⟩, h2⟩ := h
  cases e
  have hr' := hW _ hr
  refine ⟨⟨_, _, rfl, hr'⟩, ?_⟩
  rw [← h2]
  simp only [ldV, hr, hr']
theorem ld_rule {P : Program} {W : World} {ty : TypeId} {a : Act} {x : Operand} (h : Ld P W ty (a.eval x)) {dst : Option Tmp} {t : TypeId} {pos : String} {after : Array Edge} {K : Act → World → Prop} {Q : Exit → Act → World → Prop} :
    Oper.wp P { dst := dst, op := .load ty x, type := t, pos := pos, after := after, guard := none } a W K Q = K (a.put dst (ldV P W ty (a.eval x))) W := by
  obtain ⟨ad, u, e, hr⟩ := h
  unfold Oper.wp execOp
  simp only [e, Instr.loadAt, Instr.sureAddr, Sem.run_bind, Sem.run_pure, Result.andThen_ok, hr, ldV]
  rfl
/-- a comparison -/
def eqS (ty : TypeId) (x y : Operand) (u v : Value) : Sem Value := do
  eqGuard .eql ty x y u v
  binOp .eql ty u v
/-- what a comparison gives -/
def eqV (P : Program) (W : World) (ty : TypeId) (x y : Operand) (u v : Value) : Value :=
  match (eqS ty x y u v).run P W with | .ok z _ => z | _ => undef
def EqR (P : Program) (W : World) (ty : TypeId) (x y : Operand) (u v : Value) : Prop := ∃ z, (eqS ty x y u v).run P W = .ok z W
theorem EqR.of_run {P : Program} {W : World} {ty : TypeId} {x y : Operand} {u v z : Value} (h : (eqS ty x y u v).run P W = .ok z W) : EqR P W ty x y u v ∧ eqV P W ty x y u v = z :=
  ⟨⟨z, h⟩, by simp only [eqV, h]⟩
theorem eq_rule {P : Program} {W : World} {ty ty2 : TypeId} {a : Act} {x y : Operand} (h : EqR P W ty x y (a.eval x) (a.eval y)) {dst : Option Tmp} {t : TypeId} {pos : String} {after : Array Edge} {K : Act → World → Prop} {Q : Exit → Act → World → Prop} :
    Oper.wp P { dst := dst, op := .binOp .eql ty x y ty2, type := t, pos := pos, after := after, guard := none } a W K Q = K (a.put dst (eqV P W ty x y (a.eval x) (a.eval y))) W := by
  obtain ⟨u, hr⟩ := h
  have hr' := hr
  unfold eqS at hr
  unfold Oper.wp execOp
  simp only [eqV, hr']
  simp only [Sem.run_bind, Sem.run_pure] at hr ⊢
  rw [hr]
  rfl
end Nw
end Go.Proofs.Ytkipbgjaeapkkaa

namespace Go.Proofs.Ytkipbgjaeapkkaa
open Go.RowKit
namespace Nw

set_option maxRecDepth 100000 in
set_option maxHeartbeats 2000000 in
theorem run_eq_cr (W : World) (c d : Cr) (x y : Operand) : (eqS 58 x y c.v d.v).run Try.prog W = .ok (.bool (c.same d)) W := by
  obtain ⟨c0, c1, c2, c3, ⟨c4, c5, c6⟩⟩ := c
  obtain ⟨d0, d1, d2, d3, ⟨d4, d5, d6⟩⟩ := d
  unfold Cr.same Dr.same eqS
  go_simp
  repeat' split
  all_goals simp_all
theorem eq_cr (W : World) (c d : Cr) (x y : Operand) : EqR Try.prog W 58 x y c.v d.v ∧ eqV Try.prog W 58 x y c.v d.v = .bool (c.same d) := EqR.of_run (run_eq_cr W c d x y)
/-- the errno of a tick of a round -/
def Pl.wErr (g : Ge) (p : Pl) (phase : Int) : Int := match p.within g phase with | some _ => 0 | none => 221
theorem cycle_At2 (g : Ge) (p : Pl) (ll : Ll) (phase : Int) (w : World) (hIn : p.In ll w) (hg : g.ok = true) (hp : p.Ok g.floors) :
    Calls Try.prog 26 #[g.v, p.v ll, I phase] w fun e w' => e = .returned (.tuple #[(p.at_ g phase).v, I (p.wErr g phase)]) ∧ Below w.heap.size w w' := cycle_At g p ll phase w hIn hg hp
theorem cycle_Cmd2 (g : Ge) (p : Pl) (ll : Ll) (phase : Int) (w : World) (hIn : p.In ll w) (hg : g.ok = true) (hp : p.Ok g.floors) :
    Calls Try.prog 65 #[g.v, p.v ll, I phase] w fun e w' => e = .returned (.tuple #[I (p.cmd g phase), I (p.wErr g phase)]) ∧ Below w.heap.size w w' := cycle_Cmd_all g p ll phase w hIn hg hp
end Nw
end Go.Proofs.Ytkipbgjaeapkkaa
