/- Values of the program's types, and what it means that a slice holds numbers, or windows, in a world. -/
import Derived.Test.YtkipbgjaeapkkaaProg
import Derived.Test.YtkipbgjaeapkkaaNwModel
import Derived.WalkKit
import Derived.WalkSpells
import Derived.WalkLawsBesides
import Derived.Deep.Draws
import Derived.Lib.Hide
namespace Go.Proofs.Ytkipbgjaeapkkaa
open Go.RowKit
namespace Nw

abbrev I (n : Int) : Value := .int .i64 n
/-- where a configuration's lists lie -/
structure Cl where
  (sa : Option Addr) (sn sc : Nat) (wa : Option Addr) (wn wc : Nat)
abbrev Tm.v (t : Tm) : Value := .agg #[I t.travel, I t.level, I t.opn, I t.dwell, I t.lead, I t.close, I t.hold]
abbrev Tn.v (t : Tn) : Value := .agg #[I t.month, I t.week, I t.weekday, I t.minute]
abbrev Zn.v (z : Zn) : Value := .agg #[I z.base, I z.shift, I z.on_.month, I z.on_.week, I z.on_.weekday, I z.on_.minute, I z.off.month, I z.off.week, I z.off.weekday, I z.off.minute]
abbrev Wn.v (x : Wn) : Value := .agg #[I x.kind, I x.mode, I x.prio, I x.arg, I x.shift, I x.minute, I x.len]
abbrev Sn.v (s : Sn) : Value := .agg #[I s.s0, I s.s1, I s.s2, I s.s3, I s.s4, I s.s5, I s.s6, I s.s7, I s.s8, I s.s9, I s.s10, I s.s11]
abbrev Cf.v (c : Cf) (l : Cl) : Value := .agg #[I c.floors, I c.cars, I c.park, .slice l.sa l.sn l.sc, I c.times.travel, I c.times.level, I c.times.opn, I c.times.dwell, I c.times.lead, I c.times.close, I c.times.hold, I c.rest, I c.pater,
  I c.zone.base, I c.zone.shift, I c.zone.on_.month, I c.zone.on_.week, I c.zone.on_.weekday, I c.zone.on_.minute, I c.zone.off.month, I c.zone.off.week, I c.zone.off.weekday, I c.zone.off.minute,
  I c.sun.s0, I c.sun.s1, I c.sun.s2, I c.sun.s3, I c.sun.s4, I c.sun.s5, I c.sun.s6, I c.sun.s7, I c.sun.s8, I c.sun.s9, I c.sun.s10, I c.sun.s11, .bool c.abroad, .slice l.wa l.wn l.wc]

/-- The slice at a holds the numbers xs in w, in memory that is there. -/
def RdI (w : World) (a : Option Addr) (n : Nat) (xs : List Int) : Prop :=
  xs.length = n ∧ (0 < n → ∃ b off, a = some ⟨b, off, none⟩ ∧ b < w.heap.size ∧ ∀ k, k < n → w.cell? ⟨b, off + k, none⟩ = some (I (xs[k]?.getD 0)))
/-- The slice at a holds the windows xs in w. -/
def RdW (w : World) (a : Option Addr) (n : Nat) (xs : List Wn) : Prop :=
  xs.length = n ∧ (0 < n → ∃ b off, a = some ⟨b, off, none⟩ ∧ b < w.heap.size ∧ ∀ k, k < n →
    w.cell? ⟨b, off + k * 7, none⟩ = some (I (xs[k]?.getD default).kind) ∧ w.cell? ⟨b, off + k * 7 + 1, none⟩ = some (I (xs[k]?.getD default).mode) ∧ w.cell? ⟨b, off + k * 7 + 2, none⟩ = some (I (xs[k]?.getD default).prio) ∧
    w.cell? ⟨b, off + k * 7 + 3, none⟩ = some (I (xs[k]?.getD default).arg) ∧ w.cell? ⟨b, off + k * 7 + 4, none⟩ = some (I (xs[k]?.getD default).shift) ∧ w.cell? ⟨b, off + k * 7 + 5, none⟩ = some (I (xs[k]?.getD default).minute) ∧
    w.cell? ⟨b, off + k * 7 + 6, none⟩ = some (I (xs[k]?.getD default).len))

theorem RdI.below {w w' : World} {a : Option Addr} {n : Nat} {xs : List Int} (h : RdI w a n xs) (hb : Below w.heap.size w w') : RdI w' a n xs :=
  ⟨h.1, fun hn => by
    obtain ⟨b, off, e, hl, hc⟩ := h.2 hn
    exact ⟨b, off, e, Nat.lt_of_lt_of_le hl hb.size, fun k hk => (hb.cell hl).trans (hc k hk)⟩⟩
theorem RdW.below {w w' : World} {a : Option Addr} {n : Nat} {xs : List Wn} (h : RdW w a n xs) (hb : Below w.heap.size w w') : RdW w' a n xs :=
  ⟨h.1, fun hn => by
    obtain ⟨b, off, e, hl, hc⟩ := h.2 hn
    refine ⟨b, off, e, Nat.lt_of_lt_of_le hl hb.size, fun k hk => ?_⟩
    obtain ⟨h0, h1, h2, h3, h4, h5, h6⟩ := hc k hk
    exact ⟨(hb.cell hl).trans h0, (hb.cell hl).trans h1, (hb.cell hl).trans h2, (hb.cell hl).trans h3, (hb.cell hl).trans h4, (hb.cell hl).trans h5, (hb.cell hl).trans h6⟩⟩
theorem RdI.alloc {w : World} {a : Option Addr} {n : Nat} {xs : List Int} (h : RdI w a n xs) (o : Obj) : RdI (w.alloc o) a n xs := h.below ((Below.refl _ _).alloc (Nat.le_refl _) _)
theorem RdW.alloc {w : World} {a : Option Addr} {n : Nat} {xs : List Wn} (h : RdW w a n xs) (o : Obj) : RdW (w.alloc o) a n xs := h.below ((Below.refl _ _).alloc (Nat.le_refl _) _)

/-- A configuration's lists lie in w as its value says. -/
structure Cf.In (c : Cf) (l : Cl) (w : World) : Prop where
  sn : l.sn ≤ 100000
  wn : l.wn ≤ 100000
  s : RdI w l.sa l.sn c.stops
  w : RdW w l.wa l.wn c.windows
theorem Cf.In.below {c : Cf} {l : Cl} {w w' : World} (h : c.In l w) (hb : Below w.heap.size w w') : c.In l w' := ⟨h.sn, h.wn, h.s.below hb, h.w.below hb⟩
theorem Cf.In.alloc {c : Cf} {l : Cl} {w : World} (h : c.In l w) (o : Obj) : c.In l (w.alloc o) := ⟨h.sn, h.wn, h.s.alloc o, h.w.alloc o⟩

/-- Behind a contract that ends in 'Below': the old cells, and marks, read as before (rules for the walk). -/
theorem bcell {W w1 : World} (hb : Below W.heap.size W w1) : (∀ b o, b < W.heap.size → w1.cell? ⟨b, o, none⟩ = W.cell? ⟨b, o, none⟩) ∧ (∀ b o, b < W.heap.size → w1.frozen? ⟨b, o, none⟩ = W.frozen? ⟨b, o, none⟩) :=
  ⟨fun b o h => hb.cell (p := ⟨b, o, none⟩) h, fun b o h => hb.frozen (p := ⟨b, o, none⟩) h⟩

/-- One new block. -/
theorem below1 (w : World) (o : Obj) : Below w.heap.size w (w.alloc o) := (Below.refl _ _).alloc (Nat.le_refl _) _
theorem below2 (w : World) (o p : Obj) : Below w.heap.size w ((w.alloc o).alloc p) := (below1 w o).alloc (by simp) _
theorem below3 (w : World) (o p q : Obj) : Below w.heap.size w (((w.alloc o).alloc p).alloc q) := (below2 w o p).alloc (by simp; omega) _
/-- What is kept behind one new block is kept. -/
theorem behind1 {w w' : World} {o : Obj} (h : Below (w.alloc o).heap.size (w.alloc o) w') : Below w.heap.size w w' := (below1 w o).trans (h.mono (by simp))
theorem behind {w w1 w' : World} (hb : Below w.heap.size w w1) (h : Below w1.heap.size w1 w') : Below w.heap.size w w' := hb.trans (h.mono hb.size)

theorem below_drewN {B : Nat} {a w : World} (h : Below B a w) (n : Nat) : Below B a (w.drewN n) := ⟨h.os, h.tape, h.output, h.size, h.block⟩

end Nw
end Go.Proofs.Ytkipbgjaeapkkaa
