/- What the functions of the layers config (10), zone (6), sunset (7) compute, as plain functions on numbers and lists: no program in sight. -/
import Derived.RowKit
import Derived.WalkKit
namespace Go.Proofs.Ytkipbgjaeapkkaa
open Go.RowKit
namespace Nw

def within (n a b : Int) : Bool := decide (a ≤ n) && decide (n ≤ b)
theorem within_iff {n a b : Int} : within n a b = true ↔ a ≤ n ∧ n ≤ b := by unfold within; simp
def must (b : Bool) (k : Int) : Int := bif b then 0 else k
@[simp] theorem must_true (k : Int) : must true k = 0 := rfl
@[simp] theorem must_false (k : Int) : must false k = k := rfl

/-- times (api.Times) -/
structure Tm where
  (travel level opn dwell lead close hold : Int)
/-- a turn (api.Turn) -/
structure Tn where
  (month week weekday minute : Int)
/-- a zone (api.Zone) -/
structure Zn where
  (base shift : Int) (on_ off : Tn)
/-- a window (api.Window) -/
structure Wn where
  (kind mode prio arg shift minute len : Int)
instance : Inhabited Wn := ⟨⟨0, 0, 0, 0, 0, 0, 0⟩⟩
/-- a table of sunsets (api.Sun) -/
structure Sn where
  (s0 s1 s2 s3 s4 s5 s6 s7 s8 s9 s10 s11 : Int)
/-- a configuration (api.Config) -/
structure Cf where
  (floors cars park : Int) (stops : List Int) (times : Tm) (rest pater : Int) (zone : Zn) (sun : Sn) (abroad : Bool) (windows : List Wn)

/-! config.Window -/
def Wn.may (x : Wn) : Bool := within x.mode 0 5 && within x.prio 0 99
def Wn.timed (x : Wn) : Bool := within x.minute 0 1439 && within x.len 1 10080
def Wn.ok (x : Wn) : Bool :=
  bif x.kind == 1 then x.may && x.timed && within x.arg 1 127 && x.shift == 0
  else bif x.kind == 2 then x.may && x.timed && within x.arg 401 3651998 && x.shift == 0
  else bif x.kind == 3 then x.may && x.timed && within x.arg 1 7 && within x.shift (-7) 7
  else bif x.kind == 4 then x.may && x.arg == 0 && x.shift == 0 && within x.minute 0 180 && within x.len 0 180
  else false

/-! config.size, stops, times, windows -/
def Cf.sizeB (c : Cf) : Bool := within c.floors 2 64 && within c.cars 1 8 && within c.park 0 (wrap64 (c.floors - 1))
/-- may the stop at a place be? -/
def stopOk (floors : Int) (l : List Int) (k : Nat) : Bool := within (l[k]?.getD 0) 0 (wrap64 (floors - 1)) && (k == 0 || decide (l[k - 1]?.getD 0 < l[k]?.getD 0))
def stopsTo (floors : Int) (l : List Int) : Nat → Bool
  | 0 => decide (2 ≤ l.length)
  | k + 1 => stopsTo floors l k && stopOk floors l k
def Cf.stopsB (c : Cf) : Bool := stopsTo c.floors c.stops c.stops.length
def timesTo (l : List Int) : Nat → Bool
  | 0 => true
  | k + 1 => timesTo l k && within (l[k]?.getD 0) 1 60
def mn (a b : Int) : Int := if b < a then b else a
def Tm.five (t : Tm) : List Int := [t.travel, t.level, t.opn, t.dwell, t.close]
def Cf.timesB (c : Cf) : Bool :=
  timesTo c.times.five 5 && within c.times.hold 0 60 && within c.rest 1 300 && within c.pater 1 300 && within c.times.lead 1 (mn (mn c.times.dwell c.rest) c.pater)
def Cf.windowsE (c : Cf) : Int := bif decide (16 < c.windows.length) then 103 else must (!c.windows.any (fun x => !x.ok)) 104

/-! zone.Check -/
def Tn.odd (x : Tn) : Bool := !within x.month 1 12 || !within x.week 1 5 || !within x.weekday 0 6 || !within x.minute 0 1439
def Tn.none_ (x : Tn) : Bool := x.month == 0 && x.week == 0 && x.weekday == 0 && x.minute == 0
def mx (a b : Int) : Int := if a ≤ b then b else a
def Zn.ok3 (z : Zn) : Bool := z.shift == 0 && (!z.on_.none_ || !z.off.none_)
def Zn.ok4 (z : Zn) : Bool := decide (0 < z.shift) && ((z.on_.odd || z.off.odd) || !within (wrap64 (mx z.on_.month z.off.month - mn z.on_.month z.off.month)) 2 10)
def Zn.check (z : Zn) : Int :=
  bif !within z.base (-720) 840 then 60 else bif !within z.shift 0 120 then 61 else bif z.ok3 then 62 else bif z.ok4 then 62 else 0

/-! sunset.Check -/
def Sn.list (s : Sn) : List Int := [s.s0, s.s1, s.s2, s.s3, s.s4, s.s5, s.s6, s.s7, s.s8, s.s9, s.s10, s.s11]
def Sn.at_ (s : Sn) (k : Nat) : Int := s.list[k]?.getD 0
def Sn.minuteOk (s : Sn) (k : Nat) : Bool := !(decide (s.at_ k < 900) || decide (1320 < s.at_ k))
def Sn.by_ (s : Sn) (k : Nat) : Int := wrap64 (s.at_ ((k + 1) % 12) - s.at_ (k % 12))
def Sn.stepOk (s : Sn) (k : Nat) : Bool := !(decide (120 < s.by_ k) || decide (s.by_ k < -120))
def Sn.check (s : Sn) : Int := bif !(List.range 12).all s.minuteOk then 70 else bif !(List.range 12).all s.stepOk then 71 else 0

/-! config.Check -/
def Cf.check (c : Cf) : Int :=
  bif !c.sizeB then 100 else bif !c.stopsB then 101 else bif !c.timesB then 102 else bif c.zone.check != 0 then c.zone.check else bif c.sun.check != 0 then c.sun.check else c.windowsE

end Nw
end Go.Proofs.Ytkipbgjaeapkkaa

namespace Go.Proofs.Ytkipbgjaeapkkaa
open Go.RowKit
namespace Nw

/-- a door (api.Door) -/
structure Dr where
  (phase left held : Int)
/-- a gear (api.Gear) -/
structure Ge where
  (floors : Int) (times : Tm) (dwell most : Int)
/-- a car (api.Car) -/
structure Cr where
  (floor dir phase left : Int) (door : Dr)
/-- what a car shows (api.Out) -/
structure Ou where
  (motor door floor : Int) (chime : Bool)
/-- an order (api.Order) -/
structure Od where
  (cmd : Int) (held fault : Bool)
def Dr.zero : Dr := ⟨0, 0, 0⟩
def Cr.zero : Cr := ⟨0, 0, 0, 0, Dr.zero⟩
def Ou.zero : Ou := ⟨0, 0, 0, false⟩

/-! door -/
def Tm.six (t : Tm) : List Int := [t.travel, t.level, t.opn, t.dwell, t.lead, t.close]
def Tm.ok (t : Tm) : Bool := t.six.all (fun n => within n 1 60) && within t.hold 0 60
def Ge.ok (g : Ge) : Bool := g.times.ok && within g.floors 2 64 && within g.dwell 1 300 && within g.most 0 60
def Dr.on_ (d : Dr) (next left : Int) : Dr := bif wrap64 (d.left - 1) == 0 then ⟨next, left, d.held⟩ else ⟨d.phase, wrap64 (d.left - 1), d.held⟩
def Dr.open_ (g : Ge) (d : Dr) (held : Bool) : Dr := bif held then ⟨d.phase, g.dwell, wrap64 (d.held + 1)⟩ else d.on_ 3 g.times.close
def Dr.closing (g : Ge) (d : Dr) (held : Bool) : Dr :=
  bif held then ⟨1, g.times.opn, wrap64 (d.held + 1)⟩ else bif (d.on_ 0 0).phase == 0 then ⟨(d.on_ 0 0).phase, (d.on_ 0 0).left, 0⟩ else d.on_ 0 0
def Dr.tick (g : Ge) (d : Dr) (held : Bool) : Dr :=
  bif d.phase == 0 then d else bif d.phase == 1 then d.on_ 2 g.dwell else bif d.phase == 2 then d.open_ g held else d.closing g held
def Dr.most (d : Dr) : Int := bif d.phase == 0 then 0 else bif d.phase == 1 then 60 else bif d.phase == 2 then 300 else 60
def Dr.may (d : Dr) : Bool := within d.phase 0 3 && within d.left (mn d.most 1) d.most && within d.held 0 (mn d.most 60)
def Dr.ask (t : Tm) (d : Dr) : Dr := bif d.phase == 0 then ⟨1, t.opn, 0⟩ else d
def Dr.heard (g : Ge) (d : Dr) (held : Bool) : Bool := held && decide (d.held < g.most)
def Dr.chime (g : Ge) (d : Dr) (held : Bool) : Bool := d.phase == 2 && d.left == g.times.lead && !d.heard g held
def Dr.step (g : Ge) (d : Dr) (held : Bool) : Dr := d.tick g (d.heard g held)

/-! car -/
def Cr.may (floors : Int) (c : Cr) : Bool :=
  within floors 2 64 && within c.floor 0 (wrap64 (floors - 1)) && c.door.may &&
  (bif c.phase == 0 then c.dir == 0 && c.left == 0 && c.door.phase == 0
   else bif c.phase == 1 then (c.dir == 1 || c.dir == -1) && within (wrap64 (c.floor + c.dir)) 0 (wrap64 (floors - 1)) && within c.left 1 60 && c.door.phase == 0
   else bif c.phase == 2 then c.dir == 0 && within c.left 1 60 && c.door.phase == 0
   else bif c.phase == 3 then c.dir == 0 && c.left == 0 && !(c.door.phase == 0)
   else false)
def Cr.go (g : Ge) (c : Cr) (d : Int) : Cr := bif within (wrap64 (c.floor + d)) 0 (wrap64 (g.floors - 1)) then ⟨c.floor, d, 1, g.times.travel, c.door⟩ else c
def Cr.begin_ (g : Ge) (c : Cr) (cmd : Int) : Cr :=
  bif cmd == 1 then c.go g 1 else bif cmd == 2 then c.go g (-1) else bif cmd == 3 then ⟨c.floor, c.dir, 2, g.times.level, c.door⟩ else c
def Cr.tick (g : Ge) (c : Cr) (held : Bool) : Cr :=
  bif c.phase == 1 then (bif wrap64 (c.left - 1) == 0 then ⟨wrap64 (c.floor + c.dir), 0, 0, 0, Dr.zero⟩ else ⟨c.floor, c.dir, c.phase, wrap64 (c.left - 1), c.door⟩)
  else bif c.phase == 2 then (bif wrap64 (c.left - 1) == 0 then ⟨c.floor, c.dir, 3, wrap64 (c.left - 1), c.door.ask g.times⟩ else ⟨c.floor, c.dir, c.phase, wrap64 (c.left - 1), c.door⟩)
  else bif c.phase == 3 then ⟨c.floor, c.dir, bif (c.door.step g held).phase == 0 then 0 else c.phase, c.left, c.door.step g held⟩
  else c
def Cr.tickChime (g : Ge) (c : Cr) (held : Bool) : Bool := c.phase == 3 && c.door.chime g held
def Cr.begun (g : Ge) (c : Cr) (cmd : Int) : Cr := bif c.phase == 0 then c.begin_ g cmd else c
def Cr.step (g : Ge) (c : Cr) (o : Od) : Cr := bif o.fault then c else (c.begun g o.cmd).tick g o.held
def Cr.shows (g : Ge) (c : Cr) (o : Od) : Ou := bif o.fault then ⟨0, c.door.phase, c.floor, false⟩ else ⟨(c.begun g o.cmd).dir, c.door.phase, c.floor, (c.begun g o.cmd).tickChime g o.held⟩

end Nw
end Go.Proofs.Ytkipbgjaeapkkaa

namespace Go.Proofs.Ytkipbgjaeapkkaa
open Go.RowKit
namespace Nw

/-- a plan (api.Plan) -/
structure Pl where
  (stops : List Int) (cars car : Int)
/-- a part of a round -/
structure Pt where
  (floor dir ticks : Int)

/-- May a plan be, on so many floors? -/
structure Pl.Ok (p : Pl) (floors : Int) : Prop where
  len : 2 ≤ p.stops.length
  c1 : 1 ≤ p.cars
  c8 : p.cars ≤ 8
  n0 : 0 ≤ p.car
  n1 : p.car < p.cars
  lo : ∀ k, k < p.stops.length → 0 ≤ p.stops[k]?.getD 0
  hi : ∀ k, k < p.stops.length → p.stops[k]?.getD 0 < floors
  inc : ∀ k, k + 1 < p.stops.length → p.stops[k]?.getD 0 < p.stops[k + 1]?.getD 0

/-- the row of stops: all, and back -/
def Pl.row (p : Pl) : List Int := p.stops ++ ((p.stops.drop 1).take (p.stops.length - 2)).reverse
def Pl.place (p : Pl) (nth : Int) : Int := (nth * (2 * p.stops.length - 2)) / p.cars
def Ge.stop (g : Ge) : Int := wrap64 (wrap64 (wrap64 (g.times.level + g.times.opn) + g.dwell) + g.times.close)
def sign (n : Int) : Int := if 0 < n then 1 else -1

end Nw
end Go.Proofs.Ytkipbgjaeapkkaa

namespace Go.Proofs.Ytkipbgjaeapkkaa
open Go.RowKit
namespace Nw

/-- the rides from a floor on, in a direction, with their first ticks -/
def rides (dir travel : Int) : Nat → Int → Int → List (Int × Pt)
  | 0, _, _ => []
  | n + 1, floor, at_ => (at_, ⟨floor, dir, travel⟩) :: rides dir travel n (floor + dir) (at_ + travel)
def rowAt (l : List Int) (i : Nat) : Int := l[i % l.length]?.getD 0
/-- a round's parts: so many stops yet, from a place on, at a tick -/
def partsFrom (l : List Int) (first : Nat) (stop travel : Int) : Nat → Nat → Int → List (Int × Pt)
  | 0, _, _ => []
  | c + 1, i, at_ =>
    (at_, ⟨rowAt l (first + i), 0, stop⟩) :: (rides (sign (rowAt l (first + i + 1) - rowAt l (first + i))) travel (rowAt l (first + i + 1) - rowAt l (first + i)).natAbs (rowAt l (first + i)) (at_ + stop) ++
      partsFrom l first stop travel c (i + 1) (at_ + stop + (rowAt l (first + i + 1) - rowAt l (first + i)).natAbs * travel))

/-- all parts of a round -/
def Pl.parts (g : Ge) (p : Pl) : List (Int × Pt) := partsFrom p.row (p.place p.car).toNat g.stop g.times.travel p.row.length 0 0

/-- Is a tick in a part? -/
def inPart (phase : Int) (x : Int × Pt) : Bool := decide (x.1 ≤ phase) && decide (phase < wrap64 (x.1 + x.2.ticks))
/-- The part of a round that a tick is in, and the tick of it. -/
def Pl.within (g : Ge) (p : Pl) (phase : Int) : Option (Pt × Int) := ((p.parts g).find? (inPart phase)).map fun x => (x.2, wrap64 (phase - x.1))
/-- what a car is told at a part's tick -/
def cmdOf (x : Pt) (n : Int) : Int := bif decide (0 < n) then 0 else bif decide (0 < x.dir) then 1 else bif decide (x.dir < 0) then 2 else 3

/-- how many ticks a round takes -/
def Pl.len (g : Ge) (p : Pl) : Int := (2 * (p.stops.length : Int) - 2) * g.stop + 2 * (p.stops[p.stops.length - 1]?.getD 0 - p.stops[0]?.getD 0) * g.times.travel

end Nw
end Go.Proofs.Ytkipbgjaeapkkaa

namespace Go.Proofs.Ytkipbgjaeapkkaa
open Go.RowKit
namespace Nw

/-- a car that goes by itself (api.Auto) -/
structure Au where
  (c : Cf) (mode nth age : Int) (car : Cr)
/-- what moves a car by itself -/
structure Mv where
  (p : Pl) (g : Ge) (home : Int)

def Ge.zero : Ge := ⟨0, ⟨0, 0, 0, 0, 0, 0, 0⟩, 0, 0⟩
/-- what moves cars in a mode that is -/
def Cf.gear (c : Cf) (mode : Int) : Ge :=
  ⟨c.floors, c.times, bif mode == 1 then c.rest else bif mode == 2 then c.pater else c.times.dwell, bif within mode 1 3 then 0 else c.times.hold⟩
def floorsUp (n : Nat) : List Int := (List.range n).map fun (k : Nat) => (k : Int)
def Cf.plan (c : Cf) (mode nth : Int) : Pl :=
  bif mode == 1 then ⟨c.stops, c.cars, nth⟩ else bif mode == 2 then ⟨floorsUp c.floors.toNat, c.cars, nth⟩ else ⟨[], 0, 0⟩
/-- has a mode plans? -/
def planned (mode : Int) : Bool := mode == 1 || mode == 2
def Cf.home (c : Cf) (mode nth : Int) : Int := bif planned mode then ((c.plan mode nth).row[((c.plan mode nth).place nth).toNat]?.getD 0) else c.park
def Cf.moves (c : Cf) (mode nth : Int) : Mv := ⟨c.plan mode nth, c.gear mode, c.home mode nth⟩
def Cf.settle (c : Cf) : Int := c.floors * c.times.travel + 480
def Cf.homeE (c : Cf) (mode nth : Int) : Int :=
  bif c.check != 0 then c.check else bif !within mode 1 5 then 231 else bif decide (nth < 0) || decide (c.cars ≤ nth) then 230 else 0
def Au.check (a : Au) : Int :=
  bif a.c.homeE a.mode a.nth != 0 then a.c.homeE a.mode a.nth else bif decide (a.age < 0) || !a.car.may a.c.floors then 230 else 0

/-! a checked configuration -/
theorem bif_eq_zero {b : Bool} {k n : Int} (hk : k ≠ 0) (h : (bif b then k else n) = 0) : b = false ∧ n = 0 := by
  cases b
  · exact ⟨rfl, h⟩
  · exact absurd h hk
theorem Cf.check_parts {c : Cf} (h : c.check = 0) : c.sizeB = true ∧ c.stopsB = true ∧ c.timesB = true := by
  unfold Cf.check at h
  obtain ⟨h1, h⟩ := bif_eq_zero (by decide) h
  obtain ⟨h2, h⟩ := bif_eq_zero (by decide) h
  obtain ⟨h3, h⟩ := bif_eq_zero (by decide) h
  exact ⟨by simpa using h1, by simpa using h2, by simpa using h3⟩
theorem Cf.size_bd {c : Cf} (h : c.check = 0) : 2 ≤ c.floors ∧ c.floors ≤ 64 ∧ 1 ≤ c.cars ∧ c.cars ≤ 8 ∧ 0 ≤ c.park ∧ c.park < c.floors := by
  have hs := (Cf.check_parts h).1
  unfold Cf.sizeB at hs
  simp only [Bool.and_eq_true, within_iff] at hs
  obtain ⟨⟨⟨_, _⟩, _, _⟩, _, hp⟩ := hs
  have hw : wrap64 (c.floors - 1) = c.floors - 1 := IntWalk.wrap64_in _ (by omega)
  rw [hw] at hp
  omega
theorem Cf.times_bd {c : Cf} (h : c.check = 0) : (1 ≤ c.times.travel ∧ c.times.travel ≤ 60) ∧ (1 ≤ c.times.level ∧ c.times.level ≤ 60) ∧ (1 ≤ c.times.opn ∧ c.times.opn ≤ 60) ∧ (1 ≤ c.times.dwell ∧ c.times.dwell ≤ 60) ∧ (1 ≤ c.times.close ∧ c.times.close ≤ 60) ∧
    (0 ≤ c.times.hold ∧ c.times.hold ≤ 60) ∧ (1 ≤ c.rest ∧ c.rest ≤ 300) ∧ (1 ≤ c.pater ∧ c.pater ≤ 300) ∧ 1 ≤ c.times.lead ∧ c.times.lead ≤ c.times.dwell := by
  have hs := (Cf.check_parts h).2.2
  unfold Cf.timesB Tm.five at hs
  simp only [timesTo, Bool.and_eq_true, within_iff] at hs
  simp only [List.getElem?_cons_zero, List.getElem?_cons_succ, Option.getD_some] at hs
  have hm : mn (mn c.times.dwell c.rest) c.pater ≤ c.times.dwell := by unfold mn; split <;> (try split) <;> omega
  omega
theorem stopsTo_k {f : Int} {l : List Int} : ∀ {n : Nat}, stopsTo f l n = true → 2 ≤ l.length ∧ ∀ k, k < n → stopOk f l k = true
  | 0, h => ⟨by simpa [stopsTo] using h, fun k hk => absurd hk (by omega)⟩
  | n + 1, h => by
    simp only [stopsTo, Bool.and_eq_true] at h
    obtain ⟨h1, h2⟩ := stopsTo_k h.1
    refine ⟨h1, fun k hk => ?_⟩
    rcases Nat.lt_or_ge k n with hlt | hge
    · exact h2 k hlt
    · obtain rfl : k = n := by omega
      exact h.2
theorem Cf.stops_bd {c : Cf} (h : c.check = 0) : 2 ≤ c.stops.length ∧ (∀ k, k < c.stops.length → 0 ≤ c.stops[k]?.getD 0 ∧ c.stops[k]?.getD 0 < c.floors) ∧ ∀ k, k + 1 < c.stops.length → c.stops[k]?.getD 0 < c.stops[k + 1]?.getD 0 := by
  have hs := (Cf.check_parts h).2.1
  have hz := Cf.size_bd h
  have hw : wrap64 (c.floors - 1) = c.floors - 1 := IntWalk.wrap64_in _ (by omega)
  obtain ⟨h2, hk⟩ := stopsTo_k hs
  refine ⟨h2, fun k hlt => ?_, fun k hlt => ?_⟩
  · have := hk k hlt
    unfold stopOk at this
    simp only [Bool.and_eq_true, within_iff, hw] at this
    omega
  · have := hk (k + 1) hlt
    unfold stopOk at this
    simp only [Bool.and_eq_true, Bool.or_eq_true, Nat.add_sub_cancel, beq_iff_eq, decide_eq_true_eq] at this
    omega
theorem Cf.gear_ok {c : Cf} (h : c.check = 0) (mode : Int) : (c.gear mode).ok = true := by
  obtain ⟨hz1, hz2, -⟩ := Cf.size_bd h
  obtain ⟨⟨_, _⟩, ⟨_, _⟩, ⟨_, _⟩, ⟨_, _⟩, ⟨_, _⟩, ⟨_, _⟩, ⟨_, _⟩, ⟨_, _⟩, _, _⟩ := Cf.times_bd h
  unfold Ge.ok Tm.ok Tm.six Cf.gear
  simp only [List.all_cons, List.all_nil, Bool.and_true, Bool.and_eq_true, within_iff]
  have hd : 1 ≤ (bif mode == 1 then c.rest else bif mode == 2 then c.pater else c.times.dwell) ∧ (bif mode == 1 then c.rest else bif mode == 2 then c.pater else c.times.dwell) ≤ 300 := by
    cases mode == 1 <;> cases mode == 2 <;> simp only [cond_true, cond_false] <;> omega
  have hm : 0 ≤ (bif within mode 1 3 then 0 else c.times.hold) ∧ (bif within mode 1 3 then 0 else c.times.hold) ≤ 60 := by
    cases within mode 1 3 <;> simp only [cond_true, cond_false] <;> omega
  refine ⟨⟨⟨⟨⟨?_, ?_, ?_, ?_, ?_, ?_⟩, ?_⟩, ?_⟩, hd⟩, hm⟩ <;> omega
theorem floorsUp_length (n : Nat) : (floorsUp n).length = n := by simp [floorsUp]
theorem floorsUp_get {n k : Nat} (h : k < n) : (floorsUp n)[k]?.getD 0 = k := by simp [floorsUp, h]
theorem Cf.plan_ok {c : Cf} (h : c.check = 0) {mode nth : Int} (hp : planned mode = true) (h0 : 0 ≤ nth) (h1 : nth < c.cars) : (c.plan mode nth).Ok c.floors := by
  obtain ⟨hz1, hz2, hc1, hc2, -⟩ := Cf.size_bd h
  obtain ⟨hs1, hs2, hs3⟩ := Cf.stops_bd h
  unfold planned at hp
  unfold Cf.plan
  cases hm : mode == 1
  · rw [hm, Bool.false_or] at hp
    rw [hp]
    simp only [cond_true, cond_false]
    have hl := floorsUp_length c.floors.toNat
    refine ⟨?_, hc1, hc2, h0, h1, fun k hk => ?_, fun k hk => ?_, fun k hk => ?_⟩
    · show 2 ≤ (floorsUp c.floors.toNat).length; omega
    · simp only [hl] at hk; simp only [floorsUp_get hk]; omega
    · simp only [hl] at hk; simp only [floorsUp_get hk]; omega
    · simp only [hl] at hk
      simp only [floorsUp_get hk, floorsUp_get (show k < c.floors.toNat by omega)]
      omega
  · simp only [cond_true]
    exact ⟨hs1, hc1, hc2, h0, h1, fun k hk => (hs2 k hk).1, fun k hk => (hs2 k hk).2, hs3⟩

end Nw
end Go.Proofs.Ytkipbgjaeapkkaa

namespace Go.Proofs.Ytkipbgjaeapkkaa
open Go.RowKit
namespace Nw

def doorAt (g : Ge) (n : Int) : Dr :=
  bif decide (n < g.times.opn) then ⟨1, wrap64 (g.times.opn - n), 0⟩
  else bif decide (wrap64 (n - g.times.opn) < g.dwell) then ⟨2, wrap64 (g.dwell - wrap64 (n - g.times.opn)), 0⟩
  else bif decide (wrap64 (wrap64 (n - g.times.opn) - g.dwell) < g.times.close) then ⟨3, wrap64 (g.times.close - wrap64 (wrap64 (n - g.times.opn) - g.dwell)), 0⟩
  else Dr.zero
/-- the car at a part's tick -/
def atOf (g : Ge) (x : Pt) (n : Int) : Cr :=
  bif n == 0 then ⟨x.floor, 0, 0, 0, Dr.zero⟩
  else bif !(x.dir == 0) then ⟨x.floor, x.dir, 1, wrap64 (g.times.travel - n), Dr.zero⟩
  else bif decide (n < g.times.level) then ⟨x.floor, 0, 2, wrap64 (g.times.level - n), Dr.zero⟩
  else ⟨x.floor, 0, 3, 0, doorAt g (wrap64 (n - g.times.level))⟩
def Pl.at_ (g : Ge) (p : Pl) (phase : Int) : Cr := match p.within g phase with | some (x, n) => atOf g x n | none => Cr.zero
def Pl.cmd (g : Ge) (p : Pl) (phase : Int) : Int := match p.within g phase with | some (x, n) => cmdOf x n | none => 0
def Dr.same (a b : Dr) : Bool := a.phase == b.phase && a.left == b.left && a.held == b.held
def Cr.same (a b : Cr) : Bool := a.floor == b.floor && a.dir == b.dir && a.phase == b.phase && a.left == b.left && a.door.same b.door
theorem Dr.same_iff {a b : Dr} : a.same b = true ↔ a = b := by
  obtain ⟨_, _, _⟩ := a; obtain ⟨_, _, _⟩ := b
  simp [Dr.same, and_assoc]
theorem Cr.same_iff {a b : Cr} : a.same b = true ↔ a = b := by
  obtain ⟨_, _, _, _, _⟩ := a; obtain ⟨_, _, _, _, _⟩ := b
  simp [Cr.same, and_assoc, Dr.same_iff]
def Cr.idle (floor : Int) : Cr := ⟨floor, 0, 0, 0, Dr.zero⟩
def Au.since (a : Au) : Int := wrap64 (a.age - a.c.settle)
def Au.phase (a : Au) (m : Mv) : Int := bif decide (a.since < 0) then 0 else bif m.p.stops.length == 0 then 0 else a.since % m.p.len m.g
def Au.is (a : Au) (m : Mv) : Bool := bif decide (a.since < 0) then false else bif m.p.stops.length == 0 then a.car.same (Cr.idle m.home) else a.car.same (m.p.at_ m.g (a.since % m.p.len m.g))
def Au.told (a : Au) (m : Mv) (key : Bool) : Int :=
  bif a.is m then (bif m.p.stops.length == 0 then (bif key && a.mode == 4 then 3 else 0) else m.p.cmd m.g (a.phase m))
  else bif decide (a.car.floor < m.home) then 1 else bif decide (m.home < a.car.floor) then 2 else 0
def Au.moves (a : Au) : Mv := a.c.moves a.mode a.nth
/-- what is done to a car (api.Touch) -/
structure To where
  (held key fault : Bool)
def Au.order (a : Au) (t : To) : Od := ⟨a.told a.moves t.key, t.held, t.fault⟩
def Au.step (a : Au) (t : To) : Cr := a.car.step a.moves.g (a.order t)
def Au.shows (a : Au) (t : To) : Ou := a.car.shows a.moves.g (a.order t)

theorem cmdOf_within (x : Pt) (n : Int) : within (cmdOf x n) 0 3 = true := by
  unfold cmdOf
  cases decide (0 < n) <;> cases decide (0 < x.dir) <;> cases decide (x.dir < 0) <;> rfl
theorem told_within (a : Au) (m : Mv) (key : Bool) : within (a.told m key) 0 3 = true := by
  unfold Au.told Pl.cmd
  cases a.is m
  · cases decide (a.car.floor < m.home) <;> cases decide (m.home < a.car.floor) <;> rfl
  · cases m.p.stops.length == 0
    · simp only [cond_true, cond_false]
      split
      · exact cmdOf_within _ _
      · rfl
    · cases key && a.mode == 4 <;> rfl

/-! a deaf gear -/
theorem Dr.may_held {d : Dr} (h : d.may = true) : 0 ≤ d.held := by
  unfold Dr.may at h
  simp only [Bool.and_eq_true, within_iff] at h
  exact h.2.1
theorem Dr.heard_deaf {g : Ge} {d : Dr} (hg : g.most = 0) (hd : 0 ≤ d.held) (held : Bool) : d.heard g held = false := by
  unfold Dr.heard
  rw [hg, decide_eq_false (by omega), Bool.and_false]
theorem Cr.begun_door (g : Ge) (c : Cr) (cmd : Int) : (c.begun g cmd).door = c.door := by
  unfold Cr.begun Cr.begin_ Cr.go
  simp only [Bool.cond_eq_ite]
  repeat' split
  all_goals rfl
theorem Cr.door_may {floors : Int} {c : Cr} (h : c.may floors = true) : c.door.may = true := by
  unfold Cr.may at h
  simp only [Bool.and_eq_true] at h
  exact h.1.2
theorem Cr.deaf {g : Ge} {c : Cr} {f : Int} (hg : g.most = 0) (hc : c.may f = true) (cmd : Int) (held held' fault : Bool) :
    c.step g ⟨cmd, held, fault⟩ = c.step g ⟨cmd, held', fault⟩ ∧ c.shows g ⟨cmd, held, fault⟩ = c.shows g ⟨cmd, held', fault⟩ := by
  have hd := Dr.may_held (Cr.door_may hc)
  have h1 : ∀ h : Bool, (c.begun g cmd).door.heard g h = false := fun h => Dr.heard_deaf hg (by rw [Cr.begun_door]; exact hd) h
  unfold Cr.step Cr.shows Cr.tick Cr.tickChime Dr.step Dr.chime
  simp only [h1, and_self]
theorem Cf.gear_deaf {c : Cf} {mode : Int} (h : within mode 1 3 = true) : (c.gear mode).most = 0 := by
  unfold Cf.gear
  rw [h]
  rfl

/-- In a mode that is deaf neither who holds the door, nor who turns the key, changes anything. -/
theorem Au.deaf {a : Au} (ha : a.check = 0) (hm : a.mode ≠ 4 ∧ a.mode ≠ 5) (t t' : To) (hf : t.fault = t'.fault) : a.step t = a.step t' ∧ a.shows t = a.shows t' := by
  obtain ⟨h1, h2⟩ : a.c.homeE a.mode a.nth = 0 ∧ (decide (a.age < 0) || !a.car.may a.c.floors) = false := by
    unfold Au.check at ha
    cases h : (a.c.homeE a.mode a.nth != 0)
    · rw [h] at ha
      refine ⟨by simpa using h, ?_⟩
      cases hb : (decide (a.age < 0) || !a.car.may a.c.floors)
      · rfl
      · rw [hb] at ha; cases ha
    · rw [h] at ha
      rw [cond_true] at ha
      rw [ha] at h
      cases h
  have hmay : a.car.may a.c.floors = true := by
    cases h : a.car.may a.c.floors
    · rw [h] at h2; simp at h2
    · rfl
  have hw : within a.mode 1 5 = true := by
    unfold Cf.homeE at h1
    cases h : within a.mode 1 5
    · rw [h] at h1
      cases hk : (a.c.check != 0)
      · rw [hk] at h1; cases h1
      · rw [hk, cond_true] at h1
        rw [h1] at hk
        cases hk
    · rfl
  have hw3 : within a.mode 1 3 = true := by rw [within_iff] at hw ⊢; omega
  have ht : a.told a.moves t.key = a.told a.moves t'.key := by
    unfold Au.told
    rw [show (a.mode == 4) = false from beq_eq_false_iff_ne.2 hm.1, Bool.and_false, Bool.and_false]
  obtain ⟨held, key, fault⟩ := t
  obtain ⟨held', key', fault'⟩ := t'
  obtain rfl : fault = fault' := hf
  unfold Au.step Au.shows Au.order
  simp only at ht ⊢
  rw [ht]
  exact Cr.deaf (Cf.gear_deaf hw3) hmay _ _ _ _

end Nw
end Go.Proofs.Ytkipbgjaeapkkaa
