/-
  Chapter 17: what the functions compute, plainly (last part).
  Conditions: none (definitions).
-/
import Derived.Test.YtpidaficnfaedaaProg
import Derived.Test.YtpidaficnfaedaaHzQ
import Derived.Test.YtpidaficnfaedaaHzZ3
open Go Go.Proofs
namespace Go.Proofs.Hz
/-- Which functions are pure (1: with rows among their parameters, 2: without). -/
def puN (i : Nat) : Nat := [0, 0, 2, 1, 1, 1, 1, 1, 1, 1, 2, 1, 2, 1, 2, 1, 2, 1, 1, 1, 2, 2, 1, 2, 2, 2, 2, 1, 1, 1, 1, 1, 1, 1, 2, 1, 1, 2, 2, 2, 0, 2, 1, 2, 2, 2, 1, 2, 2, 2, 2, 2, 1, 0].getD i 0
noncomputable def FF : Nat → Option AFn := compF Try.prog puN

structure Cl where
  no : Int
  a : Int
  b : Int
structure Rs where
  v : Int
  e : Int
structure Ev where
  core : Int
  kind : Int
  a : Int
  b : Int
  v : Int
structure Sl where
  l : List Int
  c : Bool
instance : Inhabited Sl := ⟨⟨[], false⟩⟩
structure Md where
  q : Nat → Sl
  k : Sl
  v : Sl
  e : Nat → Bool
  s : Nat → Bool
def Md.setQ (m : Md) (i : Nat) (x : Sl) : Md := { m with q := fun j => if j = i then x else m.q j }
def Md.setE (m : Md) (i : Nat) (x : Bool) : Md := { m with e := fun j => if j = i then x else m.e j }
def Md.setK (m : Md) (x : Sl) : Md := { m with k := x }
def Md.setV (m : Md) (x : Sl) : Md := { m with v := x }
def mkMd (q : List Sl) (k v : Sl) (e s : List Bool) : Md := ⟨fun i => q.getD i default, k, v, fun i => e.getD i false, fun i => s.getD i false⟩
def Sl.av (x : Sl) : AV := .im (List.map eI x.l) x.c
def Md.cells (m : Md) : List AV :=
  [(m.q 0).av, (m.q 1).av, (m.q 2).av, (m.q 3).av, (m.q 4).av, (m.q 5).av, (m.q 6).av, (m.q 7).av, m.k.av, m.v.av,
   .bool (m.e 0), .bool (m.e 1), .bool (m.e 2), .bool (m.e 3), .bool (m.e 4), .bool (m.e 5), .bool (m.e 6), .bool (m.e 7), .bool (m.e 8), .bool (m.e 9), .bool (m.e 10), .bool (m.e 11), .bool (m.e 12), .bool (m.e 13), .bool (m.e 14), .bool (m.e 15),
   .bool (m.s 0), .bool (m.s 1), .bool (m.s 2), .bool (m.s 3), .bool (m.s 4), .bool (m.s 5), .bool (m.s 6), .bool (m.s 7), .bool (m.s 8), .bool (m.s 9), .bool (m.s 10), .bool (m.s 11), .bool (m.s 12), .bool (m.s 13), .bool (m.s 14), .bool (m.s 15)]
def Md.av (m : Md) : AV := .agg m.cells
/-- A model's rows; its bools. -/
def mdF (m : Md) : List AV := [(m.q 0).av, (m.q 1).av, (m.q 2).av, (m.q 3).av, (m.q 4).av, (m.q 5).av, (m.q 6).av, (m.q 7).av, m.k.av, m.v.av]
def mdT (m : Md) : List AV := [.bool (m.e 0), .bool (m.e 1), .bool (m.e 2), .bool (m.e 3), .bool (m.e 4), .bool (m.e 5), .bool (m.e 6), .bool (m.e 7), .bool (m.e 8), .bool (m.e 9), .bool (m.e 10), .bool (m.e 11), .bool (m.e 12), .bool (m.e 13), .bool (m.e 14), .bool (m.e 15),
   .bool (m.s 0), .bool (m.s 1), .bool (m.s 2), .bool (m.s 3), .bool (m.s 4), .bool (m.s 5), .bool (m.s 6), .bool (m.s 7), .bool (m.s 8), .bool (m.s 9), .bool (m.s 10), .bool (m.s 11), .bool (m.s 12), .bool (m.s 13), .bool (m.s 14), .bool (m.s 15)]
theorem mdF_ok (m : Md) : AllP OkF (mdF m) := ⟨.im eI_ok _ _, .im eI_ok _ _, .im eI_ok _ _, .im eI_ok _ _, .im eI_ok _ _, .im eI_ok _ _, .im eI_ok _ _, .im eI_ok _ _, .im eI_ok _ _, .im eI_ok _ _, trivial⟩
theorem mdT_ok (m : Md) : AllP OkT (mdT m) := by
  unfold mdT
  repeat' first | exact trivial | refine ⟨.bool _, ?_⟩
def Cl.av (c : Cl) : AV := .agg [.int .i64 c.no, .int .i64 c.a, .int .i64 c.b]
def Rs.av (r : Rs) : AV := .agg [.int .i64 r.v, .int .i64 r.e]
def Ev.av (x : Ev) : AV := .agg [.int .i64 x.core, .int .i64 x.kind, .int .i64 x.a, .int .i64 x.b, .int .i64 x.v]

def portF (no : Int) : Bool := decide (0 ≤ no ∧ no ≤ 2)
def nameF (no : Int) : Bool := decide (3 ≤ no ∧ no ≤ 5)
def eventF (no : Int) : Bool := decide (6 ≤ no ∧ no ≤ 8)
def mayF (c : Cl) : Bool :=
  if (c.no = 0 ∨ c.no = 3) ∧ (c.b < -1099511627776 ∨ c.b > 1099511627776) then false
  else if 0 ≤ c.no ∧ c.no ≤ 2 then decide (0 ≤ c.a ∧ c.a ≤ 7)
  else if 3 ≤ c.no ∧ c.no ≤ 5 then decide (0 ≤ c.a ∧ c.a ≤ 65535)
  else if 6 ≤ c.no ∧ c.no ≤ 8 then decide (0 ≤ c.a ∧ c.a ≤ 15)
  else decide (c.no = 9)
/-- What kind of event it is. -/
def kindF (no e : Int) : Int :=
  if e = 0 then
    if no = 0 then 1 else if no = 1 ∨ no = 2 then 2 else if no = 3 then 4 else if no = 4 then 8 else if no = 5 then 6 else if 6 ≤ no ∧ no ≤ 8 then 4 + no else 0
  else if e = 3 then
    if no = 2 then 3 else if no = 4 ∨ no = 5 then 7 else 0
  else if e = 4 then
    if no = 3 then 5 else 0
  else 0
def lessF (x y : Int) : Bool := decide (x < y)
def isNaNF (_ : Int) : Bool := false
def isNaN2F (_ : Int) : Bool := false
def belowF (n most : Int) : Bool := decide (0 ≤ n ∧ n < most)
def oddF (e : Int) : Bool := decide (e.tmod 2 = 1)
def groupF (c : Cl) : Int := if c.no ≤ 2 then 0 else if c.no ≤ 5 then 1 else if c.no ≤ 8 then 2 else 3
/-- What the ten syscalls are: word, op, how many, is B a value, events. -/
def kindsA : AV := .agg [(.str [115, 101, 110, 100]), (.int .i64 28), (.int .i64 8), (.bool true), (.int .i64 1), (.int .i64 0), (.int .i64 0), (.str [114, 101, 99, 118]), (.int .i64 29), (.int .i64 8), (.bool false), (.int .i64 2), (.int .i64 0), (.int .i64 0), (.str [116, 114, 121]), (.int .i64 10), (.int .i64 8), (.bool false), (.int .i64 2), (.int .i64 3), (.int .i64 0), (.str [112, 117, 116]), (.int .i64 16), (.int .i64 65536), (.bool true), (.int .i64 4), (.int .i64 0), (.int .i64 5), (.str [108, 111, 111, 107]), (.int .i64 17), (.int .i64 65536), (.bool false), (.int .i64 8), (.int .i64 7), (.int .i64 0), (.str [99, 117, 116]), (.int .i64 18), (.int .i64 65536), (.bool false), (.int .i64 6), (.int .i64 7), (.int .i64 0), (.str [115, 101, 116]), (.int .i64 19), (.int .i64 16), (.bool false), (.int .i64 10), (.int .i64 0), (.int .i64 0), (.str [114, 101, 115, 101, 116]), (.int .i64 20), (.int .i64 16), (.bool false), (.int .i64 11), (.int .i64 0), (.int .i64 0), (.str [116, 101, 115, 116]), (.int .i64 21), (.int .i64 16), (.bool false), (.int .i64 12), (.int .i64 0), (.int .i64 0), (.str [121, 105, 101, 108, 100]), (.int .i64 27), (.int .i64 0), (.bool false), (.int .i64 0), (.int .i64 0), (.int .i64 0)]
structure Kd where
  w : List UInt8
  op : Int
  most : Int
  value : Bool
  well : Int
  none : Int
  had : Int
def kdOf (no : Int) : Kd :=
  if no = 0 then ⟨[115, 101, 110, 100], 28, 8, true, 1, 0, 0⟩
  else if no = 1 then ⟨[114, 101, 99, 118], 29, 8, false, 2, 0, 0⟩
  else if no = 2 then ⟨[116, 114, 121], 10, 8, false, 2, 3, 0⟩
  else if no = 3 then ⟨[112, 117, 116], 16, 65536, true, 4, 0, 5⟩
  else if no = 4 then ⟨[108, 111, 111, 107], 17, 65536, false, 8, 7, 0⟩
  else if no = 5 then ⟨[99, 117, 116], 18, 65536, false, 6, 7, 0⟩
  else if no = 6 then ⟨[115, 101, 116], 19, 16, false, 10, 0, 0⟩
  else if no = 7 then ⟨[114, 101, 115, 101, 116], 20, 16, false, 11, 0, 0⟩
  else if no = 8 then ⟨[116, 101, 115, 116], 21, 16, false, 12, 0, 0⟩
  else if no = 9 then ⟨[121, 105, 101, 108, 100], 27, 0, false, 0, 0, 0⟩
  else ⟨[], 0, 0, false, 0, 0, 0⟩
def ofF (c : Cl) : Kd × Bool := (kdOf c.no, mayF c)
def Kd.av (k : Kd) : AV := .agg [.str k.w, .int .i64 k.op, .int .i64 k.most, .bool k.value, .int .i64 k.well, .int .i64 k.none, .int .i64 k.had]
/-- A syscall's op, registers, and whether it may be. -/
def decOp (c : Cl) : Int := if mayF c then (kdOf c.no).op else 0
def decR (c : Cl) (t id : Int) (i : Nat) : Int :=
  if mayF c then
    if c.no = 0 then [c.a, c.b, id].getD i 0
    else if c.no = 1 then [c.a, t, 0].getD i 0
    else if c.no = 9 then [t, id, 0].getD i 0
    else if c.no = 3 then [c.a, c.b, 0].getD i 0
    else [c.a, 0, 0].getD i 0
  else 0
def decE (c : Cl) : Int := if mayF c then 0 else 1

def eqL (l m : List Int) : Bool := decide (l = m)
def sameF (m n : Md) : Bool := (List.range 8).all (fun i => eqL (m.q i).l (n.q i).l) && (eqL m.k.l n.k.l && (eqL m.v.l n.v.l && ((List.range 16).all (fun i => m.e i == n.e i) && (List.range 16).all fun i => m.s i == n.s i)))
/-- Rows that are not too long. -/
def okM (m : Md) : Bool := (List.range 8).all (fun i => decide ((m.q i).l.length ≤ 1000000)) && (decide (m.k.l.length ≤ 1000000) && decide (m.v.l.length ≤ 1000000))
/-- Rising, and names. -/
def upF : List Int → Bool
  | [] => true
  | [x] => decide (0 ≤ x ∧ x ≤ 65535)
  | x :: y :: l => decide (0 ≤ x ∧ x ≤ 65535) && (decide (x < y) && upF (y :: l))
def rightF (m : Md) : Bool := (List.range 8).all (fun i => decide ((m.q i).l.length ≤ 1000)) && (upF m.k.l && decide (m.v.l.length = m.k.l.length))
def smallF (m : Md) : Bool := (List.range 8).all (fun i => decide ((m.q i).l.length ≤ 40)) && (decide (m.k.l.length ≤ 40) && rightF m)
/-- The 16 lowest figures (of two) of a number, the other way round. -/
def lowF (n : Int) : Int := if n.tmod 65536 < 0 then n.tmod 65536 + 65536 else n.tmod 65536
/-- Where a number stands in a rising row, or would stand; is it there? -/
def lbF (l : List Int) (x : Int) : Nat := (l.takeWhile fun y => decide (y < x)).length
def risingF (l : List Int) : Bool := decide (l.Pairwise (· < ·))
def searchF (l : List Int) (x : Int) : Option (Int × Bool) := if l.Pairwise (· < ·) ∧ l.length ≤ 1000000 then some ((lbF l x : Int), decide (x ∈ l)) else none
/-- Rows laid together anew. -/
def concF (l : List Int) : Option Sl := if l.length ≤ 1000000 then some ⟨l, l.isEmpty⟩ else none
def withF (l : List Int) (at' gone : Int) (more : List Int) : Option Sl :=
  if 0 ≤ at' ∧ 0 ≤ gone ∧ at' + gone ≤ l.length ∧ l.length ≤ 100000 ∧ more.length ≤ 1 then concF (l.take at'.toNat ++ more ++ l.drop (at' + gone).toNat) else none
def sentF (m : Md) (p : Int) (x : Sl) : Option Md := if 0 ≤ p ∧ p ≤ 7 then some (m.setQ p.toNat x) else none
def testedF (m : Md) (e : Int) : Option (Md × Int) := if 0 ≤ e ∧ e ≤ 15 then some (m.setE e.toNat (m.e e.toNat && !(m.s e.toNat)), if m.e e.toNat then 1 else 0) else none
end Go.Proofs.Hz
namespace Go.Proofs.Hz
theorem kinds_ok : Spec FF 50 [] kindsA := ⟨60, by kernel_rfl⟩
theorem shown_ok : Spec FF 10 [] (.bool true) := ⟨60, by kernel_rfl⟩
end Go.Proofs.Hz
open Go Go.Proofs
namespace Go.Proofs.Hz
/-- So many figures (of two), the other way round. -/
def rv : Nat → Nat → Nat → Nat
  | 0, _, a => a
  | k + 1, x, a => rv k (x / 2) (2 * a + x % 2)
def revF (n : Int) : Int := (rv 16 (lowF n).toNat 0 : Nat)
def ordF (n : Int) : Int := 2 * revF n + 1
/-- A key's name, and is it a name's key? -/
def unordF (n : Int) : Int × Bool := if n < 0 ∨ n > 131071 ∨ n % 2 = 0 then (0, false) else (revF (n / 2), true)
def laidF (m : Md) (name val : Int) : Option Md :=
  (searchF m.k.l name).bind fun s => (withF m.k.l s.1 0 [name]).bind fun k => (withF m.v.l s.1 0 [val]).bind fun v => some (Md.setV (Md.setK m ⟨k.l, k.c⟩) ⟨v.l, v.c⟩)
def cutF (m : Md) (at' : Int) : Option Md :=
  (withF m.k.l at' 1 []).bind fun k => (withF m.v.l at' 1 []).bind fun v => some (Md.setV (Md.setK m ⟨k.l, k.c⟩) ⟨v.l, v.c⟩)
/-- A model behind what took effect at a port. -/
def portFM (m : Md) (x : Ev) : Option (Md × Bool) :=
  if 0 ≤ x.a ∧ x.a ≤ 7 then
    if x.kind = 1 then (if (m.q x.a.toNat).l.length ≤ 1000000 then some (m.setQ x.a.toNat ⟨(m.q x.a.toNat).l ++ [x.v], false⟩, true) else none)
    else if x.kind = 3 then some (m, decide ((m.q x.a.toNat).l.length = 0))
    else match (m.q x.a.toNat).l with
      | [] => some (m, false)
      | y :: t => if y = x.v then some (m.setQ x.a.toNat ⟨t, (m.q x.a.toNat).c⟩, true) else some (m, false)
  else some (m, false)
def namedFM (m : Md) (x : Ev) : Option (Md × Bool) :=
  (searchF m.k.l (unordF x.a).1).bind fun s =>
    if (unordF x.a).2 = false then some (m, false)
    else if x.kind = 5 then some (m, s.2)
    else if x.kind = 8 then some (m, s.2)
    else if x.kind = 7 then some (m, !s.2)
    else if s.2 ≠ decide (x.kind = 6) then some (m, false)
    else if s.2 then (cutF m s.1).bind fun y => some (y, true)
    else (laidF m (unordF x.a).1 x.v).bind fun y => some (y, true)
def takeFM (m : Md) (x : Ev) : Option (Md × Bool) :=
  if 1 ≤ x.kind ∧ x.kind ≤ 3 then portFM m x
  else if 4 ≤ x.kind ∧ x.kind ≤ 8 then namedFM m x
  else if x.kind = 9 then some (m, true)
  else if x.kind < 10 ∨ x.kind > 12 then some (m, false)
  else if 0 ≤ x.a ∧ x.a ≤ 15 then
    if x.kind = 12 then (testedF m x.a).bind fun t => if t.2 = x.v then some (t.1, true) else some (m, false)
    else some (m.setE x.a.toNat (decide (x.kind = 10)), true)
  else some (m, false)
def doF (m : Md) (c : Cl) : Option (Md × Rs) :=
  if mayF c then
    (searchF m.k.l c.a).bind fun s =>
      if c.no = 0 then (if (m.q c.a.toNat).l.length ≤ 1000000 then some (m.setQ c.a.toNat ⟨(m.q c.a.toNat).l ++ [c.b], false⟩, ⟨0, 0⟩) else none)
      else if c.no = 1 ∨ c.no = 2 then match (m.q c.a.toNat).l with
        | [] => some (m, ⟨0, if c.no = 1 then 6 else 3⟩)
        | y :: t => some (m.setQ c.a.toNat ⟨t, (m.q c.a.toNat).c⟩, ⟨y, 0⟩)
      else if c.no = 3 then (if s.2 then some (m, ⟨0, 4⟩) else (laidF m c.a c.b).bind fun y => some (y, ⟨0, 0⟩))
      else if c.no = 4 then (if s.2 then (m.v.l[s.1.toNat]?).bind fun v => some (m, ⟨v, 0⟩) else some (m, ⟨0, 3⟩))
      else if c.no = 5 then (if s.2 then (m.v.l[s.1.toNat]?).bind fun v => (cutF m s.1).bind fun y => some (y, ⟨v, 0⟩) else some (m, ⟨0, 3⟩))
      else if c.no = 6 then some (m.setE c.a.toNat true, ⟨0, 0⟩)
      else if c.no = 7 then some (m.setE c.a.toNat false, ⟨0, 0⟩)
      else if c.no = 8 then (testedF m c.a).bind fun t => some (t.1, ⟨t.2, 0⟩)
      else some (m, ⟨0, 0⟩)
  else some (m, ⟨0, 1⟩)
def toldF (c : Cl) (r : Rs) (x : Ev) (m : Md) : Option Bool :=
  if kindF c.no r.e = 0 ∨ kindF c.no r.e ≠ x.kind then some false
  else (searchF m.k.l c.a).bind fun s =>
    if c.no = 0 then some (decide (x.a = c.a ∧ x.v = c.b))
    else if c.no = 3 then some (decide (x.a = ordF c.a ∧ (x.kind = 5 ∨ x.v = c.b)))
    else if c.no = 4 ∨ c.no = 5 then
      if x.a = ordF c.a then
        if x.kind = 7 then some true
        else if s.2 then (m.v.l[s.1.toNat]?).bind fun v => some (decide (r.v = v)) else some false
      else some false
    else if c.no = 1 ∨ c.no = 2 then some (decide (x.a = c.a ∧ (x.kind = 3 ∨ r.v = x.v)))
    else if c.no = 8 then some (decide (x.a = c.a ∧ r.v = x.v))
    else some (decide (x.a = c.a))
end Go.Proofs.Hz
