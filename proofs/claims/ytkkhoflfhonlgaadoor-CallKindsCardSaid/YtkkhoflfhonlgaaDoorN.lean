/-
  Chapter 15: which functions are pure; what the package-level variables hold. (Plain definitions.)
  Conditions: none.
-/
import Derived.Test.YtkkhoflfhonlgaaDoorProg
import Derived.Test.YtkkhoflfhonlgaaDoorHq
import Derived.Test.YtkkhoflfhonlgaaDoorHz3
open Go Go.Proofs
namespace Go.Proofs.Hz
/-- Which functions are pure (1: with rows among their parameters, 2: without). -/
def puN (i : Nat) : Nat := [0, 0, 0, 2, 1, 1, 1, 2, 2, 1, 1, 2, 2, 2, 2, 2, 2, 2, 2, 1, 1, 1, 1, 1, 2, 2, 2, 2, 2, 0, 2, 2, 1, 2, 0, 2, 0, 2, 2, 0, 2, 2, 2, 0, 0, 2, 2, 0, 2, 2, 2, 2, 2, 0, 2, 2, 2, 0, 2, 2, 2, 2, 2, 2, 2, 2, 2, 2, 2, 2, 2, 0, 0, 0, 0, 2, 2, 2, 2, 2, 2, 2, 2, 2, 2, 2, 0, 2, 2, 2, 2, 2, 0, 0, 0, 0, 0, 0, 0, 0, 0, 0, 0, 0, 0, 0, 0, 0, 0, 0, 0, 0, 0, 0, 0, 0, 0, 0, 0, 0, 0, 0].getD i 0
/-- What the variables hold: the powers of ten; the two errors. -/
def glT (g : Nat) : Option AV :=
  if g = 1 then some (.ip ((List.range 20).map fun i => .int .u64 (10 ^ i)) 0)
  else if g = 2 then some (.ip [.ifv] 0)
  else if g = 3 then some (.ip [.ifv] 0)
  else none
instance gl15 : Gl := ⟨glT⟩
noncomputable def FF : Nat → Option AFn := compF Tryd.prog puN
structure Cl where
  no : Int
  a : Int
  b : Int
instance : Inhabited Cl := ⟨⟨0, 0, 0⟩⟩
def Cl.av (c : Cl) : AV := .agg [.int .i64 c.no, .int .i64 c.a, .int .i64 c.b]
/-- A syscall's cells. -/
def eC (c : Cl) : List AV := [.int .i64 c.no, .int .i64 c.a, .int .i64 c.b]
def portF (no : Int) : Bool := decide (0 ≤ no ∧ no ≤ 2)
def nameF (no : Int) : Bool := decide (3 ≤ no ∧ no ≤ 5)
def eventF (no : Int) : Bool := decide (6 ≤ no ∧ no ≤ 8)
def mayF (c : Cl) : Bool :=
  if (c.no = 0 ∨ c.no = 3) ∧ (c.b < -1099511627776 ∨ c.b > 1099511627776) then false
  else if 0 ≤ c.no ∧ c.no ≤ 2 then decide (0 ≤ c.a ∧ c.a ≤ 7)
  else if 3 ≤ c.no ∧ c.no ≤ 5 then decide (0 ≤ c.a ∧ c.a ≤ 65535)
  else if 6 ≤ c.no ∧ c.no ≤ 8 then decide (0 ≤ c.a ∧ c.a ≤ 15)
  else decide (c.no = 9)
/-- What kind of event it is. -/
def kindF (no e : Int) : Int :=
  if e = 0 then
    if no = 0 then 1 else if no = 1 ∨ no = 2 then 2 else if no = 3 then 4 else if no = 4 then 8 else if no = 5 then 6 else if 6 ≤ no ∧ no ≤ 8 then 4 + no else 0
  else if e = 3 then
    if no = 2 then 3 else if no = 4 ∨ no = 5 then 7 else 0
  else if e = 4 then
    if no = 3 then 5 else 0
  else 0
/-- What the ten syscalls are: word, op, how many, is B a value, events. -/
def kindsA : AV := .agg [(.str [115, 101, 110, 100]), (.int .i64 28), (.int .i64 8), (.bool true), (.int .i64 1), (.int .i64 0), (.int .i64 0), (.str [114, 101, 99, 118]), (.int .i64 29), (.int .i64 8), (.bool false), (.int .i64 2), (.int .i64 0), (.int .i64 0), (.str [116, 114, 121]), (.int .i64 10), (.int .i64 8), (.bool false), (.int .i64 2), (.int .i64 3), (.int .i64 0), (.str [112, 117, 116]), (.int .i64 16), (.int .i64 65536), (.bool true), (.int .i64 4), (.int .i64 0), (.int .i64 5), (.str [108, 111, 111, 107]), (.int .i64 17), (.int .i64 65536), (.bool false), (.int .i64 8), (.int .i64 7), (.int .i64 0), (.str [99, 117, 116]), (.int .i64 18), (.int .i64 65536), (.bool false), (.int .i64 6), (.int .i64 7), (.int .i64 0), (.str [115, 101, 116]), (.int .i64 19), (.int .i64 16), (.bool false), (.int .i64 10), (.int .i64 0), (.int .i64 0), (.str [114, 101, 115, 101, 116]), (.int .i64 20), (.int .i64 16), (.bool false), (.int .i64 11), (.int .i64 0), (.int .i64 0), (.str [116, 101, 115, 116]), (.int .i64 21), (.int .i64 16), (.bool false), (.int .i64 12), (.int .i64 0), (.int .i64 0), (.str [121, 105, 101, 108, 100]), (.int .i64 27), (.int .i64 0), (.bool false), (.int .i64 0), (.int .i64 0), (.int .i64 0)]
structure Kd where
  w : List UInt8
  op : Int
  most : Int
  value : Bool
  well : Int
  none : Int
  had : Int
def kdOf (no : Int) : Kd :=
  if no = 0 then ⟨[115, 101, 110, 100], 28, 8, true, 1, 0, 0⟩
  else if no = 1 then ⟨[114, 101, 99, 118], 29, 8, false, 2, 0, 0⟩
  else if no = 2 then ⟨[116, 114, 121], 10, 8, false, 2, 3, 0⟩
  else if no = 3 then ⟨[112, 117, 116], 16, 65536, true, 4, 0, 5⟩
  else if no = 4 then ⟨[108, 111, 111, 107], 17, 65536, false, 8, 7, 0⟩
  else if no = 5 then ⟨[99, 117, 116], 18, 65536, false, 6, 7, 0⟩
  else if no = 6 then ⟨[115, 101, 116], 19, 16, false, 10, 0, 0⟩
  else if no = 7 then ⟨[114, 101, 115, 101, 116], 20, 16, false, 11, 0, 0⟩
  else if no = 8 then ⟨[116, 101, 115, 116], 21, 16, false, 12, 0, 0⟩
  else if no = 9 then ⟨[121, 105, 101, 108, 100], 27, 0, false, 0, 0, 0⟩
  else ⟨[], 0, 0, false, 0, 0, 0⟩
def ofF (c : Cl) : Kd × Bool := (kdOf c.no, mayF c)
def Kd.av (k : Kd) : AV := .agg [.str k.w, .int .i64 k.op, .int .i64 k.most, .bool k.value, .int .i64 k.well, .int .i64 k.none, .int .i64 k.had]
/-- A syscall's op, registers, and whether it may be. -/
def decOp (c : Cl) : Int := if mayF c then (kdOf c.no).op else 0
def decR (c : Cl) (t id : Int) (i : Nat) : Int :=
  if mayF c then
    if c.no = 0 then [c.a, c.b, id].getD i 0
    else if c.no = 1 then [c.a, t, 0].getD i 0
    else if c.no = 9 then [t, id, 0].getD i 0
    else if c.no = 3 then [c.a, c.b, 0].getD i 0
    else [c.a, 0, 0].getD i 0
  else 0
def decE (c : Cl) : Int := if mayF c then 0 else 1

def decodesF (c : Cl) (t id op r0 r1 r2 : Int) : Bool := decide (decE c = 0 ∧ decOp c = op ∧ decR c t id 0 = r0 ∧ decR c t id 1 = r1 ∧ decR c t id 2 = r2)
theorem kinds_ok : Spec FF 33 [] kindsA := ⟨60, by kernel_rfl⟩
theorem shown_ok : Spec FF 11 [] (.bool true) := ⟨60, by kernel_rfl⟩
end Go.Proofs.Hz
