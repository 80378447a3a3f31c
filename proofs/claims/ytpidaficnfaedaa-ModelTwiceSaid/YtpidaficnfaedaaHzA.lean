/-
  The abstract evaluator: values, heaps, operations, code. Nothing here speaks of the machine: it is plain Lean.
  Conditions: none (definitions and small lemmas).
-/
import GoSem.Dispatch
namespace Go.Proofs.Hz

/-- Abstract values. 'im': a slice whose elements are known and never written again (each element by its cells). 'sl': a slice over a block of the call's own heap. 'var': something not looked into (in symbolic runs only). -/
inductive AV where
  | bool (b : Bool)
  | int (k : IntKind) (n : Int)
  | str (s : List UInt8)
  | nilp
  | ptr (id off : Nat)
  | ip (cs : List AV) (off : Nat)
  | sl (id off n sz : Nat) (c : Option Nat)
  | im (els : List (List AV)) (clip : Bool)
  | fn (f : Nat) (first caps : List AV)
  | yld (id : Nat)
  | nilf
  | mp (id : Nat)
  | nili
  | ifv
  | agg (cs : List AV)
  | tup (vs : List AV)
  | var (fl : Bool) (i : Nat)

/-! ### A map from numbers: a tree -/
inductive T (α : Type) where
  | nil
  | node (l : T α) (v : Option α) (r : T α)

namespace T
variable {α : Type}
def get : T α → Nat → Option α
  | nil, _ => none
  | node l v r, n => if n = 0 then v else if n % 2 = 1 then l.get (n / 2) else r.get (n / 2 - 1)
def left : T α → T α | nil => nil | node l _ _ => l
def right : T α → T α | nil => nil | node _ _ r => r
def top : T α → Option α | nil => none | node _ v _ => v
def putF : Nat → T α → Nat → Option α → T α
  | 0, t, _, _ => t
  | f + 1, t, n, x =>
    if n = 0 then node t.left x t.right
    else if n % 2 = 1 then node (putF f t.left (n / 2) x) t.top t.right
    else node t.left t.top (putF f t.right (n / 2 - 1) x)
def put (t : T α) (n : Nat) (x : Option α) : T α := putF (n + 1) t n x

theorem get_zero (t : T α) : t.get 0 = t.top := by cases t <;> rfl
theorem get_odd (t : T α) {n : Nat} (h0 : n ≠ 0) (h : n % 2 = 1) : t.get n = t.left.get (n / 2) := by
  cases t with
  | nil => rfl
  | node l v r => simp [get, h0, h, left]
theorem get_even (t : T α) {n : Nat} (h0 : n ≠ 0) (h : ¬ n % 2 = 1) : t.get n = t.right.get (n / 2 - 1) := by
  cases t with
  | nil => rfl
  | node l v r => simp [get, h0, h, right]
theorem get_putF : ∀ (f : Nat) (t : T α) (n : Nat) (x : Option α) (j : Nat), n < f → (putF f t n x).get j = if n = j then x else t.get j := by
  intro f
  induction f with
  | zero => intro t n x j h; omega
  | succ f ih =>
    intro t n x j h
    unfold putF
    by_cases h0 : n = 0
    · subst h0
      simp only [if_pos]
      by_cases hj : j = 0
      · subst hj; simp [get]
      · have : ¬ 0 = j := fun e => hj e.symm
        rw [if_neg this]
        by_cases ho : j % 2 = 1
        · rw [get_odd _ hj ho, get_odd _ hj ho]; rfl
        · rw [get_even _ hj ho, get_even _ hj ho]; rfl
    · rw [if_neg h0]
      by_cases hn : n % 2 = 1
      · rw [if_pos hn]
        by_cases hj : j = 0
        · subst hj; rw [if_neg h0, get_zero, get_zero]; rfl
        · by_cases ho : j % 2 = 1
          · rw [get_odd _ hj ho, get_odd t hj ho]
            show (putF f t.left (n / 2) x).get (j / 2) = _
            rw [ih _ _ _ _ (by omega)]
            by_cases e : n = j
            · subst e; simp
            · rw [if_neg e, if_neg (by omega)]
          · rw [get_even _ hj ho, get_even t hj ho, if_neg (by intro e; subst e; exact ho hn)]; rfl
      · rw [if_neg hn]
        by_cases hj : j = 0
        · subst hj; rw [if_neg h0, get_zero, get_zero]; rfl
        · by_cases ho : j % 2 = 1
          · rw [get_odd _ hj ho, get_odd t hj ho, if_neg (by intro e; subst e; exact hn ho)]; rfl
          · rw [get_even _ hj ho, get_even t hj ho]
            show (putF f t.right (n / 2 - 1) x).get (j / 2 - 1) = _
            rw [ih _ _ _ _ (by omega)]
            by_cases e : n = j
            · subst e; simp
            · rw [if_neg e, if_neg (by omega)]
theorem get_put (t : T α) (n : Nat) (x : Option α) (j : Nat) : (t.put n x).get j = if n = j then x else t.get j := get_putF _ _ _ _ _ (Nat.lt_succ_self n)
theorem get_nil (j : Nat) : (nil : T α).get j = none := rfl
end T

/-! ### The abstract code -/
inductive AO where
  | t (n : Nat)
  | c (v : AV)

inductive AOp where
  | mov (x : AO)
  | pick (c a b : AO)
  | alloc (z : List AV)
  | box (x : AO)
  | build (z : List AV) (ps : List (Nat × Nat × AO))
  | bsl (sz : Nat) (z : List AV) (ps : List (Nat × Nat × AO))
  | load (g : Bool) (n : Nat) (a : AO)
  | store (n : Nat) (a x : AO)
  | nilck (x : AO)
  | bin (op : BinOp) (x y : AO)
  | eqa (neg : Bool) (ks : List Nat) (x y : AO)
  | eqn (k : Nat) (neg : Bool) (x y : AO)
  | eqb (neg : Bool) (x y : AO)
  | un (op : UnOp) (x : AO)
  | conv (k : IntKind) (x : AO)
  | mvs (x : AO)
  | b2s (x : AO)
  | mkfn (f : Nat) (first caps : List AO)
  | faddr (off : Nat) (x : AO)
  | fld (g : Bool) (off n : Nat) (x : AO)
  | iaA (len sz : Nat) (x i : AO)
  | iaS (sz : Nat) (x i : AO)
  | ixA (g : Bool) (len sz : Nat) (x i : AO)
  | ixS (x i : AO)
  | slA (len sz : Nat) (x : AO) (lo hi mx : Option AO)
  | slS (sz : Nat) (x : AO) (lo hi mx : Option AO)
  | slT (x : AO) (lo hi : Option AO)
  | a2p (n : Nat) (x : AO)
  | mksl (sz bytes : Nat) (z : List AV) (l c : AO)
  | mkmap
  | look (kk : Nat) (z : AV) (ok : Bool) (m k : AO)
  | mapup (kk : Nat) (m k x : AO)
  | extr (i : Nat) (x : AO)
  | app (sz bytes : Nat) (s x : AO)
  | appn (sz bytes : Nat) (z : List AV) (s n : AO)
  | cpy (sz : Nat) (d x : AO)
  | len (k : Nat) (x : AO)
  | lenc (n : Nat)
  | cap (x : AO)
  | mxi (x y : AO)
  | mni (x y : AO)
  | del (kk : Nat) (m k : AO)
  | call (f : AO) (args : List AO)
  | fail

structure AOper where
  dst : Option Nat
  op : AOp
  guard : Option (Nat × Bool)

/-- An operation of a region whose order is drawn: it, its number in the text, its kind (0: touches no memory; 1: makes a block; 2: writes; 3: writes, and new blocks do not matter to it; 4: reads), and, of a reader, how many segments back it may come up ('fl': and ahead of the blocks made in its own segment). -/
structure ADr where
  o : AOper
  i : Nat
  k : Nat
  back : Nat
  fl : Bool

inductive AC where
  | skip
  | reg (ops : List AOper)
  | drw (n : Nat) (ops : List ADr)
  | seq (a b : AC)
  | cond (x : AO) (a b : AC)
  | block (id : Nat) (b : AC)
  | loop (b : AC)
  | rngf (nt : Nat) (f : AO) (ps : List Nat) (asg body : AC)
  | exit (id : Nat)
  | scope (cur b : AC)
  | label (l : Nat)
  | goto (l : Nat)
  | ret

inductive AE where
  | nrm | ext (id : Nat) | gto (l : Nat) | ret

/-- A loop over a function, at work: what a round sees. 'st': 0 ready, 1 busy, 2 done, 3 exhausted. -/
structure ALoop where
  st : Nat
  pend : Option AE
  r : T AV
  ps : List Nat
  asg : AC
  body : AC
  nt : Nat

/-- What lies at a place of the heap. 'own' (in symbolic runs only): a row that is not looked into. -/
inductive Blk where
  | cells (cs : List AV) (fz : Bool)
  | map (es : List (AV × AV))
  | loop (l : ALoop)
  | own (k : Nat) (fz : Bool)

structure St where
  r : T AV
  h : T Blk
  nx : Nat

def St.rg (s : St) (n : Nat) : AV := (s.r.get n).getD (.tup [])
def AO.ev (s : St) : AO → AV
  | .t n => s.rg n
  | .c v => v
def St.set (s : St) (d : Option Nat) (v : AV) : St :=
  match d with
  | some d => { s with r := s.r.put d (some v) }
  | none => s
def St.hp (s : St) (id : Nat) (b : Blk) : St := { s with h := s.h.put id (some b) }
def St.new (s : St) (b : Blk) : St := { s with h := s.h.put s.nx (some b), nx := s.nx + 1 }

def AV.cells : AV → List AV
  | .agg cs => cs
  | v => [v]
def AV.one : AV → Bool
  | .agg _ => false
  | .tup _ => false
  | _ => true

/-- The cells from a place on. -/
def rdAt (cs : List AV) (off n : Nat) : Option (List AV) := if off + n ≤ cs.length then some ((cs.drop off).take n) else none
def rdH (h : T Blk) (a : AV) (n : Nat) : Option (List AV) :=
  match a with
  | .ptr id off => match h.get id with
    | some (.cells cs _) => rdAt cs off n
    | _ => none
  | .ip cs off => rdAt cs off n
  | _ => none
def ofCells (g : Bool) (cs : List AV) : Option AV :=
  if g then some (.agg cs) else match cs with
    | [x] => some x
    | _ => none
def splice (cs : List AV) (off : Nat) (xs : List AV) : List AV := cs.take off ++ xs ++ cs.drop (off + xs.length)
/-- Write cells into a block of the call's own. -/
def wrH (h : T Blk) (id off : Nat) (xs : List AV) : Option (T Blk) :=
  match h.get id with
  | some (.cells cs false) => if off + xs.length ≤ cs.length ∧ xs.all AV.one then some (h.put id (some (.cells (splice cs off xs) false))) else none
  | _ => none
def wrA (h : T Blk) (a : AV) (xs : List AV) : Option (T Blk) :=
  match a with
  | .ptr id off => wrH h id off xs
  | _ => none
/-- Parts laid into cells. -/
def fillA : List AV → List (Nat × Nat × AV) → Option (List AV)
  | cs, [] => some cs
  | cs, (off, n, x) :: ps => if x.cells.length = n ∧ off + n ≤ cs.length then fillA (splice cs off x.cells) ps else none
def evp (s : St) (ps : List (Nat × Nat × AO)) : List (Nat × Nat × AV) := ps.map fun p => (p.1, p.2.1, p.2.2.ev s)

def bvBits (op : BinOp) (k : IntKind) (x y : Int) : Option Int :=
  match op with
  | .and => some (k.wrap (BitVec.ofInt k.bits x &&& BitVec.ofInt k.bits y).toNat)
  | .or => some (k.wrap (BitVec.ofInt k.bits x ||| BitVec.ofInt k.bits y).toNat)
  | .xor => some (k.wrap (BitVec.ofInt k.bits x ^^^ BitVec.ofInt k.bits y).toNat)
  | .andNot => some (k.wrap (BitVec.ofInt k.bits x &&& ~~~ (BitVec.ofInt k.bits y)).toNat)
  | _ => none
def intBin (op : BinOp) (k : IntKind) (x y : Int) : Option AV :=
  match op with
  | .add => some (.int k (k.wrap (x + y)))
  | .sub => some (.int k (k.wrap (x - y)))
  | .mul => some (.int k (k.wrap (x * y)))
  | .quo => if y = 0 then none else some (.int k (k.wrap (x.tdiv y)))
  | .rem => if y = 0 then none else some (.int k (x.tmod y))
  | .eql => some (.bool (x == y))
  | .neq => some (.bool (x != y))
  | .lss => some (.bool (decide (x < y)))
  | .leq => some (.bool (decide (x ≤ y)))
  | .gtr => some (.bool (decide (x > y)))
  | .geq => some (.bool (decide (x ≥ y)))
  | _ => (bvBits op k x y).map (.int k)
def shBin (op : BinOp) (k : IntKind) (x y : Int) : Option AV :=
  if y < 0 then none else
  match op with
  | .shl => some (.int k (k.wrap (x * 2 ^ (min y.toNat k.bits))))
  | .shr => some (.int k (x.fdiv (2 ^ (min y.toNat k.bits))))
  | _ => none
def strBin (op : BinOp) (x y : List UInt8) : Option AV :=
  match op with
  | .add => if x.length + y.length ≤ 140737488355328 then some (.str (x ++ y)) else none
  | .eql => some (.bool (x == y))
  | .neq => some (.bool (!(x == y)))
  | .lss => some (.bool (Op.bytesLess x y))
  | .leq => some (.bool (Op.bytesLess x y || x == y))
  | .gtr => some (.bool (!(Op.bytesLess x y || x == y)))
  | .geq => some (.bool (!(Op.bytesLess x y)))
  | _ => none
def isSh : BinOp → Bool
  | .shl => true
  | .shr => true
  | _ => false
def binA (op : BinOp) (x y : AV) : Option AV :=
  match x, y with
  | .int k a, .int k' b => if isSh op then shBin op k a b else if k = k' then intBin op k a b else none
  | .str a, .str b => strBin op a b
  | _, _ => none
/-- Two cells that are plain (0: whole numbers; 1: bools; 2: strings): the same? -/
def eqCell : Nat → AV → AV → Option Bool
  | 0, .int k a, .int k' b => if k = k' then some (a == b) else none
  | 1, .bool a, .bool b => some (a == b)
  | 2, .str a, .str b => some (a == b)
  | _, _, _ => none
def eqCells : List Nat → List AV → List AV → Option Bool
  | [], [], [] => some true
  | k :: ks, x :: xs, y :: ys => match eqCell k x y, eqCells ks xs ys with
    | some a, some b => some (a && b)
    | _, _ => none
  | _, _, _ => none
/-- Something held against nil: is it nil? (0: a function; 1: a pointer; 2: an interface value.) -/
def isNilA : Nat → AV → Option Bool
  | 0, .nilf => some true
  | 0, .fn .. => some false
  | 1, .nilp => some true
  | 1, .ptr .. => some false
  | 1, .ip .. => some false
  | 2, .nili => some true
  | 2, .ifv => some false
  | _, _ => none
def unA (op : UnOp) (x : AV) : Option AV :=
  match op, x with
  | .not, .bool b => some (.bool (!b))
  | .neg, .int k n => some (.int k (k.wrap (0 - n)))
  | .xor, .int k n => (bvBits .xor k (if k.signed then -1 else k.max) n).map (.int k)
  | _, _ => none
def toBytes : List AV → Option (List UInt8)
  | [] => some []
  | .int .u8 n :: r => (toBytes r).map (UInt8.ofNat n.toNat :: ·)
  | _ :: _ => none
def natOf (x : AV) : Option Nat :=
  match x with
  | .int _ n => if 0 ≤ n then some n.toNat else none
  | _ => none
def natOpt (s : St) (d : Nat) : Option AO → Option Nat
  | none => some d
  | some x => natOf (x.ev s)
/-- Elements' cells, one behind the other: how many elements, and the cells. -/
def elemsOf (h : T Blk) (sz : Nat) (x : AV) : Option (Nat × List AV) :=
  match x with
  | .im els _ => if els.all (fun e => e.length == sz) then some (els.length, els.flatten) else none
  | .sl id off n z _ => if z = sz then match h.get id with
      | some (.cells cs _) => (rdAt cs off (n * sz)).map fun l => (n, l)
      | _ => none
    else none
  | .str s => if sz = 1 then some (s.length, s.map fun b => .int .u8 b.toNat) else none
  | _ => none
def roomB : Nat := 140737488355328
def keyEq : AV → AV → Option Bool
  | .int k a, .int k' b => if k = k' then some (a == b) else none
  | .str a, .str b => some (a == b)
  | _, _ => none
def findA (k : AV) : List (AV × AV) → Nat → Option (Option (Nat × AV))
  | [], _ => some none
  | (x, v) :: es, i => match keyEq k x with
    | some true => some (some (i, v))
    | some false => findA k es (i + 1)
    | none => none
def keyOk : Nat → AV → Bool
  | 0, .int .. => true
  | 1, .str .. => true
  | _, _ => false
def bounds3 (s : St) (len capk : Nat) (lo hi mx : Option AO) : Option (Nat × Nat × Nat) :=
  match natOpt s capk mx, natOpt s len hi, natOpt s 0 lo with
  | some m, some h, some l => if m ≤ capk ∧ h ≤ m ∧ l ≤ h ∧ (mx.isSome → hi.isSome) then some (l, h, m) else none
  | _, _, _ => none

/-- What an operation that calls nobody comes to: its value, and the state. -/
def opA (s : St) : AOp → Option (AV × St)
  | .mov x => some (x.ev s, s)
  | .pick c a b => match c.ev s with
    | .bool t => some (if t then a.ev s else b.ev s, s)
    | _ => none
  | .alloc z => some (.ptr s.nx 0, s.new (.cells z false))
  | .box x => if (x.ev s).cells.all AV.one then some (.ptr s.nx 0, s.new (.cells (x.ev s).cells false)) else none
  | .build z ps => (fillA z (evp s ps)).map fun cs => (.agg cs, s)
  | .bsl sz z ps => if sz = 0 then none else match fillA z (evp s ps) with
    | some cs => if cs.all AV.one ∧ z.length % sz = 0 then some (.sl s.nx 0 (z.length / sz) sz (some (z.length / sz)), s.new (.cells cs false)) else none
    | none => none
  | .load g n a => match rdH s.h (a.ev s) n with
    | some cs => (ofCells g cs).map fun v => (v, s)
    | none => none
  | .store n a x => if (x.ev s).cells.length = n then (wrA s.h (a.ev s) (x.ev s).cells).map fun h => (.tup [], { s with h := h }) else none
  | .nilck x => match x.ev s with
    | .nilp => none
    | .nili => none
    | .nilf => none
    | .ptr i o => some (.ptr i o, s)
    | .ip cs o => some (.ip cs o, s)
    | .fn f a b => some (.fn f a b, s)
    | .yld l => some (.yld l, s)
    | _ => none
  | .bin op x y => (binA op (x.ev s) (y.ev s)).map fun v => (v, s)
  | .eqa neg ks x y => match x.ev s, y.ev s with
    | .agg xs, .agg ys => (eqCells ks xs ys).map fun b => (.bool (if neg then !b else b), s)
    | _, _ => none
  | .eqn k neg x y => match isNilA k (x.ev s), isNilA k (y.ev s) with
    | some a, some b => if a || b then some (.bool (if neg then !(a && b) else a && b), s) else none
    | _, _ => none
  | .eqb neg x y => match x.ev s, y.ev s with
    | .bool a, .bool b => some (.bool (if neg then !(a == b) else a == b), s)
    | _, _ => none
  | .un op x => (unA op (x.ev s)).map fun v => (v, s)
  | .conv k x => match x.ev s with
    | .int _ n => some (.int k (k.wrap n), s)
    | _ => none
  | .mvs x => match x.ev s with
    | .str b => some (.str b, s)
    | _ => none
  | .b2s x => match elemsOf s.h 1 (x.ev s) with
    | some (_, cs) => match x.ev s with
      | .str _ => none
      | _ => (toBytes cs).map fun b => (.str b, s)
    | none => none
  | .mkfn f a b => some (.fn f (a.map (AO.ev s)) (b.map (AO.ev s)), s)
  | .faddr off x => match x.ev s with
    | .ptr id o => some (.ptr id (o + off), s)
    | .ip cs o => some (.ip cs (o + off), s)
    | _ => none
  | .fld g off n x => match x.ev s with
    | .agg cs => match rdAt cs off n with
      | some l => (ofCells g l).map fun v => (v, s)
      | none => none
    | _ => none
  | .iaA len sz x i => match natOf (i.ev s) with
    | some j => if j < len then match x.ev s with
        | .ptr id o => some (.ptr id (o + j * sz), s)
        | .ip cs o => some (.ip cs (o + j * sz), s)
        | _ => none
      else none
    | none => none
  | .iaS sz x i => match natOf (i.ev s) with
    | some j => match x.ev s with
      | .im els _ => match els[j]? with
        | some e => if e.length = sz then some (.ip e 0, s) else none
        | none => none
      | .sl id off n z _ => if j < n ∧ z = sz then some (.ptr id (off + j * sz), s) else none
      | _ => none
    | none => none
  | .ixA g len sz x i => match natOf (i.ev s), x.ev s with
    | some j, .agg cs => if j < len then match rdAt cs (j * sz) sz with
        | some l => (ofCells g l).map fun v => (v, s)
        | none => none
      else none
    | _, _ => none
  | .ixS x i => match natOf (i.ev s), x.ev s with
    | some j, .str b => (b[j]?).map fun c => (.int .u8 c.toNat, s)
    | _, _ => none
  | .slA len sz x lo hi mx => match bounds3 s len len lo hi mx, x.ev s with
    | some (l, h, m), .ptr id o => match s.h.get id with
      | some (.cells cs _) => if o + len * sz ≤ cs.length ∧ 0 < sz then some (.sl id (o + l * sz) (h - l) sz (some (m - l)), s) else none
      | _ => none
    | _, _ => none
  | .slS sz x lo hi mx => match x.ev s with
    | .im els cl => match bounds3 s els.length els.length lo hi mx with
      | some (l, h, m) => if els.all (fun e => e.length == sz) then some (.im ((els.drop l).take (h - l)) (if mx.isSome then m == h else cl && h == els.length), s) else none
      | none => none
    | .sl id off n z c => if z = sz then match bounds3 s n (c.getD n) lo hi mx with
        | some (l, h, m) => some (.sl id (off + l * sz) (h - l) sz (if mx.isSome then some (m - l) else c.map (· - l)), s)
        | none => none
      else none
    | _ => none
  | .slT x lo hi => match x.ev s with
    | .str b => match bounds3 s b.length b.length lo hi none with
      | some (l, h, _) => some (.str ((b.drop l).take (h - l)), s)
      | none => none
    | _ => none
  | .a2p n x => match x.ev s with
    | .sl id off k sz _ => if sz = 1 ∧ n ≤ k ∧ 0 < n then some (.ptr id off, s) else none
    | _ => none
  | .mksl sz bytes z l c => match natOf (l.ev s), natOf (c.ev s) with
    | some l, some c => if l ≤ c ∧ c * bytes ≤ roomB ∧ c ≤ roomB ∧ z.length = sz ∧ 0 < sz ∧ z.all AV.one then some (.sl s.nx 0 l sz (some c), s.new (.cells (List.replicate c z).flatten false)) else none
    | _, _ => none
  | .mkmap => some (.mp s.nx, s.new (.map []))
  | .look kk z ok m k => match m.ev s with
    | .mp id => match s.h.get id with
      | some (.map es) => if keyOk kk (k.ev s) then match findA (k.ev s) es 0 with
          | some (some (_, v)) => some (if ok then .tup [v, .bool true] else v, s)
          | some none => some (if ok then .tup [z, .bool false] else z, s)
          | none => none
        else none
      | _ => none
    | _ => none
  | .mapup kk m k x => match m.ev s with
    | .mp id => match s.h.get id with
      | some (.map es) => if keyOk kk (k.ev s) then match findA (k.ev s) es 0 with
          | some (some (i, _)) => some (.tup [], s.hp id (.map (es.set i (k.ev s, x.ev s))))
          | some none => some (.tup [], s.hp id (.map (es ++ [(k.ev s, x.ev s)])))
          | none => none
        else none
      | _ => none
    | _ => none
  | .del kk m k => match m.ev s with
    | .mp id => match s.h.get id with
      | some (.map es) => if keyOk kk (k.ev s) then match findA (k.ev s) es 0 with
          | some (some (i, _)) => some (.tup [], s.hp id (.map (es.eraseIdx i)))
          | some none => some (.tup [], s)
          | none => none
        else none
      | _ => none
    | _ => none
  | .extr i x => match x.ev s with
    | .tup vs => (vs[i]?).map fun v => (v, s)
    | _ => none
  | .app sz bytes d x => match elemsOf s.h sz (x.ev s) with
    | some (n, xs) => if xs.all AV.one ∧ 0 < sz then match d.ev s with
      | .im els cl => if n = 0 then some (.im els cl, s) else
        if cl ∧ els.all (fun e => e.length == sz) ∧ (els.length + n) * bytes ≤ roomB ∧ els.length + n ≤ roomB then
          some (.sl s.nx 0 (els.length + n) sz none, s.new (.cells (els.flatten ++ xs) false)) else none
      | .sl id off k z c => if z ≠ sz then none else if n = 0 ∧ c.isSome then some (.sl id off k z c, s) else
        if (k + n) * bytes ≤ roomB ∧ k + n ≤ roomB then
          match s.h.get id with
          | some (.cells cs fz) => match c with
            | some m => if k + n ≤ m then (wrH s.h id (off + k * sz) xs).map fun h => (.sl id off (k + n) sz c, { s with h := h })
              else match rdAt cs off (k * sz) with
                | some old => some (.sl s.nx 0 (k + n) sz none, s.new (.cells (old ++ xs) false))
                | none => none
            | none => if fz = false ∧ off = 0 ∧ k * sz ≤ cs.length then
                some (.sl s.nx 0 (k + n) sz none, { s with h := (s.h.put id none).put s.nx (some (.cells (cs.take (k * sz) ++ xs) false)), nx := s.nx + 1 }) else none
          | _ => none
        else none
      | _ => none
      else none
    | none => none
  | .appn sz bytes z d n => match natOf (n.ev s), d.ev s with
    | some n, .im els cl => if n = 0 then some (.im els cl, s) else
        if cl ∧ els.all (fun e => e.length == sz) ∧ (els.length + n) * bytes ≤ roomB ∧ els.length + n ≤ roomB ∧ z.length = sz ∧ 0 < sz ∧ z.all AV.one then
          some (.sl s.nx 0 (els.length + n) sz none, s.new (.cells (els.flatten ++ (List.replicate n z).flatten) false)) else none
    | _, _ => none
  | .cpy sz d x => match elemsOf s.h sz (x.ev s), d.ev s with
    | some (n, xs), .sl id off k z _ => if z = sz then (wrH s.h id off (xs.take (min n k * sz))).map fun h => (.int .i64 (min n k : Nat), { s with h := h }) else none
    | _, _ => none
  | .len k x => match k, x.ev s with
    | 0, .im els _ => some (.int .i64 els.length, s)
    | 0, .sl _ _ n _ _ => some (.int .i64 n, s)
    | 1, .str b => some (.int .i64 b.length, s)
    | 2, .mp id => match s.h.get id with
      | some (.map es) => some (.int .i64 es.length, s)
      | _ => none
    | _, _ => none
  | .lenc n => some (.int .i64 n, s)
  | .cap x => match x.ev s with
    | .im els true => some (.int .i64 els.length, s)
    | .sl _ _ _ _ (some c) => some (.int .i64 c, s)
    | _ => none
  | .mxi x y => match x.ev s, y.ev s with
    | .int k a, .int _ b => some (.int k (if b > a then b else a), s)
    | _, _ => none
  | .mni x y => match x.ev s, y.ev s with
    | .int k a, .int _ b => some (.int k (if b < a then b else a), s)
    | _, _ => none
  | .call .. => none
  | .fail => none
end Go.Proofs.Hz
