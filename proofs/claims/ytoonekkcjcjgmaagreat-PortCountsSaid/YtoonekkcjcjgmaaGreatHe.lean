/-
  The program's code told as abstract code: operations, regions, functions.
  Conditions: none (definitions).
-/
import Derived.Test.YtoonekkcjcjgmaaGreatHa
namespace Go.Proofs.Hz

def absCell : Value → Option AV
  | .bool b => some (.bool b)
  | .int k n => some (.int k n)
  | .string s => some (.str s.data.toList)
  | .pointer none => some .nilp
  | .slice none 0 0 => some (.im [] true)
  | .nilFunc => some .nilf
  | .map none => some .nilm
  | .nilIface => some .nili
  | .func (.func f) first captured => if first.size = 0 ∧ captured.size = 0 then some (.fn f [] []) else none
  | _ => none
def absC : Value → Option AV
  | .agg cs => (mapO absCell cs.toList).map .agg
  | .tuple vs => if vs.size = 0 then some (.tup []) else none
  | v => absCell v
def isNilS : Value → Bool
  | .slice none 0 0 => true
  | _ => false
/-- The cells of a zero value of a type whose nil slices matter (a Builder's). -/
def absCellN (v : Value) : Option AV := if isNilS v then some .nils else absCell v
section
variable [Gl]
def absO : Operand → Option AO
  | .tmp t => some (.t t)
  | .const v => (absC v).map .c
  | .func f => some (.c (.fn f [] []))
  | .global g => (Gl.tab g).map .c
def absOO : Option Operand → Option (Option AO)
  | none => some none
  | some x => (absO x).map some

def szO (P : Program) (t : TypeId) : Option Nat := (P.info? t).map (·.size)
def byO (P : Program) (t : TypeId) : Option Nat := (P.info? t).map (·.bytes)
def gO (P : Program) (t : TypeId) : Option Bool :=
  match P.underlying t with
  | some (.struct _) => some true
  | some (.array _ _) => some true
  | some _ => some false
  | none => none
def isBld (P : Program) (t : TypeId) : Bool :=
  match P.info? t with
  | some i => match i.desc with
    | .named n _ => n == "strings.Builder"
    | _ => false
  | none => false
def absCellZ (P : Program) (t : TypeId) : Value → Option AV := if isBld P t then absCellN else absCell
def zO (P : Program) (t : TypeId) : Option (List AV) :=
  match P.info? t with
  | some i => match i.zero with
    | some z => mapO (absCellZ P t) z.cells.toList
    | none => none
  | none => none
def zvO (P : Program) (t : TypeId) : Option AV :=
  match P.info? t with
  | some i => match i.zero with
    | some z => absC z
    | none => none
  | none => none
def elO (P : Program) (t : TypeId) : Option TypeId :=
  match P.underlying t with
  | some (.slice e) => some e
  | _ => none

/-- A type whose values are plain cells, one behind the other: their kinds. -/
def plainFs (p : TypeId → Option (List Nat)) : Nat → List Field → Option (List Nat)
  | _, [] => some []
  | at_, f :: fs => if f.name ≠ "_" ∧ f.offset = at_ then match p f.type with
      | some ks => match plainFs p (at_ + ks.length) fs with
        | some l => some (ks ++ l)
        | none => none
      | none => none
    else none
def plainT (P : Program) : Nat → TypeId → Option (List Nat)
  | 0, _ => none
  | d + 1, t => match P.underlying t with
    | some .bool => if szO P t = some 1 then some [1] else none
    | some (.int _) => if szO P t = some 1 then some [0] else none
    | some .string => if szO P t = some 1 then some [2] else none
    | some (.struct fs) => if P.stoodInHeld t then none else match plainFs (plainT P d) 0 fs.toList with
      | some ks => if szO P t = some ks.length then some ks else none
      | none => none
    | some (.array n e) => match plainT P d e with
      | some ks => if szO P t = some (n * ks.length) ∧ szO P e = some ks.length then some (List.replicate n ks).flatten else none
      | none => none
    | _ => none

def compParts (f : Nat → Option (Nat × Nat)) (ps : List (Nat × Operand)) : Option (List (Nat × Nat × AO)) :=
  mapO (fun p => match f p.1, absO p.2 with
    | some (off, n), some x => some (off, n, x)
    | _, _ => none) ps
def fieldPl (P : Program) (fs : Array Field) (i : Nat) : Option (Nat × Nat) :=
  match fs[i]? with
  | some f => (szO P f.type).map fun n => (f.offset, n)
  | none => none
def isNilC : Operand → Bool
  | .const .nilIface => true
  | _ => false
def isNilT : Operand → Bool
  | .const (.slice none 0 0) => true
  | _ => false
def isNilP : Operand → Bool
  | .const (.pointer none) => true
  | _ => false

/-- A type of whole numbers with a name of its own that is held in interface values (the only such one). -/
def intIface (P : Program) : Option Nat :=
  (List.range P.types.size).find? fun t => match P.info? t with
    | some i => match i.desc with
      | .named "internal/strconv.Error" _ => i.comparable && (match P.underlying t with | some (.int _) => true | _ => false)
      | _ => false
    | none => false
def compBin (P : Program) (op : BinOp) (t : TypeId) (x y : Operand) : Option AOp :=
  match absO x, absO y with
  | some a, some b =>
    if op = .eql ∨ op = .neq then match P.underlying t with
      | some (.int _) => some (.bin op a b)
      | some .string => some (.bin op a b)
      | some .bool => some (.eqb (op == .neq) a b)
      | some (.struct _) => (plainT P 12 t).map fun ks => .eqa (op == .neq) ks a b
      | some (.array _ _) => (plainT P 12 t).map fun ks => .eqa (op == .neq) ks a b
      | some (.func _ _ _) => some (.eqn 0 (op == .neq) a b)
      | some (.pointer e) => if isNilP x || isNilP y then some (.eqn 1 (op == .neq) a b) else match szO P e with
        | some (_ + 1) => some (.eqp (op == .neq) a b)
        | _ => none
      | some (.interface _) => if isNilC x || isNilC y then some (.eqn 2 (op == .neq) a b) else (intIface P).map fun u => .eqi (op == .neq) u a b
      | some (.slice _) => if isNilT y then some (.eqn 3 (op == .neq) a (.c .nils)) else none
      | _ => none
    else some (.bin op a b)
  | _, _ => none
def compConv (P : Program) (src dst : TypeId) (x : Operand) : Option AOp :=
  match P.underlying src, P.underlying dst, absO x with
  | some (.int _), some (.int k), some a => some (.conv k a)
  | some .string, some .string, some a => some (.mvs a)
  | some (.slice e), some .string, some a => match P.underlying e with
    | some (.int .u8) => some (.b2s a)
    | _ => none
  | some .string, some (.slice e), some a => match P.underlying e with
    | some (.int .u8) => some (.s2b e a)
    | _ => none
  | some (.pointer u), some .unsafePointer, some a => match szO P u with
    | some (n + 1) => some (.cvp u (n + 1) a)
    | _ => none
  | some .unsafePointer, some (.pointer u), some a => match szO P u with
    | some (n + 1) => some (.cvp u (n + 1) a)
    | _ => none
  | _, _, _ => none
def compSlice (P : Program) (t : TypeId) (x : Operand) (lo hi mx : Option Operand) : Option AOp :=
  match absO x, absOO lo, absOO hi, absOO mx with
  | some a, some l, some h, some m => match P.underlying t with
    | some (.array n e) => match szO P e with
      | some sz => some (.slA n sz a l h m)
      | none => none
    | some (.slice e) => match szO P e with
      | some sz => some (.slS sz a l h m)
      | none => none
    | some .string => if mx.isNone then some (.slT a l h) else none
    | _ => none
  | _, _, _, _ => none
/-- A map's type: of what kind its keys are, their type, and the elements'. -/
def keyT (P : Program) (t : TypeId) : Option (Nat × TypeId × TypeId) :=
  match P.underlying t with
  | some (.map kt et) => match P.underlying kt with
    | some (.int _) => some (0, kt, et)
    | some .string => some (1, kt, et)
    | _ => none
  | _ => none
def isSeq (P : Program) (t : TypeId) : Bool :=
  match P.underlying t with
  | some (.slice _) => true
  | some .string => true
  | _ => false
def isIntT (P : Program) (t : TypeId) : Bool :=
  match P.underlying t with
  | some (.int _) => true
  | _ => false
def compApp (P : Program) (t u : TypeId) (s x : AO) : Option AOp :=
  match elO P t with
  | some e => match szO P e, byO P e, zO P e with
    | some sz, some by_, some z => if z.length = sz ∧ isSeq P u then some (.app e sz by_ s x) else if z.length = sz ∧ isIntT P u then some (.appn e sz by_ z s x) else none
    | _, _, _ => none
  | none => none
def compLen (P : Program) (t : TypeId) (x : AO) : Option AOp :=
  match P.underlying t with
  | some (.slice _) => some (.len 0 x)
  | some .string => some (.len 1 x)
  | some (.map _ _) => some (.len 2 x)
  | some (.array n _) => some (.lenc n)
  | _ => none
def compBuiltin (P : Program) (b : Builtin) (ts : Array TypeId) (args : List AO) : Option AOp :=
  match b, args, ts[0]? with
  | .append, [s, x], some t => match ts[1]? with
    | some u => compApp P t u s x
    | none => none
  | .copy, [d, s], some t => match elO P t with
    | some e => (szO P e).map fun sz => .cpy sz d s
    | none => none
  | .len, [x], some t => compLen P t x
  | .cap, [x], some t => match P.underlying t with
    | some (.slice _) => some (.cap x)
    | _ => none
  | .max, [x, y], _ => some (.mxi x y)
  | .min, [x, y], _ => some (.mni x y)
  | .delete, [m, k], some t => match keyT P t with
    | some (kk, _, _) => some (.del kk m k)
    | none => none
  | .unsafeSliceData, [x], some _ => some (.usd x)
  | .unsafeString, [p, n], some t => match P.underlying t with
    | some (.pointer e) => match P.underlying e with
      | some (.int .u8) => if P.cellsOf e = 1 ∧ 2 ≤ P.depth then some (.ust e p n) else none
      | _ => none
    | _ => none
  | _, _, _ => none

/-- The functions without a body that are told: which. -/
def extK (P : Program) (f : Nat) : Option Nat :=
  match P.funcs[f]? with
  | some fn => if fn.body.isNone && fn.origin == "" then
      if fn.name == "internal/abi.NoEscape" then some 0
      else if fn.name == "internal/bytealg.IndexByteString" then some 1
      else if fn.name == "internal/bytealg.CountString" then some 2
      else none
    else none
  | none => none
def extO (k : Nat) : List AO → Option AOp
  | [x] => if k = 0 then some (.ext 0 x x) else none
  | [x, y] => if k = 1 ∨ k = 2 then some (.ext k x y) else none
  | _ => none
def compOp (P : Program) : Op → Option AOp
  | .move x => (absO x).map .mov
  | .assign x => (absO x).map .mov
  | .pick c a b => match absO c, absO a, absO b with
    | some c, some a, some b => some (.pick c a b)
    | _, _, _ => none
  | .alloc t => (zO P t).map (.alloc t)
  | .box t x => (absO x).map (.box t)
  | .build t ps => match zO P t, P.underlying t with
    | some z, some (.struct fs) => if fs.all (fun f => (P.info? f.type).isSome) then (compParts (fieldPl P fs) ps.toList).map (.build z) else none
    | some z, some (.array _ e) => match szO P e with
      | some sz => (compParts (fun i => some (i * sz, sz)) ps.toList).map (.build z)
      | none => none
    | _, _ => none
  | .buildSlice t len ps => match elO P t with
    | some e => match szO P e, zO P e with
      | some sz, some z => if len * sz ≤ 16777216 ∧ z.length = sz ∧ 0 < sz then (compParts (fun i => some (i * sz, sz)) ps.toList).map (.bsl e sz (List.replicate len z).flatten) else none
      | _, _ => none
    | none => none
  | .load t a => match gO P t, szO P t, absO a with
    | some g, some n, some a => if g = false → n = 1 then some (.load g n a) else none
    | _, _, _ => none
  | .store t a x => match szO P t, absO a, absO x with
    | some n, some a, some x => some (.store n a x)
    | _, _, _ => none
  | .nilCheck x => (absO x).map .nilck
  | .binOp op t x y _ => compBin P op t x y
  | .unOp op _ x => (absO x).map (.un op)
  | .convert src dst x => compConv P src dst x
  | .sliceToArrayPointer t x => match P.underlying t, absO x with
    | some (.array n _), some x => some (.a2p n x)
    | _, _ => none
  | .makeFunc (.func f) first caps => match mapO absO first.toList, mapO absO caps.toList with
    | some a, some b => some (.mkfn f a b)
    | _, _ => none
  | .makeMap t r => match r, P.underlying t with
    | none, some (.map _ _) => some .mkmap
    | some (.const (.int _ _)), some (.map _ _) => some .mkmap
    | _, _ => none
  | .makeSlice t l c => match elO P t with
    | some e => match szO P e, byO P e, zO P e, absO l, absO c with
      | some sz, some by_, some z, some l, some c => some (.mksl e sz by_ z l c)
      | _, _, _, _, _ => none
    | none => none
  | .slice t x lo hi mx => compSlice P t x lo hi mx
  | .fieldAddr s x f => match P.underlying s, absO x with
    | some (.struct fs), some a => match fs[f]? with
      | some f => match szO P f.type with
        | some n => if n = 0 then none else some (.faddr f.offset a)
        | none => none
      | none => none
    | _, _ => none
  | .field s x f => match P.underlying s, absO x with
    | some (.struct fs), some a => match fs[f]? with
      | some f => match gO P f.type, szO P f.type with
        | some g, some n => if g = false → n = 1 then some (.fld g f.offset n a) else none
        | _, _ => none
      | none => none
    | _, _ => none
  | .indexAddr t x i => match P.underlying t, absO x, absO i with
    | some (.array len e), some a, some j => (szO P e).map fun sz => .iaA len sz a j
    | some (.slice e), some a, some j => (szO P e).map fun sz => .iaS sz a j
    | _, _, _ => none
  | .index t x i => match P.underlying t, absO x, absO i with
    | some (.array len e), some a, some j => match gO P e, szO P e with
      | some g, some sz => if g = false → sz = 1 then some (.ixA g len sz a j) else none
      | _, _ => none
    | some .string, some a, some j => some (.ixS a j)
    | _, _, _ => none
  | .lookup t x i ok => match keyT P t, absO x, absO i with
    | some (kk, _, et), some a, some j => (zvO P et).map fun z => .look kk z ok a j
    | _, _, _ => none
  | .mapUpdate t m k x => match keyT P t, absO m, absO k, absO x with
    | some (kk, _, _), some m, some k, some x => some (.mapup kk m k x)
    | _, _, _, _ => none
  | .insert t m k x => match keyT P t, absO m, absO k, absO x with
    | some (kk, _, _), some m, some k, some x => some (.mapup kk m k x)
    | _, _, _, _ => none
  | .extract x i => (absO x).map (.extr i)
  | .makeInterface t x => match P.underlying t, absO x with
    | some (.interface _), _ => none
    | some _, some x => some (.mki t x)
    | _, _ => none
  | .call c => match mapO absO c.args.toList with
    | some as => match c.callee with
      | .builtin b => compBuiltin P b c.argTypes as
      | .value (.func f) => match extK P f with
        | none => some (.call (.c (.fn f [] [])) as)
        | some k => extO k as
      | .value f => (absO f).map fun f => .call f as
      | .invoke _ _ => none
    | none => none
  | _ => none

def compGuard (ops : Array Oper) : Option (Nat × Bool) → Option (Option (Nat × Bool))
  | none => some none
  | some (j, b) => match (ops[j]?).bind (·.dst) with
    | some t => some (some (t, b))
    | none => none
/-- A call by a value is told as a call, and nothing else is; what is not covered is told as something that comes to nothing. -/
def compOpX (P : Program) (op : Op) : Option AOp :=
  match compOp P op with
  | some (.call f as) => match op with
    | .call c => match c.callee with
      | .value _ => some (.call f as)
      | _ => none
    | _ => none
  | none => some .fail
  | r => r
def compOper (P : Program) (nt : Nat) (ops : Array Oper) (o : Oper) : Option AOper :=
  match compOpX P o.op, compGuard ops o.guard with
  | some op, some g => if (match o.dst with | some d => decide (d < nt) | none => true) then some { dst := o.dst, op := op, guard := g } else none
  | _, _ => none
def compRes : ResultVar → (P : Program) → Option (Nat × Option (Bool × Nat))
  | .tmp t, _ => some (t, none)
  | .cell a t, P => match gO P t, szO P t with
    | some g, some n => if g = false → n = 1 then some (a, some (g, n)) else none
    | _, _ => none
end
end Go.Proofs.Hz
