/-
  The program's code told as abstract code: control, regions (also those whose order is drawn), functions.
  Conditions: none (definitions).
-/
import Derived.Test.YtpidaficnfaedaaHzE
import Derived.Test.YtpidaficnfaedaaHzP
namespace Go.Proofs.Hz

def edgeM (acc : List Nat) : List Edge → Nat
  | [] => 0
  | e :: es => if Region.binds .any e then edgeM acc es ||| (2 ^ e.on ||| acc.getD e.on 0) else edgeM acc es
def masks : List Oper → List Nat → List Nat
  | [], acc => acc
  | o :: os, acc => masks os (acc ++ [edgeM acc o.after.toList])
/-- Is operation i ahead of operation j? -/
def ancB (ms : List Nat) (i j : Nat) : Bool := (ms.getD j 0).testBit i

/-- What is known of a function when it is called by its number: 0: nothing; 1: it works for itself, and it is handed slices; 2: for itself, no slices. -/
def kindA (pu : Nat → Nat) : AOp → Nat
  | .call f _ => match f with
    | .c (.fn g [] []) => if pu g = 2 then 0 else if pu g = 1 then 3 else 2
    | _ => 2
  | .store .. => 3
  | .app .. => 3
  | .cpy .. => 3
  | o => if quietOp o then 0 else if newOp o then 1 else if readOp o then 4 else 2
def lenQuiet : AOp → Bool
  | .len 0 _ => true
  | .len 1 _ => true
  | _ => false

/-- The order that is worked in: each writer as early as it may come. -/
def orderL (ms : List Nat) : List (Nat × Nat) → List (Nat × Nat) → List (Nat × Nat)
  | [], rem => rem
  | q :: ws, rem => rem.filter (fun p => ancB ms p.1 q.1) ++ q :: orderL ms ws (rem.filter fun p => !ancB ms p.1 q.1 && p.1 != q.1)
def fillL (ms : List Nat) : List (Nat × Nat) → List (Nat × Nat) → List (Nat × Nat × Nat × Bool)
  | _, [] => []
  | pre, p :: l => (p.1, p.2, (if p.2 = 4 then pre.countP (fun q => isW q.2 && !ancB ms q.1 p.1) else 0), (if p.2 = 4 then pre.any (fun q => q.2 == 1 && !ancB ms q.1 p.1) else false)) :: fillL ms (p :: pre) l
def idxL : Nat → List Nat → List (Nat × Nat)
  | _, [] => []
  | i, k :: ks => (i, k) :: idxL (i + 1) ks
def planL (ms : List Nat) (ks : List Nat) : List (Nat × Nat × Nat × Bool) :=
  let l := idxL 0 ks
  fillL ms [] (orderL ms (l.filter fun p => isW p.2) l)

def okPairs (ms : List Nat) : List ADr → Bool
  | [] => true
  | x :: l => l.all (fun y => ancB ms x.i y.i || (apartT x.o y.o && okKinds x y)) && okPairs ms l
def okBack (ms : List Nat) : List ADr → List ADr → Bool
  | _, [] => true
  | pre, y :: l => (decide (y.k < 4) || decide (pre.countP (fun x => isW x.k && !ancB ms x.i y.i) ≤ y.back)) && okBack ms (y :: pre) l
def okOnce : List ADr → Bool
  | [] => true
  | x :: l => l.all (fun y => y.i != x.i) && okOnce l
def okEdges : Nat → List Oper → Bool
  | _, [] => true
  | i, o :: os => o.after.toList.all (fun e => !Region.binds .any e || decide (e.on < i)) && okEdges (i + 1) os
def okDrw (ops : Array Oper) (l : List ADr) : Bool :=
  let ms := masks ops.toList []
  okPairs ms l && (okBack ms [] l && (okOnce l && (okEdges 0 ops.toList && (decide (l.length ≤ ops.size) && (List.range ops.size).all fun i => l.any fun y => y.i == i))))

def mkDr (P : Program) (nt : Nat) (ops : Array Oper) (p : Nat × Nat × Nat × Bool) : Option ADr :=
  match ops[p.1]? with
  | some o => (compOper P nt ops o).map fun a => { o := a, i := p.1, k := p.2.1, back := p.2.2.1, fl := p.2.2.2 }
  | none => none
def compDrw (P : Program) (pu : Nat → Nat) (nt : Nat) (ops : Array Oper) : Option AC :=
  match mapO (fun o => compOpX P o.op) ops.toList with
  | none => none
  | some as =>
    match mapO (mkDr P nt ops) (planL (masks ops.toList []) (as.map (kindA pu))) with
    | none => none
    | some l => if (P.follows .mixedOrders || !Region.departs ops) && okDrw ops l then some (.drw ops.size l) else none
def compC (P : Program) (pu : Nat → Nat) (nt : Nat) : Code → Option AC
  | .skip => some .skip
  | .region _ ops draw => if draw then compDrw P pu nt ops else (mapO (compOper P nt ops) ops.toList).map .reg
  | .seq a b => match compC P pu nt a, compC P pu nt b with
    | some a, some b => some (.seq a b)
    | _, _ => none
  | .cond c a b => match absO c, compC P pu nt a, compC P pu nt b with
    | some c, some a, some b => some (.cond c a b)
    | _, _, _ => none
  | .block id b => (compC P pu nt b).map (.block id)
  | .loop b => (compC P pu nt b).map .loop
  | .exit id => some (.exit id)
  | .ret => some .ret
  | _ => none
def compF (P : Program) (pu : Nat → Nat) (f : Nat) : Option AFn :=
  match P.funcs[f]? with
  | some fn => match fn.body with
    | some c => if fn.name ≠ "runtime.NumGoroutine" then
        match compC P pu fn.ntmps c, mapO (fun r => compRes r P) fn.results.toList with
        | some b, some rs => some { nt := fn.ntmps, res := rs, body := b, pure := pu f != 0 }
        | _, _ => none
      else none
    | none => none
  | none => none
end Go.Proofs.Hz
