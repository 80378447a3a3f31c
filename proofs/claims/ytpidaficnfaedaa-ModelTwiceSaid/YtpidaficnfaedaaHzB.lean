/-
  The abstract evaluator: calls, regions, code. Plain Lean.
  Conditions: none (definitions).
-/
import Derived.Test.YtpidaficnfaedaaHzA
namespace Go.Proofs.Hz

mutual
def AV.beq : AV → AV → Bool
  | .bool a, .bool b => a == b
  | .int k a, .int j b => decide (k = j) && decide (a = b)
  | .str a, .str b => a == b
  | .nilp, .nilp => true
  | .ptr a b, .ptr c d => a == c && b == d
  | .ip a b, .ip c d => beqL a c && b == d
  | .sl a b c d e, .sl a' b' c' d' e' => a == a' && b == b' && c == c' && d == d' && e == e'
  | .im a b, .im c d => beqLL a c && b == d
  | .fn a b c, .fn a' b' c' => a == a' && beqL b b' && beqL c c'
  | .yld a, .yld b => a == b
  | .nilf, .nilf => true
  | .mp a, .mp b => a == b
  | .nili, .nili => true
  | .ifv, .ifv => false
  | .agg a, .agg b => beqL a b
  | .tup a, .tup b => beqL a b
  | .var a b, .var c d => a == c && b == d
  | _, _ => false
def beqL : List AV → List AV → Bool
  | [], [] => true
  | a :: as, b :: bs => AV.beq a b && beqL as bs
  | _, _ => false
def beqLL : List (List AV) → List (List AV) → Bool
  | [], [] => true
  | a :: as, b :: bs => beqL a b && beqLL as bs
  | _, _ => false
end

def chunk (sz : Nat) : Nat → List AV → List (List AV)
  | 0, _ => []
  | k + 1, l => l.take sz :: chunk sz k (l.drop sz)

def mapO {α β : Type} (f : α → Option β) : List α → Option (List β)
  | [] => some []
  | a :: as => match f a with
    | none => none
    | some b => match mapO f as with
      | none => none
      | some bs => some (b :: bs)

/-- A value as it is handed to, or back from, a call that works for itself: what lies in blocks of the own heap is told as it is now. -/
def frz (h : T Blk) : Nat → AV → Option AV
  | 0, _ => none
  | n + 1, v => match v with
    | .sl id off k sz c => match h.get id with
      | some (.cells cs _) => match rdAt cs off (k * sz) with
        | some l => match mapO (frz h n) l with
          | some l => some (.im (chunk sz k l) (c == some k))
          | none => none
        | none => none
      | _ => none
    | .agg cs => (mapO (frz h n) cs).map .agg
    | .tup cs => (mapO (frz h n) cs).map .tup
    | .fn f a b => match mapO (frz h n) a, mapO (frz h n) b with
      | some a, some b => some (.fn f a b)
      | _, _ => none
    | .ptr .. => none
    | .mp .. => none
    | .yld .. => none
    | v => some v
def fzL (f : T Blk → AV → Option (T Blk)) : T Blk → List AV → Option (T Blk)
  | h, [] => some h
  | h, x :: xs => match f h x with
    | some h => fzL f h xs
    | none => none
/-- The blocks that a value leads to are written never again. -/
def fzs : Nat → T Blk → AV → Option (T Blk)
  | 0, _, _ => none
  | n + 1, h, v => match v with
    | .sl id _ _ _ _ => match h.get id with
      | some (.cells cs _) => fzL (fzs n) (h.put id (some (.cells cs true))) cs
      | _ => none
    | .agg cs => fzL (fzs n) h cs
    | .tup cs => fzL (fzs n) h cs
    | .fn _ a b => match fzL (fzs n) h a with
      | some h => fzL (fzs n) h b
      | none => none
    | _ => some h
def AV.hasSl : Nat → AV → Bool
  | 0, _ => true
  | n + 1, v => match v with
    | .sl .. => true
    | .agg cs => cs.any (hasSl n)
    | .tup cs => cs.any (hasSl n)
    | .fn _ a b => a.any (hasSl n) || b.any (hasSl n)
    | _ => false
/-- A value that leads to no memory. -/
def AV.flat : AV → Bool
  | .bool _ => true
  | .int .. => true
  | .str _ => true
  | .var fl _ => fl
  | .tup vs => vs.all fun v => match v with
    | .bool _ => true
    | .int .. => true
    | .str _ => true
    | .var fl _ => fl
    | _ => false
  | _ => false

structure AFn where
  nt : Nat
  res : List (Nat × Option (Bool × Nat))
  body : AC
  pure : Bool

def inits : Nat → List AV → T AV → T AV
  | _, [], t => t
  | i, a :: as, t => inits (i + 1) as (t.put i (some a))
def resOneA (s : St) (p : Nat × Option (Bool × Nat)) : Option AV :=
  match p.2 with
  | none => some (s.rg p.1)
  | some (g, n) => match rdH s.h (s.rg p.1) n with
    | some cs => ofCells g cs
    | none => none
def resA (fn : AFn) (s : St) : Option AV :=
  match mapO (resOneA s) fn.res with
  | some [v] => some v
  | some vs => some (.tup vs)
  | none => none

def DEEP : Nat := 24

section
variable (F : Nat → Option AFn) (K : Nat → List AV → Option AV)

/-- A call of a function: by what is known of it, or by its body in the same heap. -/
def callF (ex : AC → St → Option (AE × St)) (f : Nat) (args : List AV) (s : St) : Option (AV × St) :=
  match F f with
  | none => none
  | some fn =>
    if fn.pure then
      match mapO (frz s.h DEEP) args with
      | none => none
      | some as => match K f as with
        | none => none
        | some r => if r.flat || !(args.any (AV.hasSl DEEP)) then some (r, s) else match fzL (fzs DEEP) s.h args with
          | some h => some (r, { s with h := h })
          | none => none
    else match ex fn.body { r := inits 0 args .nil, h := s.h, nx := s.nx } with
      | some (.nrm, s1) => match resA fn s1 with
        | some v => some (v, { r := s.r, h := s1.h, nx := s1.nx })
        | none => none
      | some (.ret, s1) => match resA fn s1 with
        | some v => some (v, { r := s.r, h := s1.h, nx := s1.nx })
        | none => none
      | _ => none

def putAll (t : T AV) : List Nat → List AV → T AV
  | p :: ps, a :: as => putAll (t.put p (some a)) ps as
  | _, _ => t
def AE.jump : AE → Option AE
  | .nrm => none
  | e => some e
/-- A round of a loop over a function. -/
def roundA (ex : AC → St → Option (AE × St)) (id : Nat) (args : List AV) (s : St) : Option (AV × St) :=
  match s.h.get id with
  | some (.loop l) =>
    if l.ps.length = args.length then
      match ex l.asg { r := putAll l.r l.ps args, h := s.h, nx := s.nx } with
      | some (.nrm, s1) => match s1.h.get id with
        | some (.loop l1) => if l1.st = 0 then
            match ex l.body (s1.hp id (.loop { l1 with st := 1 })) with
            | some (e, s2) => match s2.h.get id with
              | some (.loop l2) => some (.bool e.jump.isNone, { r := s.r, h := s2.h.put id (some (.loop { l2 with st := if e.jump.isNone then 0 else 2, pend := e.jump })), nx := s2.nx })
              | _ => none
            | none => none
          else none
        | _ => none
      | _ => none
    else none
  | _ => none

def callV (ex : AC → St → Option (AE × St)) (f : AV) (args : List AV) (s : St) : Option (AV × St) :=
  match f with
  | .fn g first caps => callF F K ex g (first ++ args ++ caps) s
  | .yld id => roundA ex id args s
  | _ => none

def stepA (ex : AC → St → Option (AE × St)) (o : AOp) (s : St) : Option (AV × St) :=
  match o with
  | .call f as => callV F K ex (f.ev s) (as.map (AO.ev s)) s
  | o => opA s o
def wantA (s : St) : Option (Nat × Bool) → Bool
  | none => true
  | some (t, b) => match s.rg t with
    | .bool x => x == b
    | _ => false
def regA (ex : AC → St → Option (AE × St)) : List AOper → St → Option St
  | [], s => some s
  | o :: os, s => if wantA s o.guard then match stepA F K ex o.op s with
      | some (v, s1) => regA ex os (s1.set o.dst v)
      | none => none
    else regA ex os (s.set o.dst (.tup []))

def quietOp : AOp → Bool
  | .mov _ => true | .pick .. => true | .build .. => true | .nilck _ => true | .bin .. => true | .eqa .. => true | .eqn .. => true | .eqb .. => true
  | .un .. => true | .conv .. => true | .mkfn .. => true | .faddr .. => true | .fld .. => true | .iaA .. => true | .iaS .. => true
  | .ixA .. => true | .ixS .. => true | .slS .. => true | .slT .. => true | .extr .. => true | .lenc _ => true | .cap _ => true
  | .mxi .. => true | .mni .. => true | .mvs _ => true
  | _ => false
def readOp : AOp → Bool
  | .load .. => true | .look .. => true | .len .. => true | .b2s _ => true | .slA .. => true
  | _ => false
def newOp : AOp → Bool
  | .alloc _ => true | .box _ => true | .bsl .. => true | .mksl .. => true | .mkmap => true
  | _ => false
def tryA (s : St) (o : AOp) (v : AV) (h : T Blk) : Bool :=
  match opA { s with h := h } o with
  | some (u, _) => AV.beq v u
  | none => false
/-- A writer that minds no block but those that it leads to. -/
def calmOp (F : Nat → Option AFn) : AOp → Bool
  | .call (.c (.fn g [] [])) _ => match F g with
    | some fn => fn.pure
    | none => false
  | .store .. => true
  | .app .. => true
  | .cpy .. => true
  | _ => false
/-- The heaps at which a reader is tried. -/
def ADr.seen (j : ADr) (hist : List (T Blk)) : List (T Blk) := if j.fl then hist.take (j.back + 1) else (hist.drop 1).take j.back
/-- One operation of a drawn region. 'nx0': the number of the region's first block; 'hist': the heaps at the beginnings of the segments, the last one first. -/
def drwStep (ex : AC → St → Option (AE × St)) (nx0 : Nat) (hist : List (T Blk)) (o : ADr) (s : St) : Option (AV × St × List (T Blk)) :=
  if wantA s o.o.guard then
    match o.k with
    | 0 => if quietOp o.o.op then match opA s o.o.op with
        | some (v, _) => some (v, s, hist)
        | none => none
      else match o.o.op with
        | .call f as => match f.ev s with
          | .fn g first caps => match F g with
            | some fn => if fn.pure && !((first ++ as.map (AO.ev s) ++ caps).any (AV.hasSl DEEP)) then
                match mapO (frz s.h DEEP) (first ++ as.map (AO.ev s) ++ caps) with
                | some xs => match K g xs with
                  | some r => some (r, s, hist)
                  | none => none
                | none => none
              else none
            | none => none
          | _ => none
        | _ => none
    | 1 => if newOp o.o.op && (s.h.get (nx0 + o.i)).isNone then match opA { s with nx := nx0 + o.i } o.o.op with
        | some (v, s1) => some (v, { s1 with nx := s.nx }, hist)
        | none => none
      else none
    | 2 => match stepA F K ex o.o.op s with
      | some (v, s1) => some (v, s1, s1.h :: hist)
      | none => none
    | 3 => if calmOp F o.o.op then match stepA F K ex o.o.op s with
        | some (v, s1) => some (v, s1, s1.h :: hist)
        | none => none
      else none
    | _ => if readOp o.o.op then match opA s o.o.op with
        | some (v, _) => if decide (o.back < hist.length) && (o.seen hist).all (tryA s o.o.op v) then some (v, s, hist) else none
        | none => none
      else none
  else some (.tup [], s, if o.k = 2 ∨ o.k = 3 then s.h :: hist else hist)
def drwA (ex : AC → St → Option (AE × St)) (nx0 : Nat) : List ADr → St → List (T Blk) → Option St
  | [], s, _ => some s
  | o :: os, s, hist => match drwStep F K ex nx0 hist o s with
    | some (v, s1, hist) => drwA ex nx0 os (s1.set o.o.dst v) hist
    | none => none

/-- What stands behind a label. -/
def findL : AC → Nat → Option AC
  | .seq a b, l => match findL a l with
    | some r => some (.seq r b)
    | none => findL b l
  | .label j, l => if j = l then some .skip else none
  | _, _ => none

def exA : Nat → AC → St → Option (AE × St)
  | 0, _, _ => none
  | n + 1, c, s => match c with
    | .skip => some (.nrm, s)
    | .label _ => some (.nrm, s)
    | .reg ops => match regA F K (exA n) ops s with
      | some s => some (.nrm, s)
      | none => none
    | .drw m ops => match drwA F K (exA n) s.nx ops { s with nx := s.nx + m } [s.h] with
      | some s => some (.nrm, s)
      | none => none
    | .seq a b => match exA n a s with
      | some (.nrm, s1) => exA n b s1
      | r => r
    | .cond x a b => match x.ev s with
      | .bool t => if t then exA n a s else exA n b s
      | _ => none
    | .block id b => match exA n b s with
      | some (.ext j, s1) => if j = id then some (.nrm, s1) else some (.ext j, s1)
      | r => r
    | .loop b => match exA n b s with
      | some (.nrm, s1) => exA n (.loop b) s1
      | r => r
    | .exit id => some (.ext id, s)
    | .goto l => some (.gto l, s)
    | .ret => some (.ret, s)
    | .scope cur b => match exA n cur s with
      | some (.gto l, s1) => match findL b l with
        | some rest => exA n (.scope rest b) s1
        | none => some (.gto l, s1)
      | r => r
    | .rngf nt f ps asg body =>
      match callV F K (exA n) (f.ev s) [.yld s.nx] (s.new (.loop { st := 0, pend := none, r := s.r, ps := ps, asg := asg, body := body, nt := nt })) with
      | some (_, s1) => match s1.h.get s.nx with
        | some (.loop l) => if l.st = 1 then none else match l.pend with
          | none => some (.nrm, { r := s.r, h := s1.h.put s.nx (some (.loop { l with st := 3 })), nx := s1.nx })
          | some e => some (e, { r := s.r, h := s1.h.put s.nx (some (.loop { l with st := 3 })), nx := s1.nx })
        | _ => none
      | none => none

/-- A call for itself: an empty heap at its begin, and the answer told whole. -/
def pureA (n : Nat) (fn : AFn) (args : List AV) : Option AV :=
  match exA F K n fn.body { r := inits 0 args .nil, h := .nil, nx := 0 } with
  | some (.nrm, s) => match resA fn s with
    | some v => frz s.h DEEP v
    | none => none
  | some (.ret, s) => match resA fn s with
    | some v => frz s.h DEEP v
    | none => none
  | _ => none
end

/-- The whole: calls nested in one another n deep at most. 'X': what is known of functions by other means. -/
def callN (F : Nat → Option AFn) (X : Nat → Option (List AV → Option AV)) : Nat → Nat → List AV → Option AV
  | 0, _, _ => none
  | n + 1, f, args => match X f with
    | some k => k args
    | none => match F f with
      | some fn => pureA F (callN F X n) (n + 1) fn args
      | none => none
end Go.Proofs.Hz
