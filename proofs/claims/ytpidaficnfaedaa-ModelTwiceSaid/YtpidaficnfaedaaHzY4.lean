/-
  Symbolic runs: calls, regions, code; what they stand for.
  Conditions: none (definitions and lemmas).
-/
import Derived.Test.YtpidaficnfaedaaHzY3
namespace Go.Proofs.Hz

def isSet (s : St) (l : List Nat) : Bool := l.all fun t => (s.r.get t).isSome
theorem isSet_spec {s : St} {l : List Nat} (h : isSet s l = true) : SetIn s l := fun t ht => Option.isSome_iff_exists.1 (List.all_eq_true.1 h t ht)

/-- The row that a value tells. -/
def tellX (s : St) (sz : Nat) (v : AV) : Option AV :=
  match v with
  | .var false j => some (.var false j)
  | .im els c => some (.im els c)
  | .sl id off n z _ => if z = sz then match s.h.get id with
      | some (.own j _) => if off = 0 ∧ n = j ∧ BIG ≤ j then some (.var false j) else none
      | some (.cells cs _) => if n < BIG then (rdAt cs off (n * sz)).map fun l => .im (chunk sz n l) true else none
      | _ => none
    else none
  | _ => none
/-- A row laid behind another one, where these are not looked into. -/
def appS (l : List AFact) (s : St) (sz by_ : Nat) (d x : AV) : Option (AV × St) :=
  match tellX s sz x with
  | none => none
  | some xr => match d with
    | .var false j => (lookA l false sz by_ (.var false j) xr).map fun k => (.sl s.nx 0 k sz none, s.new (.own k false))
    | .im els c => (lookA l false sz by_ (.im els c) xr).map fun k => (.sl s.nx 0 k sz none, s.new (.own k false))
    | .sl id off n z c => if z = sz then match c, s.h.get id with
        | none, some (.own j false) => if off = 0 ∧ n = j ∧ BIG ≤ j then
            (lookA l true sz by_ (.var false j) xr).map fun k => (.sl s.nx 0 k sz none, { s with h := (s.h.put id none).put s.nx (some (.own k false)), nx := s.nx + 1 })
          else if off = 0 ∧ n = 0 then
            (lookA l true sz by_ (.im [] true) xr).map fun k => (.sl s.nx 0 k sz none, { s with h := (s.h.put id none).put s.nx (some (.own k false)), nx := s.nx + 1 }) else none
        | none, some (.cells cs false) => if off = 0 ∧ n * sz ≤ cs.length ∧ n < BIG then
            (lookA l true sz by_ (.im (chunk sz n (cs.take (n * sz))) true) xr).map fun k => (.sl s.nx 0 k sz none, { s with h := (s.h.put id none).put s.nx (some (.own k false)), nx := s.nx + 1 }) else none
        | some m, some (.cells cs _) => if m = n ∧ n < BIG then match rdAt cs off (n * sz) with
            | some old => (lookA l false sz by_ (.im (chunk sz n old) true) xr).map fun k => (.sl s.nx 0 k sz none, s.new (.own k false))
            | none => none
          else none
        | _, _ => none
      else none
    | _ => none
/-- Zeros laid behind a row, where their number is not looked into. -/
def appnS (l : List NFact) (s : St) (sz by_ : Nat) (z : List AV) (d n : AV) : Option (AV × St) := (lookN l sz by_ z d n).map fun k => (.sl s.nx 0 k sz none, s.new (.own k false))
def frzS (h : T Blk) : Nat → AV → Option AV
  | 0, _ => none
  | n + 1, v => match v with
    | .sl id off k sz c => match h.get id with
      | some (.cells cs _) => if k < BIG then match rdAt cs off (k * sz) with
          | some l => match mapO (frzS h n) l with
            | some l => some (.im (chunk sz k l) (c == some k))
            | none => none
          | none => none
        else none
      | some (.own j _) => if off = 0 ∧ k = j ∧ BIG ≤ j ∧ j % 1000 = sz ∧ c = none ∧ 0 < n then some (.var false j) else none
      | _ => none
    | .agg cs => (mapO (frzS h n) cs).map .agg
    | .tup cs => (mapO (frzS h n) cs).map .tup
    | .fn f a b => match mapO (frzS h n) a, mapO (frzS h n) b with
      | some a, some b => some (.fn f a b)
      | _, _ => none
    | .ptr .. => none
    | .mp .. => none
    | .yld .. => none
    | v => some v
def fzsS : Nat → T Blk → AV → Option (T Blk)
  | 0, _, _ => none
  | n + 1, h, v => match v with
    | .sl id _ _ _ _ => match h.get id with
      | some (.cells cs _) => fzL (fzsS n) (h.put id (some (.cells cs true))) cs
      | some (.own j _) => if 0 < n ∧ BIG ≤ j then some (h.put id (some (.own j true))) else none
      | _ => none
    | .agg cs => fzL (fzsS n) h cs
    | .tup cs => fzL (fzsS n) h cs
    | .fn _ a b => match fzL (fzsS n) h a with
      | some h => fzL (fzsS n) h b
      | none => none
    | _ => some h

section
variable (Φ : Facts) (F : Nat → Option AFn) (KS : Nat → List AV → Option AV)

def truthS (v : AV) : Option Bool :=
  match v with
  | .bool b => some b
  | .var f i => match lookF Φ.ops (.mov (.c (.var f i))) with
    | some (.bool b) => some b
    | _ => none
  | _ => none
def wantS (s : St) : Option (Nat × Bool) → Option Bool
  | none => some true
  | some (t, b) => match s.r.get t with
    | some (.bool x) => some (x == b)
    | some (.tup _) => some false
    | some (.var f i) => (truthS Φ (.var f i)).map (· == b)
    | _ => none
def opB (s : St) (o : AOp) : Option (AV × St) :=
  match opA s o with
  | some (v, s1) => if o.sm s v then some (v, s1) else none
  | none => none
def opS (s : St) (o : AOp) : Option (AV × St) :=
  match opB s o with
  | some r => some r
  | none => match o with
    | .app sz by_ d x => match appS Φ.apps s sz by_ (d.ev s) (x.ev s) with
      | some r => some r
      | none => match lookF Φ.ops ((AOp.app sz by_ d x).inst s) with
        | some r => some (r, s)
        | none => none
    | .appn sz by_ z d n => appnS Φ.apns s sz by_ z (d.ev s) (n.ev s)
    | .pick t a b => match truthS Φ (t.ev s) with
      | some t => some (if t then a.ev s else b.ev s, s)
      | none => none
    | o => match lookF Φ.ops (o.inst s) with
      | some r => some (r, s)
      | none => none
def callFS (ex : AC → St → Option (AE × St)) (f : Nat) (args : List AV) (s : St) : Option (AV × St) :=
  match F f with
  | none => none
  | some fn =>
    if fn.pure then
      match mapO (frzS s.h DEEP) args with
      | none => none
      | some as => match KS f as with
        | none => none
        | some r => if r.flat || !(args.any (AV.hasSl DEEP)) then some (r, s) else match fzL (fzsS DEEP) s.h args with
          | some h => some (r, { s with h := h })
          | none => none
    else match ex fn.body { r := inits 0 args .nil, h := s.h, nx := s.nx } with
      | some (.nrm, s1) => match resS fn s1 with
        | some v => some (v, { r := s.r, h := s1.h, nx := s1.nx })
        | none => none
      | some (.ret, s1) => match resS fn s1 with
        | some v => some (v, { r := s.r, h := s1.h, nx := s1.nx })
        | none => none
      | _ => none
where
  resS (fn : AFn) (s : St) : Option AV := if isSet s (fn.res.map (·.1)) then resA fn s else none
def stepS (ex : AC → St → Option (AE × St)) (o : AOp) (s : St) : Option (AV × St) :=
  if isSet s o.looks && o.cl then match o with
    | .call f as => match f.ev s with
      | .fn g first caps => callFS F KS ex g (first ++ as.map (AO.ev s) ++ caps) s
      | _ => none
    | o => opS Φ s o
  else none
/-- An element of a row of the run's own that is not looked into: its place, and what lies there, in one. -/
def fuseV (s : St) (sz : Nat) (x i : AO) (g : Bool) : Option AV :=
  match x.ev s with
  | .sl id 0 j z none => if z = sz ∧ BIG ≤ j ∧ j % 1000 = sz then match s.h.get id with
      | some (.own k _) => if k = j then match lookF Φ.ops (.iaS sz (.c (.var false j)) (.c (i.ev s))) with
          | some (.ip cells 0) => if cells.length = sz then ofCells g cells else none
          | _ => none
        else none
      | _ => none
    else none
  | _ => none
def notG (d : Nat) : Option (Nat × Bool) → Bool
  | some (t, _) => !(t == d)
  | none => true
def fuse (s : St) (o o2 : AOper) : Option St :=
  match o.op, o.dst, o2.op with
  | .iaS sz x i, some d, .load g n (.t d') =>
    if d' = d ∧ n = sz ∧ (isSet s (AOp.iaS sz x i).looks && (AOp.iaS sz x i).cl) = true ∧ notG d o2.guard = true then
      match wantS Φ s o.guard, wantS Φ s o2.guard with
      | some true, some true => match fuseV Φ s sz x i g with
        | some v => some (St.set { s with r := s.r.put d none } o2.dst v)
        | none => none
      | _, _ => none
    else none
  | _, _, _ => none
def oneS (ex : AC → St → Option (AE × St)) (o : AOper) (s : St) : Option St :=
  match wantS Φ s o.guard with
  | some true => match stepS Φ F KS ex o.op s with
    | some (v, s1) => some (s1.set o.dst v)
    | none => none
  | some false => some (s.set o.dst (.tup []))
  | none => none
def regS (ex : AC → St → Option (AE × St)) : List AOper → St → Option St
  | [], s => some s
  | [o], s => oneS Φ F KS ex o s
  | o :: o2 :: os, s => match fuse Φ s o o2 with
    | some s1 => regS ex os s1
    | none => match oneS Φ F KS ex o s with
      | some s1 => regS ex (o2 :: os) s1
      | none => none
def tryS (s : St) (o : AOp) (v : AV) (h : T Blk) : Bool :=
  match opS Φ { s with h := h } o with
  | some (u, _) => AV.beq v u
  | none => false
def drwStepS (ex : AC → St → Option (AE × St)) (nx0 : Nat) (hist : List (T Blk)) (o : ADr) (s : St) : Option (AV × St × List (T Blk)) :=
  match wantS Φ s o.o.guard with
  | some true => if isSet s o.o.op.looks && o.o.op.cl then
      match o.k with
      | 0 => if quietOp o.o.op then match opS Φ s o.o.op with
          | some (v, _) => some (v, s, hist)
          | none => none
        else match o.o.op with
          | .call f as => match f.ev s with
            | .fn g first caps => match F g with
              | some fn => if fn.pure && !((first ++ as.map (AO.ev s) ++ caps).any (AV.hasSl DEEP)) then
                  match mapO (frzS s.h DEEP) (first ++ as.map (AO.ev s) ++ caps) with
                  | some xs => match KS g xs with
                    | some r => some (r, s, hist)
                    | none => none
                  | none => none
                else none
              | none => none
            | _ => none
          | _ => none
      | 1 => if newOp o.o.op && (s.h.get (nx0 + o.i)).isNone then match opB { s with nx := nx0 + o.i } o.o.op with
          | some (v, s1) => some (v, { s1 with nx := s.nx }, hist)
          | none => none
        else none
      | 2 => match stepS Φ F KS ex o.o.op s with
        | some (v, s1) => some (v, s1, s1.h :: hist)
        | none => none
      | 3 => if calmOp F o.o.op then match stepS Φ F KS ex o.o.op s with
          | some (v, s1) => some (v, s1, s1.h :: hist)
          | none => none
        else none
      | _ => if readOp o.o.op then match opS Φ s o.o.op with
          | some (v, _) => if decide (o.back < hist.length) && (o.seen hist).all (tryS Φ s o.o.op v) then some (v, s, hist) else none
          | none => none
        else none
    else none
  | some false => some (.tup [], s, if o.k = 2 ∨ o.k = 3 then s.h :: hist else hist)
  | none => none
def fuseD (s : St) (hist : List (T Blk)) (o o2 : ADr) : Option St :=
  if o.k = 0 ∧ o2.k = 4 ∧ o2.back = 0 ∧ o2.fl = false ∧ 0 < hist.length then fuse Φ s o.o o2.o else none
def drwS (ex : AC → St → Option (AE × St)) (nx0 : Nat) : List ADr → St → List (T Blk) → Option St
  | [], s, _ => some s
  | [o], s, hist => match drwStepS Φ F KS ex nx0 hist o s with
    | some (v, s1, _) => some (s1.set o.o.dst v)
    | none => none
  | o :: o2 :: os, s, hist => match fuseD Φ s hist o o2 with
    | some s1 => drwS ex nx0 os s1 hist
    | none => match drwStepS Φ F KS ex nx0 hist o s with
      | some (v, s1, hist) => drwS ex nx0 (o2 :: os) (s1.set o.o.dst v) hist
      | none => none
def exS : Nat → AC → St → Option (AE × St)
  | 0, _, _ => none
  | n + 1, c, s => match c with
    | .skip => some (.nrm, s)
    | .reg ops => match regS Φ F KS (exS n) ops s with
      | some s => some (.nrm, s)
      | none => none
    | .drw m ops => match drwS Φ F KS (exS n) s.nx ops { s with nx := s.nx + m } [s.h] with
      | some s => some (.nrm, s)
      | none => none
    | .seq a b => match exS n a s with
      | some (.nrm, s1) => exS n b s1
      | r => r
    | .cond x a b => if isSet s x.tm && x.cl then match truthS Φ (x.ev s) with
        | some t => if t then exS n a s else exS n b s
        | none => none
      else none
    | .block id b => match exS n b s with
      | some (.ext j, s1) => if j = id then some (.nrm, s1) else some (.ext j, s1)
      | r => r
    | .loop b => match exS n b s with
      | some (.nrm, s1) => exS n (.loop b) s1
      | r => r
    | .exit id => some (.ext id, s)
    | .ret => some (.ret, s)
    | _ => none
def pureS (n : Nat) (fn : AFn) (args : List AV) : Option AV :=
  match exS Φ F KS n fn.body { r := inits 0 args .nil, h := .nil, nx := 0 } with
  | some (.nrm, s) => match callFS.resS fn s with
    | some v => frzS s.h DEEP v
    | none => none
  | some (.ret, s) => match callFS.resS fn s with
    | some v => frzS s.h DEEP v
    | none => none
  | _ => none
end
/-- A call, symbolically: what is told of it, or its body. -/
def callS (Φ : Facts) (F : Nat → Option AFn) : Nat → Nat → List AV → Option AV
  | 0, f, args => lookC Φ.calls f args
  | n + 1, f, args => match lookC Φ.calls f args with
    | some r => some r
    | none => match F f with
      | some fn => pureS Φ F (callS Φ F n) (n + 1) fn args
      | none => none
end Go.Proofs.Hz
