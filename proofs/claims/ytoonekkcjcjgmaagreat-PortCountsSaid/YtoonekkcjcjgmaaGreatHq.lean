/-
  One operation of a region, calls and all: what the abstract evaluator says of it the machine does.
  Conditions: none (lemmas over any program).
-/
import Derived.Test.YtoonekkcjcjgmaaGreatHe
import Derived.Test.YtoonekkcjcjgmaaGreatHo
import Derived.Test.YtoonekkcjcjgmaaGreatHm
import Derived.CallsIn
import Derived.OrdersIn
import Derived.RangeFuncRecord
namespace Go.Proofs.Hz

def edgeM (acc : List Nat) : List Edge → Nat
  | [] => 0
  | e :: es => if Region.binds .any e then edgeM acc es ||| (2 ^ e.on ||| acc.getD e.on 0) else edgeM acc es
def masks : List Oper → List Nat → List Nat
  | [], acc => acc
  | o :: os, acc => masks os (acc ++ [edgeM acc o.after.toList])
/-- Is operation i ahead of operation j? -/
def ancB (ms : List Nat) (i j : Nat) : Bool := (ms.getD j 0).testBit i

/-- What is known of a function when it is called by its number: 0: nothing; 1: it works for itself, and it is handed slices; 2: for itself, no slices. -/
def kindA (pu : Nat → Nat) : AOp → Nat
  | .call f _ => match f with
    | .c (.fn g [] []) => if pu g = 2 then 0 else if pu g = 1 then 3 else 2
    | _ => 2
  | .store .. => 3
  | .app .. => 3
  | .cpy .. => 3
  | o => if quietOp o then 0 else if newOp o then 1 else if readOp o then 4 else 2
def lenQuiet : AOp → Bool
  | .len 0 _ => true
  | .len 1 _ => true
  | _ => false

/-- The order that is worked in: each writer as early as it may come. -/
def orderL (ms : List Nat) : List (Nat × Nat) → List (Nat × Nat) → List (Nat × Nat)
  | [], rem => rem
  | q :: ws, rem => rem.filter (fun p => ancB ms p.1 q.1) ++ q :: orderL ms ws (rem.filter fun p => !ancB ms p.1 q.1 && p.1 != q.1)
def fillL (ms : List Nat) : List (Nat × Nat) → List (Nat × Nat) → List (Nat × Nat × Nat × Bool)
  | _, [] => []
  | pre, p :: l => (p.1, p.2, (if p.2 = 4 then pre.countP (fun q => isW q.2 && !ancB ms q.1 p.1) else 0), (if p.2 = 4 then pre.any (fun q => q.2 == 1 && !ancB ms q.1 p.1) else false)) :: fillL ms (p :: pre) l
def idxL : Nat → List Nat → List (Nat × Nat)
  | _, [] => []
  | i, k :: ks => (i, k) :: idxL (i + 1) ks
def planL (ms : List Nat) (ks : List Nat) : List (Nat × Nat × Nat × Bool) :=
  let l := idxL 0 ks
  fillL ms [] (orderL ms (l.filter fun p => isW p.2) l)

def okPairs (ms : List Nat) : List ADr → Bool
  | [] => true
  | x :: l => l.all (fun y => ancB ms x.i y.i || (apartT x.o y.o && okKinds x y)) && okPairs ms l
def okBack (ms : List Nat) : List ADr → List ADr → Bool
  | _, [] => true
  | pre, y :: l => (decide (y.k < 4) || decide (pre.countP (fun x => isW x.k && !ancB ms x.i y.i) ≤ y.back)) && okBack ms (y :: pre) l
def okOnce : List ADr → Bool
  | [] => true
  | x :: l => l.all (fun y => y.i != x.i) && okOnce l
def okEdges : Nat → List Oper → Bool
  | _, [] => true
  | i, o :: os => o.after.toList.all (fun e => !Region.binds .any e || decide (e.on < i)) && okEdges (i + 1) os
def okDrw (ops : Array Oper) (l : List ADr) : Bool :=
  let ms := masks ops.toList []
  okPairs ms l && (okBack ms [] l && (okOnce l && (okEdges 0 ops.toList && (decide (l.length ≤ ops.size) && (List.range ops.size).all fun i => l.any fun y => y.i == i))))

section
variable [Gl]
def mkDr (P : Program) (nt : Nat) (ops : Array Oper) (p : Nat × Nat × Nat × Bool) : Option ADr :=
  match ops[p.1]? with
  | some o => (compOper P nt ops o).map fun a => { o := a, i := p.1, k := p.2.1, back := p.2.2.1, fl := p.2.2.2 }
  | none => none
def compDrw (P : Program) (pu : Nat → Nat) (nt : Nat) (ops : Array Oper) : Option AC :=
  match mapO (fun o => compOpX P o.op) ops.toList with
  | none => none
  | some as =>
    match mapO (mkDr P nt ops) (planL (masks ops.toList []) (as.map (kindA pu))) with
    | none => none
    | some l => if (P.follows .mixedOrders || !Region.departs ops) && okDrw ops l then some (.drw ops.size l) else none
def compC (P : Program) (pu : Nat → Nat) (nt : Nat) : Code → Option AC
  | .skip => some .skip
  | .region _ ops draw => if draw then compDrw P pu nt ops else (mapO (compOper P nt ops) ops.toList).map .reg
  | .seq a b => match compC P pu nt a, compC P pu nt b with
    | some a, some b => some (.seq a b)
    | _, _ => none
  | .cond c a b => match absO c, compC P pu nt a, compC P pu nt b with
    | some c, some a, some b => some (.cond c a b)
    | _, _, _ => none
  | .block id b => (compC P pu nt b).map (.block id)
  | .loop b => (compC P pu nt b).map .loop
  | .exit id => some (.exit id)
  | .ret => some .ret
  | .label l => some (.label l)
  | .goto l => some (.goto l)
  | .scope b => match compC P pu nt b with
    | some b => some (.scope b b)
    | none => none
  | .rangeFunc g ps asg body => match absO g, compC P pu nt asg, compC P pu nt body with
    | some f, some a, some b => if ps.toList.all (fun p => decide (p < nt)) then some (.rngf nt f ps.toList a b) else none
    | _, _, _ => none
  | .refuse _ => some (.reg [⟨none, .fail, none⟩])
def compF (P : Program) (pu : Nat → Nat) (f : Nat) : Option AFn :=
  match P.funcs[f]? with
  | some fn => match fn.body with
    | some c => if fn.name ≠ "runtime.NumGoroutine" then
        match compC P pu fn.ntmps c, mapO (fun r => compRes r P) fn.results.toList with
        | some b, some rs => some { nt := fn.ntmps, res := rs, body := b, pure := pu f != 0 }
        | _, _ => none
      else none
    | none => none
  | none => none
end
end Go.Proofs.Hz
namespace Go.Proofs.Hz
open Go.RowKit

/-- A fence that lets everything in. -/
def FW (rd : Option Nat) : Fence := { fn := fun _ => True, depth := none, alive := false, round := rd }
theorem FW_fn (rd : Option Nat) (f : FuncId) : (FW rd).fn f := trivial
theorem FW_room (rd : Option Nat) (n : Nat) : (FW rd).room n := fun _ h => by simp [FW] at h
theorem FW_calls {rd rd' : Option Nat} {n : Nat} {P : Program} {f : FuncId} {args : Array Value} {w : World} {Q : Ending → World → Prop} (h : CallsIn (FW rd) n P f args w Q) : CallsIn (FW rd') n P f args w Q := h

/-- The code of a loop over a function is what it is compiled to. -/
abbrev C0 [Gl] (P : Program) (pu : Nat → Nat) : CodeRel := ⟨fun nt c ac => compC P pu nt c = some ac⟩

/-- What lies behind a step: value, world, names. -/
structure Post [Gl] (P : Program) (pu : Nat → Nat) (D : Nat → Prop) (ρ : Ren) (w : World) (V : Ids) (s s' : St) (v : AV) (val : Value) (w' : World) (D' : Nat → Prop) (ρ' : Ren) (V' : Ids) : Prop where
  val : R D' w' V' ρ' v val
  heap : HRel (C0 P pu) D' w' V' ρ' s'.h
  ext : Ext D ρ w V D' ρ' w' V'
  nx : s.nx ≤ s'.nx
  ids : ∀ i, V' i → V i ∨ (s.nx ≤ i ∧ i < s'.nx)
  db : ∀ b, D' b → b < w'.heap.size

def CallPost [Gl] (P : Program) (pu : Nat → Nat) (D : Nat → Prop) (ρ : Ren) (w : World) (V : Ids) (s s' : St) (v : AV) (e : Ending) (w' : World) : Prop :=
  ∃ val D' ρ' V', e = .returned val ∧ Post P pu D ρ w V s s' v val w' D' ρ' V'

def IsFn (P : Program) (g : Nat) : Prop := ∃ fn c, P.funcs[g]? = some fn ∧ fn.body = some c ∧ fn.name ≠ "runtime.NumGoroutine"

/-- What calls come to the machine's calls come to. -/
def CallOk [Gl] (P : Program) (pu : Nat → Nat) (cf : Nat → List AV → St → Option (AV × St)) : Prop :=
  ∀ {D : Nat → Prop} {ρ : Ren} {w : World} {V : Ids} {s s' : St} {g : Nat} {args : List AV} {vals : List Value} {v : AV}, HRel (C0 P pu) D w V ρ s.h → (∀ b, D b → b < w.heap.size) → GOk D w → (∀ i, V i → i < s.nx) →
    RL D w V ρ args vals → cf g args s = some (v, s') → IsFn P g ∧ ∀ n, CallsIn (FW none) n P g vals.toArray w (CallPost P pu D ρ w V s s' v)

/-- What a loop over a function leaves among the deferred calls: a mark. -/
def mark1 (r : Nat) : Deferred := { target := .collected r, args := #[] }
/-- Marks alone, each of a block of its own, which nobody else knows. -/
def MarkL (D : Nat → Prop) (w : World) (n0 : Nat) (ds : List Deferred) : Prop :=
  ∃ rs : List Nat, ds = rs.map mark1 ∧ rs.Pairwise (· > ·) ∧ ∀ r ∈ rs, n0 ≤ r ∧ ¬ D r ∧ w.heap[r]? = some (.deferred (some []))
theorem MarkL.nil {D : Nat → Prop} {w : World} {n0 : Nat} : MarkL D w n0 [] := ⟨[], rfl, .nil, fun r hr => by cases hr⟩
theorem MarkL.ext {C : CodeRel} {D D' : Nat → Prop} {ρ ρ' : Ren} {w w' : World} {V V' : Ids} {h : T Blk} {n0 : Nat} {ds : List Deferred} (H : HRel C D w V ρ h) (e : Ext D ρ w V D' ρ' w' V') (m : MarkL D w n0 ds) : MarkL D' w' n0 ds := by
  obtain ⟨rs, h1, h2, h3⟩ := m
  refine ⟨rs, h1, h2, fun r hr => ?_⟩
  obtain ⟨k1, k2, k3⟩ := h3 r hr
  have hlt := (Array.getElem?_eq_some_iff.1 k3).1
  have hno : ∀ id, ρ id ≠ some r := fun id hid => by
    obtain ⟨k, hk⟩ := H.dom id r hid
    obtain ⟨b, hb, hB⟩ := H.bk id k hk
    rw [hid] at hb; cases hb
    cases k with
    | cells cs fz ty => obtain ⟨_, _, real, mk, q, _⟩ := hB; rw [k3] at q; cases q
    | map es => obtain ⟨_, ents, clock, q, _⟩ := hB; rw [k3] at q; cases q
    | loop l => obtain ⟨_, r', q, _⟩ := hB; rw [k3] at q; cases q
    | own => exact hB.elim
  refine ⟨k1, fun hd => ?_, (e.frame r hlt (.inr hno)).trans k3⟩
  rcases e.dnew r hd with h | ⟨i, hi⟩ | h
  · exact k2 h
  · exact hno i hi
  · omega

/-- How a run goes on, state and all. -/
structure Mv [Gl] (P : Program) (pu : Nat → Nat) (nt : Nat) (D : Nat → Prop) (ρ : Ren) (w : World) (V : Ids) (s : St) (a : Act) (D' : Nat → Prop) (ρ' : Ren) (w' : World) (V' : Ids) (s' : St) (a' : Act) : Prop where
  rel : SRel (C0 P pu) D' w' V' ρ' nt s' a'
  ext : Ext D ρ w V D' ρ' w' V'
  nx : s.nx ≤ s'.nx
  ids : ∀ i, V' i → V i ∨ s.nx ≤ i
  defers : ∀ n0, n0 ≤ w.heap.size → MarkL D w n0 a.defers → MarkL D' w' n0 a'.defers

def AE.toExit : AE → Exit
  | .nrm => .normal
  | .ext i => .exit i
  | .gto l => .goto l
  | .ret => .ret
/-- The round at work has its record. -/
def RdOk (w : World) (rd : Option Nat) : Prop := ∀ l, rd = some l → ∃ r : Loop, w.heap[l]? = some (.loop r)
theorem RdOk.ext {D D' : Nat → Prop} {ρ ρ' : Ren} {w w' : World} {V V' : Ids} {rd : Option Nat} (e : Ext D ρ w V D' ρ' w' V') (h : RdOk w rd) : RdOk w' rd := fun l hl => by
  obtain ⟨r, hr⟩ := h l hl
  obtain ⟨r', h1, _⟩ := e.loops l r hr
  exact ⟨r', h1⟩
/-- What code comes to by the evaluator the machine comes to. -/
def ExOk [Gl] (P : Program) (pu : Nat → Nat) (ex : AC → St → Option (AE × St)) : Prop :=
  ∀ {nt : Nat} {code : Code} {ac : AC}, compC P pu nt code = some ac → ∀ {rd : Option Nat} {m : Nat} {D : Nat → Prop} {ρ : Ren} {w : World} {V : Ids} {s s1 : St} {a : Act} {e : AE} {Q : Exit → Act → World → Prop},
    SRel (C0 P pu) D w V ρ nt s a → RdOk w rd → ex ac s = some (e, s1) → (∀ D' ρ' w' V' a', Mv P pu nt D ρ w V s a D' ρ' w' V' s1 a' → Q e.toExit a' w') → code.wpIn (FW rd) m P Q a w

theorem compBuiltin_call {P : Program} {b : Builtin} {ts : Array TypeId} {args : List AO} {f : AO} {as : List AO} (h : compBuiltin P b ts args = some (.call f as)) : False := by
  unfold compBuiltin at h
  (repeat' split at h) <;> first | (cases h; done) | skip
  · unfold compApp at h
    (repeat' split at h) <;> cases h
  · rename_i e _
    cases hs : szO P e <;> simp [hs] at h
  · unfold compLen at h
    (repeat' split at h) <;> cases h

theorem compOpX_call {G : Gl} {P : Program} {op : Op} {f : AO} {as : List AO} (h : compOpX P op = some (.call f as)) : ∃ c fo, op = .call c ∧ c.callee = .value fo ∧ absO fo = some f ∧ mapO absO c.args.toList = some as := by
  unfold compOpX at h
  split at h
  · rename_i f' as' hc
    split at h
    · rename_i c
      split at h
      · rename_i fo hcal
        cases h
        simp only [compOp, hcal] at hc
        split at hc
        · rename_i as'' has
          have other : (absO fo).map (fun f => AOp.call f as'') = some (.call f as) → ∃ c_1 fo_1, Op.call c = Op.call c_1 ∧ c_1.callee = Callee.value fo_1 ∧ absO fo_1 = some f ∧ mapO absO c_1.args.toList = some as := fun hc => by
            cases hf : absO fo with
            | none => simp [hf] at hc
            | some y => simp [hf] at hc; obtain ⟨rfl, rfl⟩ := hc; exact ⟨c, fo, rfl, hcal, hf, has⟩
          cases fo with
          | func g =>
            simp only at hc
            split at hc
            · exact other hc
            · unfold extO at hc
              (repeat' split at hc) <;> cases hc
          | tmp t => exact other hc
          | const v => exact other hc
          | global g => exact other hc
        · cases hc
      · cases h
    · cases h
  · cases h
  · rename_i hne _
    exact absurd h (hne _ _)
theorem compOpX_of {G : Gl} {P : Program} {op : Op} {ao : AOp} (h : compOpX P op = some ao) (hf : ao ≠ .fail) : compOp P op = some ao := by
  unfold compOpX at h
  split at h
  · rename_i f as hc
    (repeat' split at h) <;> first | (cases h; done) | (cases h; exact hc)
  · cases h; exact absurd rfl hf
  · exact h
theorem compOpX_defer {G : Gl} {P : Program} {op : Op} {ao : AOp} (h : compOpX P op = some ao) (hf : ao ≠ .fail) (c : Call) : op ≠ .defer c := fun e => by
  subst e; cases (compOpX_of h hf)
theorem compOpX_select {G : Gl} {P : Program} {op : Op} {ao : AOp} (h : compOpX P op = some ao) (hf : ao ≠ .fail) (cs : Array SelectCase) (b : Bool) : op ≠ .select cs b := fun e => by
  subst e; cases (compOpX_of h hf)

section
variable {G : Gl} {P : Program} {pu : Nat → Nat} {D D' : Nat → Prop} {ρ ρ' : Ren} {w w' : World} {V V' : Ids} {s s' : St} {a : Act} {rd : Option Nat} {n : Nat} {K : Act → World → Prop} {Q : Exit → Act → World → Prop}

/-- An operation that calls nobody. -/
theorem op_step (H : HRel (C0 P pu) D w V ρ s.h) (db : ∀ b, D b → b < w.heap.size) (hr : Regs D w V ρ s a) (hf : ¬ V s.nx) {o : Oper} {ao : AOp} (hc : compOpX P o.op = some ao) {v : AV} (he : opA s ao = some (v, s'))
    (hK : ∀ val w' D' ρ' V', Post P pu D ρ w V s s' v val w' D' ρ' V' → s'.r = s.r → K (a.put o.dst val) w') : o.wpIn (FW rd) n P a w K Q := by
  have hnf : ao ≠ .fail := fun e => by subst e; cases he
  obtain ⟨val, w', D', ρ', V', hres, h2, h3, h4, h5, h6, h7, h8⟩ := op_ok H db hr hf (compOpX_of hc hnf) he
  refine ⟨fun f _ => trivial, ?_⟩
  rw [Oper.semAt_eq _ _ _ (compOpX_defer hc hnf)]
  have hp := hK val w' D' ρ' V' ⟨h2, h3, h4, h6, h7, h8⟩ h5
  rcases hres with hres | ⟨hres, rfl⟩
  · rw [hres]; exact hp
  · rw [hres]; exact hp

theorem callV_r {F : Nat → Option AFn} {KK : Nat → List AV → Option AV} {ex : AC → St → Option (AE × St)} {f : AV} {as : List AV} {v : AV} (he : callV F KK ex f as s = some (v, s')) : s'.r = s.r := by
  have hx : stepA F KK ex (.call (.c f) (as.map .c)) s = some (v, s') := by
    have : (as.map AO.c).map (AO.ev s) = as := by
      rw [List.map_map]; exact (List.map_congr_left fun _ _ => rfl).trans (List.map_id _)
    simp only [stepA, AO.ev, this]; exact he
  have h2 := stepA_same (F := F) (K := KK) (ex := ex) (s := s) (r := s.r) (o := .call (.c f) (as.map .c)) (fun _ _ => rfl)
  have e : ({ s with r := s.r } : St) = s := rfl
  rw [e, hx] at h2
  simp only [Option.map_some, withR, Option.some.injEq, Prod.mk.injEq, true_and] at h2
  rw [h2]

theorem regs_putAll : ∀ (ps : List Nat) (xs : List AV) (vs : List Value) (r : T AV) (tmps : Array Value), ps.length = xs.length → (∀ p ∈ ps, p < tmps.size) → RL D w V ρ xs vs → (∀ t, R D w V ρ ((r.get t).getD (.tup [])) (tmps.getD t undef)) →
    ∀ t, R D w V ρ (((putAll r ps xs).get t).getD (.tup [])) (((ps.zip vs).foldl (fun tm p => tm.setIfInBounds p.1 p.2) tmps).getD t undef)
  | [], xs, vs, r, tmps, hl, hlt, hR, hr => by
    cases xs with
    | nil => exact hr
    | cons x xs => cases hl
  | p :: ps, xs, vs, r, tmps, hl, hlt, hR, hr => by
    cases xs with
    | nil => cases hl
    | cons x xs =>
      obtain ⟨v, us, rfl, h1, h2⟩ := hR.inv_cons
      simp only [putAll, List.zip_cons_cons, List.foldl_cons]
      refine regs_putAll ps xs us _ _ (by simpa using hl) (fun q hq => by simpa using hlt q (List.mem_cons_of_mem _ hq)) h2 fun t => ?_
      rw [T.get_put]
      by_cases e : p = t
      · subst e
        rw [if_pos rfl]
        have hlt := hlt p List.mem_cons_self
        simpa [hlt] using h1
      · rw [if_neg e]
        have : (tmps.setIfInBounds p v).getD t undef = tmps.getD t undef := by
          simp [Array.getElem?_setIfInBounds_ne e]
        rw [this]; exact hr t

theorem fold_size : ∀ (l : List (Nat × Value)) (tm : Array Value), (l.foldl (fun tm p => tm.setIfInBounds p.1 p.2) tm).size = tm.size
  | [], _ => rfl
  | p :: l, tm => by rw [List.foldl_cons, fold_size l]; simp
theorem round_ok {ex : AC → St → Option (AE × St)} (hX : ExOk P pu ex) (H : HRel (C0 P pu) D w V ρ s.h) (db : ∀ b, D b → b < w.heap.size)
    (hr : Regs D w V ρ s a) (top : ∀ i, V i → i < s.nx) {o : Oper} {f : AO} {as : List AO} (hc : compOpX P o.op = some (.call f as)) {c : Call} {fo : Operand} (hcal : c.callee = .value fo) (ho : o.op = .call c) {id : Nat} (hf : R D w V ρ (.yld id) (a.eval fo)) (has : mapO absO c.args.toList = some as)
    {l l1 l2 : ALoop} {s1 s2 : St} {e : AE} (hl : s.h.get id = some (.loop l)) (hps : l.ps.length = (as.map (AO.ev s)).length) (he1 : ex l.asg { r := putAll l.r l.ps (as.map (AO.ev s)), h := s.h, nx := s.nx } = some (.nrm, s1)) (hl1 : s1.h.get id = some (.loop l1)) (hst : l1.st = 0)
    (he2 : ex l.body (s1.hp id (.loop { l1 with st := 1 })) = some (e, s2)) (hl2 : s2.h.get id = some (.loop l2))
    (hK : ∀ val w' D' ρ' V', Post P pu D ρ w V s { r := s.r, h := s2.h.put id (some (.loop { l2 with st := if e.jump.isNone then 0 else 2, pend := e.jump })), nx := s2.nx } (.bool e.jump.isNone) val w' D' ρ' V' → K (a.put o.dst val) w') : o.wpIn (FW rd) n P a w K Q := by
  generalize hfv : a.eval fo = fv at hf
  cases hf with
  | yld hid hlb =>
    rename_i lb
    obtain ⟨b, hb, hB⟩ := H.bk id _ hl
    have := hlb b hb; subst this
    obtain ⟨hnD, r, hr0, hL⟩ := hB
    have hargs := evs_ok hr has
    have hsz : (c.args.map a.eval).size = r.params.size := by
      have h1 := hargs.1
      have h2 := congrArg List.length hL.ps
      simp at h1 h2 hps
      simp; omega
    have hrun : (execOp a.eval o).run P w = .ok (.round lb r.fn ((r.params.zip (c.args.map a.eval)).foldl (fun tmps (t, a) => tmps.setIfInBounds t a) r.tmps) r.assign r.body) w := by
      have hy := run_yield (P := P) hr0 hsz
      simp [execOp, ho, resolve, hcal, hfv, Deferred.ofValue, invoke, hy]
    have hfold : (r.params.zip (c.args.map a.eval)).foldl (fun tmps (x : Tmp × Value) => tmps.setIfInBounds x.1 x.2) r.tmps = (l.ps.zip (c.args.toList.map a.eval)).foldl (fun tm p => tm.setIfInBounds p.1 p.2) r.tmps := by
      rw [← Array.foldl_toList, Array.toList_zip, hL.ps, Array.toList_map]
    refine ⟨fun f _ => trivial, ?_⟩
    rw [Oper.semAt_eq _ _ _ (compOpX_defer hc (by simp)), hrun, Oper.uponIn_round]
    refine ⟨fun h => by simp [FW] at h, ?_⟩
    have S0 : SRel (C0 P pu) D w V ρ l.nt { r := putAll l.r l.ps (as.map (AO.ev s)), h := s.h, nx := s.nx } { tmps := (r.params.zip (c.args.map a.eval)).foldl (fun tmps (x : Tmp × Value) => tmps.setIfInBounds x.1 x.2) r.tmps, defers := [] } := by
      refine ⟨?_, ⟨?_, hr.gl⟩, H, top, db⟩
      · rw [hfold]
        show l.nt ≤ Array.size _
        rw [fold_size]
        exact hL.size
      · rw [hfold]
        exact regs_putAll l.ps _ _ l.r r.tmps hps (fun p hp => Nat.lt_of_lt_of_le (hL.lt p hp) hL.size) hargs hL.tmps
    refine roundIn_of_wpIn (F := FW rd) trivial ?_
    refine hX hL.asg (rd := some lb) S0 (fun q hq => by cases hq; exact ⟨r, hr0⟩) he1 fun D1 ρ1 w1 V1 a1 m1 => ?_
    obtain ⟨b1, hb1, hB1⟩ := m1.rel.heap.bk id _ hl1
    have e1 := m1.ext.ren id b1 hid hb1
    rw [hb] at e1; cases e1
    obtain ⟨hnD1, r1, hr1, hL1⟩ := hB1
    have hst1 : r1.state = .ready := by
      have := hL1.st
      rw [hst] at this
      split at this <;> first | rfl | cases this
      assumption
    have hnc : ∀ r : Loop, ∀ c t f, Obj.loop r ≠ .cells c t f := fun _ _ _ _ h => by cases h
    obtain ⟨H2, x2⟩ := setB_ok m1.rel.heap m1.rel.db hb1 hnD1 hr1 (hnc r1) (.loop { r1 with state := .busy }) (fun r' h => by cases h; exact ⟨_, rfl, rfl⟩) (.loop { l1 with st := 1 }) (fun x2 => ⟨hnD1, _, setB_same (Array.getElem?_eq_some_iff.1 hr1).1 _, ⟨rfl, hL1.pend, hL1.size, fun t => (hL1.tmps t).ext x2 m1.rel.db, hL1.ps, hL1.lt, hL1.asg, hL1.body⟩⟩)
    have S1 : SRel (C0 P pu) D1 (setB w1 lb (.loop { r1 with state := .busy })) V1 ρ1 l.nt (s1.hp id (.loop { l1 with st := 1 })) a1 :=
      ⟨m1.rel.size, ⟨fun t => (m1.rel.regs.regs t).ext x2 m1.rel.db, m1.rel.regs.gl.ext x2 m1.rel.db⟩, H2, m1.rel.top, fun c hc => Nat.lt_of_lt_of_le (m1.rel.db c hc) x2.size⟩
    refine ⟨_, run_beginRound hr1 hst1, ?_⟩
    refine hX hL.body (rd := some lb) S1 (fun q hq => by cases hq; exact ⟨_, setB_same (Array.getElem?_eq_some_iff.1 hr1).1 _⟩) he2 fun D2 ρ2 w2 V2 a2 m2 => ?_
    obtain ⟨b2, hb2, hB2⟩ := m2.rel.heap.bk id _ hl2
    have e2 := m2.ext.ren id b2 (m1.ext.ids id hid) hb2
    rw [hb1] at e2; cases e2
    obtain ⟨hnD2, r2, hr2, hL2⟩ := hB2
    have fin : ∀ (jump : Option Code), jump.isNone = e.jump.isNone → (match jump, e.jump with
        | none, none => True
        | some (.exit i), some (.ext j) => i = j
        | some (.goto i), some (.gto j) => i = j
        | some .ret, some .ret => True
        | _, _ => False) → ∃ v w', (Instr.endRound lb jump).run P w2 = .ok v w' ∧ K (a.put o.dst v) w' := fun jump hj hp => by
      refine ⟨_, _, run_endRound jump hr2, ?_⟩
      obtain ⟨H3, x3⟩ := setB_ok m2.rel.heap m2.rel.db hb2 hnD2 hr2 (hnc r2) (.loop { r2 with state := if jump.isNone then .ready else .done, pending := jump }) (fun r' h => by cases h; exact ⟨_, rfl, rfl⟩) (.loop { l2 with st := if e.jump.isNone then 0 else 2, pend := e.jump }) (fun x3 => ⟨hnD2, _, setB_same (Array.getElem?_eq_some_iff.1 hr2).1 _, ⟨by
        simp only
        rw [hj]
        cases e.jump.isNone <;> rfl, hp, hL2.size, fun t => (hL2.tmps t).ext x3 m2.rel.db, hL2.ps, hL2.lt, hL2.asg, hL2.body⟩⟩)
      refine hK _ _ D2 ρ2 V2 ⟨?_, H3, ((m1.ext.trans x2).trans m2.ext).trans x3, ?_, fun i hi => ?_, fun c hc => Nat.lt_of_lt_of_le (m2.rel.db c hc) x3.size⟩
      · rw [hj]; exact .bool _
      · exact Nat.le_trans m1.nx m2.nx
      · rcases m2.ids i hi with h | h
        · rcases m1.ids i h with h | h
          · exact .inl h
          · exact .inr ⟨h, m2.rel.top i hi⟩
        · exact .inr ⟨Nat.le_trans m1.nx h, m2.rel.top i hi⟩
    cases e with
    | nrm => exact fin none rfl trivial
    | ext i => exact fin (some (.exit i)) rfl rfl
    | gto i => exact fin (some (.goto i)) rfl rfl
    | ret => exact fin (some .ret) rfl trivial

theorem step_ok {F : Nat → Option AFn} {KK : Nat → List AV → Option AV} {ex : AC → St → Option (AE × St)} (hC : CallOk P pu (callF F KK ex)) (hX : ExOk P pu ex) (H : HRel (C0 P pu) D w V ρ s.h) (db : ∀ b, D b → b < w.heap.size)
    (hr : Regs D w V ρ s a) (top : ∀ i, V i → i < s.nx) {o : Oper} {ao : AOp} (hc : compOpX P o.op = some ao) {v : AV} (he : stepA F KK ex ao s = some (v, s'))
    (hK : ∀ val w' D' ρ' V', Post P pu D ρ w V s s' v val w' D' ρ' V' → s'.r = s.r → K (a.put o.dst val) w') : o.wpIn (FW rd) n P a w K Q := by
  have hn : ¬ V s.nx := fun h => Nat.lt_irrefl _ (top _ h)
  unfold stepA at he
  split at he
  · rename_i f as
    obtain ⟨c, fo, ho, hcal, hfo, has⟩ := compOpX_call hc
    have hr' := callV_r he
    have hf := ev_ok hr hfo
    have hargs := evs_ok hr has
    unfold callV at he
    split at he
    · rename_i g first caps hev
      rw [hev] at hf
      generalize hfv : a.eval fo = fv at hf
      cases hf with
      | fn lf lc hfst hcap =>
        rename_i vf vc
        have hl1 : RL D w V ρ first vf.toList := ⟨by simpa using lf, fun j x u hx hu => hfst j x u hx (by simpa using hu)⟩
        have hl2 : RL D w V ρ caps vc.toList := ⟨by simpa using lc, fun j x u hx hu => hcap j x u hx (by simpa using hu)⟩
        obtain ⟨⟨fn, cd, h1, h2, h3⟩, hcall⟩ := hC H db hr.gl top ((hl1.append hargs).append hl2) he
        refine ⟨fun f _ => trivial, ?_⟩
        rw [Oper.semAt_eq _ _ _ (compOpX_defer hc (by simp))]
        have hrun : (execOp a.eval o).run P w = .ok (.enter g (vf ++ c.args.map a.eval ++ vc)) w := by
          have hcf : ∀ as : Array Value, (callFunc g as).run P w = .ok (.enter g as) w := fun as => by simp [callFunc, go_sem, h1, h2, h3]
          simp [execOp, ho, resolve, hcal, hfv, Deferred.ofValue, invoke, hcf]
        rw [hrun, Oper.uponIn_enter]
        refine ⟨fun h => by simp [FW] at h, ?_⟩
        have hargs2 : (vf.toList ++ (c.args.map a.eval).toList ++ vc.toList).toArray = vf ++ c.args.map a.eval ++ vc := by
          apply Array.ext'; simp
        have hq := hcall (n - 1)
        rw [show (vf.toList ++ List.map a.eval c.args.toList ++ vc.toList).toArray = vf ++ c.args.map a.eval ++ vc by apply Array.ext'; simp] at hq
        exact CallsIn.mono (FW_calls hq) fun e w' he => by
          obtain ⟨val, D', ρ', V', rfl, hp⟩ := he
          exact hK val w' D' ρ' V' hp hr'
    · rename_i id hev
      unfold roundA at he
      split at he
      · rename_i l hl
        rw [hev] at hf
        split at he
        · rename_i hps
          split at he
          · rename_i s1 he1
            split at he
            · rename_i l1 hl1
              split at he
              · rename_i hst
                split at he
                · rename_i e s2 he2
                  split at he
                  · rename_i l2 hl2
                    cases he
                    exact round_ok hX H db hr top hc hcal ho hf has hl hps he1 hl1 hst he2 hl2 (fun val w' D' ρ' V' hp => hK val w' D' ρ' V' hp rfl)
                  · cases he
                · cases he
              · cases he
            · cases he
          · cases he
        · cases he
      · cases he
    · cases he
  · exact op_step H db hr hn hc he hK
end
end Go.Proofs.Hz
