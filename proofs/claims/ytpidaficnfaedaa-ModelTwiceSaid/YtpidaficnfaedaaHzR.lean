/-
  One operation of a region, calls and all: what the abstract evaluator says of it the machine does.
  Conditions: none (lemmas over any program).
-/
import Derived.Test.YtpidaficnfaedaaHzM
import Derived.Test.YtpidaficnfaedaaHzQ
import Derived.CallsIn
import Derived.OrdersIn
namespace Go.Proofs.Hz
open Go.RowKit

/-- A fence that lets everything in. -/
def FW (rd : Option Nat) : Fence := { fn := fun _ => True, depth := none, alive := false, round := rd }
theorem FW_fn (rd : Option Nat) (f : FuncId) : (FW rd).fn f := trivial
theorem FW_room (rd : Option Nat) (n : Nat) : (FW rd).room n := fun _ h => by simp [FW] at h
theorem FW_calls {rd rd' : Option Nat} {n : Nat} {P : Program} {f : FuncId} {args : Array Value} {w : World} {Q : Ending → World → Prop} (h : CallsIn (FW rd) n P f args w Q) : CallsIn (FW rd') n P f args w Q := h

/-- No loop over a function is at work. -/
def C0 : CodeRel := ⟨fun _ _ _ => False⟩

/-- What lies behind a step: value, world, names. -/
structure Post (D : Nat → Prop) (ρ : Ren) (w : World) (V : Ids) (s s' : St) (v : AV) (val : Value) (w' : World) (D' : Nat → Prop) (ρ' : Ren) (V' : Ids) : Prop where
  val : R D' w' V' ρ' v val
  heap : HRel C0 D' w' V' ρ' s'.h
  ext : Ext D ρ w V D' ρ' w' V'
  nx : s.nx ≤ s'.nx
  ids : ∀ i, V' i → V i ∨ (s.nx ≤ i ∧ i < s'.nx)
  db : ∀ b, D' b → b < w'.heap.size

def CallPost (D : Nat → Prop) (ρ : Ren) (w : World) (V : Ids) (s s' : St) (v : AV) (e : Ending) (w' : World) : Prop :=
  ∃ val D' ρ' V', e = .returned val ∧ Post D ρ w V s s' v val w' D' ρ' V'

def IsFn (P : Program) (g : Nat) : Prop := ∃ fn c, P.funcs[g]? = some fn ∧ fn.body = some c ∧ fn.name ≠ "runtime.NumGoroutine"

/-- What calls come to the machine's calls come to. -/
def CallOk (P : Program) (cf : Nat → List AV → St → Option (AV × St)) : Prop :=
  ∀ {D : Nat → Prop} {ρ : Ren} {w : World} {V : Ids} {s s' : St} {g : Nat} {args : List AV} {vals : List Value} {v : AV}, HRel C0 D w V ρ s.h → (∀ b, D b → b < w.heap.size) → (∀ i, V i → i < s.nx) →
    RL D w V ρ args vals → cf g args s = some (v, s') → IsFn P g ∧ ∀ n, CallsIn (FW none) n P g vals.toArray w (CallPost D ρ w V s s' v)

theorem compBuiltin_call {P : Program} {b : Builtin} {ts : Array TypeId} {args : List AO} {f : AO} {as : List AO} (h : compBuiltin P b ts args = some (.call f as)) : False := by
  unfold compBuiltin at h
  (repeat' split at h) <;> first | (cases h; done) | skip
  · unfold compApp at h
    (repeat' split at h) <;> cases h
  · rename_i e _
    cases hs : szO P e <;> simp [hs] at h
  · unfold compLen at h
    (repeat' split at h) <;> cases h

theorem compOpX_call {P : Program} {op : Op} {f : AO} {as : List AO} (h : compOpX P op = some (.call f as)) : ∃ c fo, op = .call c ∧ c.callee = .value fo ∧ absO fo = some f ∧ mapO absO c.args.toList = some as := by
  unfold compOpX at h
  split at h
  · rename_i f' as' hc
    split at h
    · rename_i c
      split at h
      · rename_i fo hcal
        cases h
        simp only [compOp, hcal] at hc
        split at hc
        · rename_i as'' has
          cases hf : absO fo with
          | none => simp [hf] at hc
          | some y => simp [hf] at hc; obtain ⟨rfl, rfl⟩ := hc; exact ⟨c, fo, rfl, hcal, hf, has⟩
        · cases hc
      · cases h
    · cases h
  · cases h
  · rename_i hne _
    exact absurd h (hne _ _)
theorem compOpX_of {P : Program} {op : Op} {ao : AOp} (h : compOpX P op = some ao) (hf : ao ≠ .fail) : compOp P op = some ao := by
  unfold compOpX at h
  split at h
  · rename_i f as hc
    (repeat' split at h) <;> first | (cases h; done) | (cases h; exact hc)
  · cases h; exact absurd rfl hf
  · exact h
theorem compOpX_defer {P : Program} {op : Op} {ao : AOp} (h : compOpX P op = some ao) (hf : ao ≠ .fail) (c : Call) : op ≠ .defer c := fun e => by
  subst e; cases (compOpX_of h hf)
theorem compOpX_select {P : Program} {op : Op} {ao : AOp} (h : compOpX P op = some ao) (hf : ao ≠ .fail) (cs : Array SelectCase) (b : Bool) : op ≠ .select cs b := fun e => by
  subst e; cases (compOpX_of h hf)

section
variable {P : Program} {D D' : Nat → Prop} {ρ ρ' : Ren} {w w' : World} {V V' : Ids} {s s' : St} {a : Act} {rd : Option Nat} {n : Nat} {K : Act → World → Prop} {Q : Exit → Act → World → Prop}

/-- An operation that calls nobody. -/
theorem op_step (H : HRel C0 D w V ρ s.h) (db : ∀ b, D b → b < w.heap.size) (hr : Regs D w V ρ s a) (hf : ¬ V s.nx) {o : Oper} {ao : AOp} (hc : compOpX P o.op = some ao) {v : AV} (he : opA s ao = some (v, s'))
    (hK : ∀ val w' D' ρ' V', Post D ρ w V s s' v val w' D' ρ' V' → s'.r = s.r → K (a.put o.dst val) w') : o.wpIn (FW rd) n P a w K Q := by
  have hnf : ao ≠ .fail := fun e => by subst e; cases he
  obtain ⟨val, w', D', ρ', V', hres, h2, h3, h4, h5, h6, h7, h8⟩ := op_ok H db hr hf (compOpX_of hc hnf) he
  refine ⟨fun f _ => trivial, ?_⟩
  rw [Oper.semAt_eq _ _ _ (compOpX_defer hc hnf)]
  have hp := hK val w' D' ρ' V' ⟨h2, h3, h4, h6, h7, h8⟩ h5
  rcases hres with hres | ⟨hres, rfl⟩
  · rw [hres]; exact hp
  · rw [hres]; exact hp

theorem callV_r {F : Nat → Option AFn} {KK : Nat → List AV → Option AV} {ex : AC → St → Option (AE × St)} {f : AV} {as : List AV} {v : AV} (he : callV F KK ex f as s = some (v, s')) : s'.r = s.r := by
  have hx : stepA F KK ex (.call (.c f) (as.map .c)) s = some (v, s') := by
    have : (as.map AO.c).map (AO.ev s) = as := by
      rw [List.map_map]; exact (List.map_congr_left fun _ _ => rfl).trans (List.map_id _)
    simp only [stepA, AO.ev, this]; exact he
  have h2 := stepA_same (F := F) (K := KK) (ex := ex) (s := s) (r := s.r) (o := .call (.c f) (as.map .c)) (fun _ _ => rfl)
  have e : ({ s with r := s.r } : St) = s := rfl
  rw [e, hx] at h2
  simp only [Option.map_some, withR, Option.some.injEq, Prod.mk.injEq, true_and] at h2
  rw [h2]

theorem step_ok {F : Nat → Option AFn} {KK : Nat → List AV → Option AV} {ex : AC → St → Option (AE × St)} (hC : CallOk P (callF F KK ex)) (H : HRel C0 D w V ρ s.h) (db : ∀ b, D b → b < w.heap.size)
    (hr : Regs D w V ρ s a) (top : ∀ i, V i → i < s.nx) {o : Oper} {ao : AOp} (hc : compOpX P o.op = some ao) {v : AV} (he : stepA F KK ex ao s = some (v, s'))
    (hK : ∀ val w' D' ρ' V', Post D ρ w V s s' v val w' D' ρ' V' → s'.r = s.r → K (a.put o.dst val) w') : o.wpIn (FW rd) n P a w K Q := by
  have hn : ¬ V s.nx := fun h => Nat.lt_irrefl _ (top _ h)
  unfold stepA at he
  split at he
  · rename_i f as
    obtain ⟨c, fo, ho, hcal, hfo, has⟩ := compOpX_call hc
    have hr' := callV_r he
    have hf := ev_ok hr hfo
    have hargs := evs_ok hr has
    unfold callV at he
    split at he
    · rename_i g first caps hev
      rw [hev] at hf
      generalize hfv : a.eval fo = fv at hf
      cases hf with
      | fn lf lc hfst hcap =>
        rename_i vf vc
        have hl1 : RL D w V ρ first vf.toList := ⟨by simpa using lf, fun j x u hx hu => hfst j x u hx (by simpa using hu)⟩
        have hl2 : RL D w V ρ caps vc.toList := ⟨by simpa using lc, fun j x u hx hu => hcap j x u hx (by simpa using hu)⟩
        obtain ⟨⟨fn, cd, h1, h2, h3⟩, hcall⟩ := hC H db top ((hl1.append hargs).append hl2) he
        refine ⟨fun f _ => trivial, ?_⟩
        rw [Oper.semAt_eq _ _ _ (compOpX_defer hc (by simp))]
        have hrun : (execOp a.eval o).run P w = .ok (.enter g (vf ++ c.args.map a.eval ++ vc)) w := by
          have hcf : ∀ as : Array Value, (callFunc g as).run P w = .ok (.enter g as) w := fun as => by simp [callFunc, go_sem, h1, h2, h3]
          simp [execOp, ho, resolve, hcal, hfv, Deferred.ofValue, invoke, hcf]
        rw [hrun, Oper.uponIn_enter]
        refine ⟨fun h => by simp [FW] at h, ?_⟩
        have hargs2 : (vf.toList ++ (c.args.map a.eval).toList ++ vc.toList).toArray = vf ++ c.args.map a.eval ++ vc := by
          apply Array.ext'; simp
        have hq := hcall (n - 1)
        rw [show (vf.toList ++ List.map a.eval c.args.toList ++ vc.toList).toArray = vf ++ c.args.map a.eval ++ vc by apply Array.ext'; simp] at hq
        exact CallsIn.mono (FW_calls hq) fun e w' he => by
          obtain ⟨val, D', ρ', V', rfl, hp⟩ := he
          exact hK val w' D' ρ' V' hp hr'
    · rename_i id hev
      unfold roundA at he
      split at he
      · rename_i l hl
        obtain ⟨b, _, hB⟩ := H.bk id _ hl
        obtain ⟨_, r, _, hL⟩ := hB
        exact hL.asg.elim
      · cases he
    · cases he
  · exact op_step H db hr hn hc he hK
end
end Go.Proofs.Hz
