/-
  Regions: what the abstract evaluator says of them the machine does, in whatever order it draws.
  Conditions: none (lemmas over any program).
-/
import Derived.Test.YtpidaficnfaedaaHzR
namespace Go.Proofs.Hz
open Go.RowKit

section
variable {P : Program} {D D' D₂ : Nat → Prop} {ρ ρ' ρ₂ : Ren} {w w' w₂ : World} {V V' V₂ : Ids} {s s' s₂ : St} {a a' a₂ : Act} {rd : Option Nat} {n nt : Nat} {K : Act → World → Prop} {Q : Exit → Act → World → Prop}

/-- How a run goes on, state and all. -/
structure Mv (nt : Nat) (D : Nat → Prop) (ρ : Ren) (w : World) (V : Ids) (s : St) (a : Act) (D' : Nat → Prop) (ρ' : Ren) (w' : World) (V' : Ids) (s' : St) (a' : Act) : Prop where
  rel : SRel C0 D' w' V' ρ' nt s' a'
  ext : Ext D ρ w V D' ρ' w' V'
  nx : s.nx ≤ s'.nx
  ids : ∀ i, V' i → V i ∨ s.nx ≤ i
  defers : a'.defers = a.defers

theorem Mv.refl (h : SRel C0 D w V ρ nt s a) : Mv nt D ρ w V s a D ρ w V s a := ⟨h, Ext.refl _ _ _ _, Nat.le_refl _, fun _ h => .inl h, rfl⟩
theorem Mv.trans (h : Mv nt D ρ w V s a D' ρ' w' V' s' a') (k : Mv nt D' ρ' w' V' s' a' D₂ ρ₂ w₂ V₂ s₂ a₂) : Mv nt D ρ w V s a D₂ ρ₂ w₂ V₂ s₂ a₂ :=
  ⟨k.rel, h.ext.trans k.ext, Nat.le_trans h.nx k.nx, fun i hi => (k.ids i hi).elim (h.ids i) (fun hn => .inr (Nat.le_trans h.nx hn)), k.defers.trans h.defers⟩

theorem regs_ext (e : Ext D ρ w V D' ρ' w' V') (db : ∀ b, D b → b < w.heap.size) (h : Regs D w V ρ s a) : Regs D' w' V' ρ' s a := fun t => (h t).ext e db
theorem rg_set {d : Option Nat} {v : AV} {t : Nat} : (s.set d v).rg t = if d = some t then v else s.rg t := by
  cases d with
  | none => rfl
  | some d =>
    unfold St.set St.rg
    rw [T.get_put]
    by_cases e : d = t
    · simp [e]
    · simp [e]
theorem tmps_put {d : Option Nat} {v : Value} {t : Nat} (hd : ∀ e, d = some e → e < a.tmps.size) : (a.put d v).tmps.getD t undef = if d = some t then v else a.tmps.getD t undef := by
  cases d with
  | none => rfl
  | some d =>
    have hl := hd d rfl
    unfold Act.put
    by_cases e : d = t
    · subst e; simp [hl]
    · simp [Array.getElem?_setIfInBounds_ne e, e]
theorem regs_put {d : Option Nat} {v : AV} {val : Value} (hd : ∀ e, d = some e → e < a.tmps.size) (h : Regs D w V ρ s a) (hv : R D w V ρ v val) : Regs D w V ρ (s.set d v) (a.put d val) := fun t => by
  rw [rg_set, tmps_put hd]
  split
  · exact hv
  · exact h t
theorem put_size (d : Option Nat) (v : Value) : (a.put d v).tmps.size = a.tmps.size := by cases d <;> simp [Act.put]
theorem put_def (d : Option Nat) (v : Value) : (a.put d v).defers = a.defers := by cases d <;> rfl
theorem set_h (d : Option Nat) (v : AV) : (s.set d v).h = s.h := by cases d <;> rfl
theorem set_nx (d : Option Nat) (v : AV) : (s.set d v).nx = s.nx := by cases d <;> rfl

theorem compOper_spec {ops : Array Oper} {o : Oper} {ao : AOper} (h : compOper P nt ops o = some ao) : compOpX P o.op = some ao.op ∧ compGuard ops o.guard = some ao.guard ∧ ao.dst = o.dst ∧ ∀ d, o.dst = some d → d < nt := by
  unfold compOper at h
  split at h
  · rename_i op g h1 h2
    cases hd : o.dst with
    | none =>
      simp only [hd, if_true, Option.some.injEq] at h
      subst h
      exact ⟨h1, h2, rfl, fun d e => by cases e⟩
    | some t =>
      simp only [hd, decide_eq_true_eq] at h
      by_cases hlt : t < nt
      · rw [if_pos hlt] at h
        cases h
        exact ⟨h1, h2, rfl, fun d e => by cases e; exact hlt⟩
      · rw [if_neg hlt] at h; cases h
  · cases h

theorem wanted_ok {ops : Array Oper} {o : Oper} {g : Option (Nat × Bool)} (hg : compGuard ops o.guard = some g) (hr : Regs D w V ρ s a) : Region.wanted o (yielded ops a.tmps) = wantA s g := by
  unfold compGuard at hg
  unfold Region.wanted
  cases hq : o.guard with
  | none => rw [hq] at hg; cases hg; rfl
  | some p =>
    obtain ⟨j, b⟩ := p
    rw [hq] at hg
    simp only at hg
    split at hg
    · rename_i t ht
      cases hg
      have hR := hr t
      simp only [yielded, ht, Option.bind_some, wantA]
      cases hv : a.tmps[t]? with
      | none =>
        have : a.tmps.getD t undef = undef := by simp [hv]
        rw [this] at hR
        generalize s.rg t = x at hR ⊢
        cases hR; rfl
      | some v =>
        have : a.tmps.getD t undef = v := by simp [hv]
        rw [this] at hR
        generalize s.rg t = x at hR ⊢
        cases hR <;> rfl
    · cases hg

/-- After an operation: its answer is laid down. -/
theorem Mv.step (h : SRel C0 D w V ρ nt s a) {v : AV} {val : Value} (hp : Post D ρ w V s s' v val w' D' ρ' V') (hr : s'.r = s.r) {d : Option Nat} (hd : ∀ e, d = some e → e < nt) :
    Mv nt D ρ w V s a D' ρ' w' V' (s'.set d v) (a.put d val) where
  rel := {
    size := by rw [put_size]; exact h.size
    regs := regs_put (fun e he => Nat.lt_of_lt_of_le (hd e he) h.size) (fun t => by
      have := regs_ext hp.ext h.db h.regs t
      unfold St.rg at this ⊢
      rwa [hr]) hp.val
    heap := by rw [set_h]; exact hp.heap
    top := fun i hi => by
      rw [set_nx]
      rcases hp.ids i hi with hi | ⟨_, hi⟩
      · exact Nat.lt_of_lt_of_le (h.top i hi) hp.nx
      · exact hi
    db := hp.db }
  ext := hp.ext
  nx := by rw [set_nx]; exact hp.nx
  ids := fun i hi => (hp.ids i hi).imp id (·.1)
  defers := put_def _ _

theorem undefR : R D w V ρ (.tup []) undef := .tup rfl fun j x v hx _ => by simp at hx
theorem Mv.skip (h : SRel C0 D w V ρ nt s a) {d : Option Nat} (hd : ∀ e, d = some e → e < nt) : Mv nt D ρ w V s a D ρ w V (s.set d (.tup [])) (a.put d undef) :=
  Mv.step h ⟨undefR, h.heap, Ext.refl _ _ _ _, Nat.le_refl _, fun _ h => .inl h, h.db⟩ rfl hd

section
variable {F : Nat → Option AFn} {KK : Nat → List AV → Option AV} {ex : AC → St → Option (AE × St)} {ops : Array Oper}

inductive Told (P : Program) (nt : Nat) (ops : Array Oper) : List Nat → List AOper → Prop
  | nil : Told P nt ops [] []
  | cons {i : Nat} {is : List Nat} {o : Oper} {ao : AOper} {aos : List AOper} (ho : ops[i]? = some o) (hc : compOper P nt ops o = some ao) (t : Told P nt ops is aos) : Told P nt ops (i :: is) (ao :: aos)

theorem reg_ok (hC : CallOk P (callF F KK ex)) {s1 : St} : ∀ {is : List Nat} {l : List AOper}, Told P nt ops is l → ∀ {D : Nat → Prop} {ρ : Ren} {w : World} {V : Ids} {s : St} {a : Act}, SRel C0 D w V ρ nt s a → regA F KK ex l s = some s1 →
    (∀ D' ρ' w' V' a', Mv nt D ρ w V s a D' ρ' w' V' s1 a' → Q .normal a' w') → wpOpsIn (FW rd) n P ops Q is a w := by
  intro is l ht
  induction ht with
  | nil =>
    intro D ρ w V s a h he hQ
    cases he
    exact hQ _ _ _ _ _ (Mv.refl h)
  | @cons i is o ao aos ho hc ht ih =>
    intro D ρ w V s a h he hQ
    obtain ⟨h1, h2, h3, h4⟩ := compOper_spec hc
    simp only [wpOpsIn, ho]
    rw [wanted_ok h2 h.regs]
    simp only [regA] at he
    split at he
    · rename_i hw
      rw [if_pos hw]
      split at he
      · rename_i v s2 hs
        refine step_ok hC h.heap h.db h.regs h.top h1 hs fun val w' D' ρ' V' hp hr => ?_
        have m := Mv.step h hp hr h4
        rw [h3] at he
        exact ih m.rel he fun D₂ ρ₂ w₂ V₂ a₂ m₂ => hQ _ _ _ _ _ (m.trans m₂)
      · cases he
    · rename_i hw
      rw [if_neg hw]
      refine ⟨fun f _ => trivial, ?_⟩
      have m := Mv.skip h h4
      rw [h3] at he
      exact ih m.rel he fun D₂ ρ₂ w₂ V₂ a₂ m₂ => hQ _ _ _ _ _ (m.trans m₂)

theorem told_range : ∀ {l : List Oper} {aos : List AOper} {k : Nat}, mapO (compOper P nt ops) l = some aos → (∀ j o, l[j]? = some o → ops[k + j]? = some o) → Told P nt ops (List.range' k l.length) aos
  | [], aos, k, h, _ => by cases h; exact .nil
  | o :: l, aos, k, h, hl => by
    unfold mapO at h
    split at h
    · cases h
    · rename_i ao hao
      split at h
      · cases h
      · rename_i aos' haos
        cases h
        rw [List.length_cons, List.range'_succ]
        exact .cons (by simpa using hl 0 o rfl) hao (told_range haos fun j o' ho => by
          have := hl (j + 1) o' (by simpa using ho)
          rwa [show k + (j + 1) = k + 1 + j from by omega] at this)

theorem region_ok (hC : CallOk P (callF F KK ex)) {s1 : St} {id : Nat} {aos : List AOper} (hm : mapO (compOper P nt ops) ops.toList = some aos) (h : SRel C0 D w V ρ nt s a) (he : regA F KK ex aos s = some s1)
    (hQ : ∀ D' ρ' w' V' a', Mv nt D ρ w V s a D' ρ' w' V' s1 a' → Q .normal a' w') : (Code.region id ops false).wpIn (FW rd) n P Q a w := by
  refine wpIn_region ?_
  have := told_range (k := 0) hm (fun j o ho => by simpa using ho)
  rw [List.range_eq_range', ← Array.length_toList]
  exact reg_ok hC this h he hQ
end
end
end Go.Proofs.Hz
