/-
  Regions whose order is drawn: what the abstract evaluator says of them the machine does, in whatever order it draws (last part).
  Conditions: none (lemmas over any program).
-/
import Derived.Test.YtoonekkcjcjgmaaGreatHq
namespace Go.Proofs.Hz
open Go.RowKit

section
variable {G : Gl} {P : Program} {pu : Nat → Nat} {D D' D₂ : Nat → Prop} {ρ ρ' ρ₂ : Ren} {w w' w₂ : World} {V V' V₂ : Ids} {s s' s₂ : St} {a a' a₂ : Act} {rd : Option Nat} {n nt : Nat} {K : Act → World → Prop} {Q : Exit → Act → World → Prop}

theorem Mv.refl (h : SRel (C0 P pu) D w V ρ nt s a) : Mv P pu nt D ρ w V s a D ρ w V s a := ⟨h, Ext.refl _ _ _ _, Nat.le_refl _, fun _ h => .inl h, fun _ _ h => h⟩
theorem Mv.trans (h : Mv P pu nt D ρ w V s a D' ρ' w' V' s' a') (k : Mv P pu nt D' ρ' w' V' s' a' D₂ ρ₂ w₂ V₂ s₂ a₂) : Mv P pu nt D ρ w V s a D₂ ρ₂ w₂ V₂ s₂ a₂ :=
  ⟨k.rel, h.ext.trans k.ext, Nat.le_trans h.nx k.nx, fun i hi => (k.ids i hi).elim (h.ids i) (fun hn => .inr (Nat.le_trans h.nx hn)), fun n0 h0 m => k.defers n0 (Nat.le_trans h0 h.ext.size) (h.defers n0 h0 m)⟩

theorem regs_ext (e : Ext D ρ w V D' ρ' w' V') (db : ∀ b, D b → b < w.heap.size) (h : Regs D w V ρ s a) : Regs D' w' V' ρ' s a := ⟨fun t => (h.regs t).ext e db, h.gl.ext e db⟩
theorem rg_set {d : Option Nat} {v : AV} {t : Nat} : (s.set d v).rg t = if d = some t then v else s.rg t := by
  cases d with
  | none => rfl
  | some d =>
    unfold St.set St.rg
    rw [T.get_put]
    by_cases e : d = t
    · simp [e]
    · simp [e]
theorem tmps_put {d : Option Nat} {v : Value} {t : Nat} (hd : ∀ e, d = some e → e < a.tmps.size) : (a.put d v).tmps.getD t undef = if d = some t then v else a.tmps.getD t undef := by
  cases d with
  | none => rfl
  | some d =>
    have hl := hd d rfl
    unfold Act.put
    by_cases e : d = t
    · subst e; simp [hl]
    · simp [Array.getElem?_setIfInBounds_ne e, e]
theorem regs_put {d : Option Nat} {v : AV} {val : Value} (hd : ∀ e, d = some e → e < a.tmps.size) (h : Regs D w V ρ s a) (hv : R D w V ρ v val) : Regs D w V ρ (s.set d v) (a.put d val) := ⟨fun t => by
  rw [rg_set, tmps_put hd]
  split
  · exact hv
  · exact h.regs t, h.gl⟩
theorem put_size (d : Option Nat) (v : Value) : (a.put d v).tmps.size = a.tmps.size := by cases d <;> simp [Act.put]
theorem put_def (d : Option Nat) (v : Value) : (a.put d v).defers = a.defers := by cases d <;> rfl
theorem set_h (d : Option Nat) (v : AV) : (s.set d v).h = s.h := by cases d <;> rfl
theorem set_nx (d : Option Nat) (v : AV) : (s.set d v).nx = s.nx := by cases d <;> rfl

theorem compOper_spec {ops : Array Oper} {o : Oper} {ao : AOper} (h : compOper P nt ops o = some ao) : compOpX P o.op = some ao.op ∧ compGuard ops o.guard = some ao.guard ∧ ao.dst = o.dst ∧ ∀ d, o.dst = some d → d < nt := by
  unfold compOper at h
  split at h
  · rename_i op g h1 h2
    cases hd : o.dst with
    | none =>
      simp only [hd, if_true, Option.some.injEq] at h
      subst h
      exact ⟨h1, h2, rfl, fun d e => by cases e⟩
    | some t =>
      simp only [hd, decide_eq_true_eq] at h
      by_cases hlt : t < nt
      · rw [if_pos hlt] at h
        cases h
        exact ⟨h1, h2, rfl, fun d e => by cases e; exact hlt⟩
      · rw [if_neg hlt] at h; cases h
  · cases h

theorem wanted_ok {ops : Array Oper} {o : Oper} {g : Option (Nat × Bool)} (hg : compGuard ops o.guard = some g) (hr : Regs D w V ρ s a) : Region.wanted o (yielded ops a.tmps) = wantA s g := by
  unfold compGuard at hg
  unfold Region.wanted
  cases hq : o.guard with
  | none => rw [hq] at hg; cases hg; rfl
  | some p =>
    obtain ⟨j, b⟩ := p
    rw [hq] at hg
    simp only at hg
    split at hg
    · rename_i t ht
      cases hg
      have hR := hr.regs t
      simp only [yielded, ht, Option.bind_some, wantA]
      cases hv : a.tmps[t]? with
      | none =>
        have : a.tmps.getD t undef = undef := by simp [hv]
        rw [this] at hR
        generalize s.rg t = x at hR ⊢
        cases hR; rfl
      | some v =>
        have : a.tmps.getD t undef = v := by simp [hv]
        rw [this] at hR
        generalize s.rg t = x at hR ⊢
        cases hR <;> rfl
    · cases hg

/-- After an operation: its answer is laid down. -/
theorem Mv.step (h : SRel (C0 P pu) D w V ρ nt s a) {v : AV} {val : Value} (hp : Post P pu D ρ w V s s' v val w' D' ρ' V') (hr : s'.r = s.r) {d : Option Nat} (hd : ∀ e, d = some e → e < nt) :
    Mv P pu nt D ρ w V s a D' ρ' w' V' (s'.set d v) (a.put d val) where
  rel := {
    size := by rw [put_size]; exact h.size
    regs := regs_put (fun e he => Nat.lt_of_lt_of_le (hd e he) h.size) ⟨fun t => by
      have := (regs_ext hp.ext h.db h.regs).regs t
      unfold St.rg at this ⊢
      rwa [hr], (regs_ext hp.ext h.db h.regs).gl⟩ hp.val
    heap := by rw [set_h]; exact hp.heap
    top := fun i hi => by
      rw [set_nx]
      rcases hp.ids i hi with hi | ⟨_, hi⟩
      · exact Nat.lt_of_lt_of_le (h.top i hi) hp.nx
      · exact hi
    db := hp.db }
  ext := hp.ext
  nx := by rw [set_nx]; exact hp.nx
  ids := fun i hi => (hp.ids i hi).imp id (·.1)
  defers := fun n0 _ m => by rw [put_def]; exact m.ext h.heap hp.ext

theorem undefR : R D w V ρ (.tup []) undef := .tup rfl fun j x v hx _ => by simp at hx
theorem Mv.skip (h : SRel (C0 P pu) D w V ρ nt s a) {d : Option Nat} (hd : ∀ e, d = some e → e < nt) : Mv P pu nt D ρ w V s a D ρ w V (s.set d (.tup [])) (a.put d undef) :=
  Mv.step h ⟨undefR, h.heap, Ext.refl _ _ _ _, Nat.le_refl _, fun _ h => .inl h, h.db⟩ rfl hd

section
variable {F : Nat → Option AFn} {KK : Nat → List AV → Option AV} {ex : AC → St → Option (AE × St)} {ops : Array Oper}

inductive Told [Gl] (P : Program) (nt : Nat) (ops : Array Oper) : List Nat → List AOper → Prop
  | nil : Told P nt ops [] []
  | cons {i : Nat} {is : List Nat} {o : Oper} {ao : AOper} {aos : List AOper} (ho : ops[i]? = some o) (hc : compOper P nt ops o = some ao) (t : Told P nt ops is aos) : Told P nt ops (i :: is) (ao :: aos)

theorem reg_ok (hC : CallOk P pu (callF F KK ex)) (hX : ExOk P pu ex) {s1 : St} : ∀ {is : List Nat} {l : List AOper}, Told P nt ops is l → ∀ {D : Nat → Prop} {ρ : Ren} {w : World} {V : Ids} {s : St} {a : Act}, SRel (C0 P pu) D w V ρ nt s a → regA F KK ex l s = some s1 →
    (∀ D' ρ' w' V' a', Mv P pu nt D ρ w V s a D' ρ' w' V' s1 a' → Q .normal a' w') → wpOpsIn (FW rd) n P ops Q is a w := by
  intro is l ht
  induction ht with
  | nil =>
    intro D ρ w V s a h he hQ
    cases he
    exact hQ _ _ _ _ _ (Mv.refl h)
  | @cons i is o ao aos ho hc ht ih =>
    intro D ρ w V s a h he hQ
    obtain ⟨h1, h2, h3, h4⟩ := compOper_spec hc
    simp only [wpOpsIn, ho]
    rw [wanted_ok h2 h.regs]
    simp only [regA] at he
    split at he
    · rename_i hw
      rw [if_pos hw]
      split at he
      · rename_i v s2 hs
        refine step_ok hC hX h.heap h.db h.regs h.top h1 hs fun val w' D' ρ' V' hp hr => ?_
        have m := Mv.step h hp hr h4
        rw [h3] at he
        exact ih m.rel he fun D₂ ρ₂ w₂ V₂ a₂ m₂ => hQ _ _ _ _ _ (m.trans m₂)
      · cases he
    · rename_i hw
      rw [if_neg hw]
      refine ⟨fun f _ => trivial, ?_⟩
      have m := Mv.skip h h4
      rw [h3] at he
      exact ih m.rel he fun D₂ ρ₂ w₂ V₂ a₂ m₂ => hQ _ _ _ _ _ (m.trans m₂)

theorem told_range : ∀ {l : List Oper} {aos : List AOper} {k : Nat}, mapO (compOper P nt ops) l = some aos → (∀ j o, l[j]? = some o → ops[k + j]? = some o) → Told P nt ops (List.range' k l.length) aos
  | [], aos, k, h, _ => by cases h; exact .nil
  | o :: l, aos, k, h, hl => by
    unfold mapO at h
    split at h
    · cases h
    · rename_i ao hao
      split at h
      · cases h
      · rename_i aos' haos
        cases h
        rw [List.length_cons, List.range'_succ]
        exact .cons (by simpa using hl 0 o rfl) hao (told_range haos fun j o' ho => by
          have := hl (j + 1) o' (by simpa using ho)
          rwa [show k + (j + 1) = k + 1 + j from by omega] at this)

theorem region_ok (hC : CallOk P pu (callF F KK ex)) (hX : ExOk P pu ex) {s1 : St} {id : Nat} {aos : List AOper} (hm : mapO (compOper P nt ops) ops.toList = some aos) (h : SRel (C0 P pu) D w V ρ nt s a) (he : regA F KK ex aos s = some s1)
    (hQ : ∀ D' ρ' w' V' a', Mv P pu nt D ρ w V s a D' ρ' w' V' s1 a' → Q .normal a' w') : (Code.region id ops false).wpIn (FW rd) n P Q a w := by
  refine wpIn_region ?_
  have := told_range (k := 0) hm (fun j o ho => by simpa using ho)
  rw [List.range_eq_range', ← Array.length_toList]
  exact reg_ok hC hX this h he hQ
end
end
end Go.Proofs.Hz
namespace Go.Proofs.Hz
open Go.RowKit

/-- One operation is ahead of another. -/
inductive Anc (ops : Array Oper) : Nat → Nat → Prop
  | one {i j : Nat} {o : Oper} {e : Edge} (ho : ops[j]? = some o) (he : e ∈ o.after) (hb : Region.binds .any e = true) (hi : e.on = i) : Anc ops i j
  | more {i j k : Nat} (h : Anc ops i k) (h' : Anc ops k j) : Anc ops i j

theorem edgeM_spec {ops : Array Oper} {acc : List Nat} (hacc : ∀ j x, (acc.getD j 0).testBit x = true → Anc ops x j) {j : Nat} {o : Oper} (ho : ops[j]? = some o) :
    ∀ {es : List Edge}, (∀ e ∈ es, e ∈ o.after) → ∀ x, (edgeM acc es).testBit x = true → Anc ops x j
  | [], _, x, h => by simp [edgeM] at h
  | e :: es, hes, x, h => by
    have ih := edgeM_spec hacc ho (es := es) fun e he => hes e (by simp [he])
    unfold edgeM at h
    split at h
    · rename_i hb
      simp only [Nat.testBit_or, Bool.or_eq_true, Nat.testBit_two_pow, decide_eq_true_eq] at h
      have h1 : Anc ops e.on j := .one ho (hes e (by simp)) hb rfl
      rcases h with h | h | h
      · exact ih x h
      · exact h ▸ h1
      · exact .more (hacc _ _ h) h1
    · exact ih x h
theorem masks_spec {ops : Array Oper} : ∀ {l : List Oper} {acc : List Nat}, (∀ j x, (acc.getD j 0).testBit x = true → Anc ops x j) → (∀ j o, l[j]? = some o → ops[acc.length + j]? = some o) → ∀ j x, ((masks l acc).getD j 0).testBit x = true → Anc ops x j
  | [], acc, h, _, j, x, hx => h j x hx
  | o :: l, acc, h, hl, j, x, hx => by
    refine masks_spec (l := l) (acc := acc ++ [edgeM acc o.after.toList]) (fun j x hx => ?_) (fun j o' ho => ?_) j x hx
    · by_cases hj : j < acc.length
      · refine h j x ?_
        simpa [List.getD_eq_getElem?_getD, List.getElem?_append_left hj] using hx
      · by_cases he : j = acc.length
        · subst he
          refine edgeM_spec h (by simpa using hl 0 o rfl) (es := o.after.toList) (fun e he => by simpa using he) x ?_
          simpa [List.getD_eq_getElem?_getD] using hx
        · have : (acc ++ [edgeM acc o.after.toList])[j]? = none := List.getElem?_eq_none (by simp; omega)
          simp [List.getD_eq_getElem?_getD, this] at hx
    · have := hl (j + 1) o' (by simpa using ho)
      rwa [List.length_append, List.length_singleton, show acc.length + 1 + j = acc.length + (j + 1) from by omega]

/-- What is left to do, in the order that is worked in. -/
structure OkL (ops : Array Oper) (ms : List Nat) (L : List ADr) : Prop where
  pair : ∀ l1 y l2, L = l1 ++ y :: l2 → ∀ x ∈ l1, ancB ms x.i y.i = true ∨ (apartT x.o y.o = true ∧ okKinds x y = true)
  back : ∀ l1 y l2, L = l1 ++ y :: l2 → 4 ≤ y.k → l1.countP (fun x => isW x.k && !ancB ms x.i y.i) ≤ y.back
  once : ∀ l1 y l2, L = l1 ++ y :: l2 → ∀ x ∈ l1 ++ l2, x.i ≠ y.i

theorem append_split {α : Type} {p q l1 l2 : List α} {y : α} (h : p ++ q = l1 ++ y :: l2) : (∃ p2, p = l1 ++ y :: p2 ∧ l2 = p2 ++ q) ∨ ∃ q1, l1 = p ++ q1 ∧ q = q1 ++ y :: l2 := by
  rcases List.append_eq_append_iff.1 h with ⟨c, h1, h2⟩ | ⟨c, h1, h2⟩
  · exact .inr ⟨c, h1, h2⟩
  · cases c with
    | nil => exact .inr ⟨[], by simpa using h1.symm, by simpa using h2.symm⟩
    | cons z c =>
      simp only [List.cons_append, List.cons.injEq] at h2
      obtain ⟨rfl, rfl⟩ := h2
      exact .inl ⟨c, h1, rfl⟩
theorem OkL.rest {ops : Array Oper} {ms : List Nat} {p q : List ADr} {j : ADr} (h : OkL ops ms (p ++ j :: q)) : OkL ops ms (p ++ q) where
  pair := fun l1 y l2 e x hx => by
    rcases append_split e with ⟨p2, rfl, rfl⟩ | ⟨q1, rfl, rfl⟩
    · exact h.pair l1 y (p2 ++ j :: q) (by simp) x hx
    · refine h.pair (p ++ j :: q1) y l2 (by simp) x ?_
      simp only [List.mem_append, List.mem_cons] at hx ⊢
      rcases hx with hx | hx
      · exact .inl hx
      · exact .inr (.inr hx)
  back := fun l1 y l2 e hk => by
    rcases append_split e with ⟨p2, rfl, rfl⟩ | ⟨q1, rfl, rfl⟩
    · exact h.back l1 y (p2 ++ j :: q) (by simp) hk
    · have := h.back (p ++ j :: q1) y l2 (by simp) hk
      simp only [List.countP_append, List.countP_cons] at this ⊢
      omega
  once := fun l1 y l2 e x hx => by
    rcases append_split e with ⟨p2, rfl, rfl⟩ | ⟨q1, rfl, rfl⟩
    · refine h.once l1 y (p2 ++ j :: q) (by simp) x ?_
      simp only [List.mem_append, List.mem_cons] at hx ⊢
      rcases hx with hx | hx | hx
      · exact .inl hx
      · exact .inr (.inl hx)
      · exact .inr (.inr (.inr hx))
    · refine h.once (p ++ j :: q1) y l2 (by simp) x ?_
      simp only [List.mem_append, List.mem_cons] at hx ⊢
      rcases hx with (hx | hx) | hx
      · exact .inl (.inl hx)
      · exact .inl (.inr (.inr hx))
      · exact .inr hx

theorem okPairs_spec {ms : List Nat} : ∀ {L : List ADr}, okPairs ms L = true → ∀ l1 y l2, L = l1 ++ y :: l2 → ∀ x ∈ l1, ancB ms x.i y.i = true ∨ (apartT x.o y.o = true ∧ okKinds x y = true)
  | [], _, l1, y, l2, e, _, _ => by cases l1 <;> cases e
  | z :: L, h, l1, y, l2, e, x, hx => by
    simp only [okPairs, Bool.and_eq_true, List.all_eq_true, Bool.or_eq_true] at h
    cases l1 with
    | nil => cases hx
    | cons z' l1 =>
      simp only [List.cons_append, List.cons.injEq] at e
      obtain ⟨rfl, rfl⟩ := e
      rcases List.mem_cons.1 hx with rfl | hx
      · exact h.1 y (by simp)
      · exact okPairs_spec h.2 l1 y l2 rfl x hx
theorem okBack_spec {ms : List Nat} : ∀ {L pre : List ADr}, okBack ms pre L = true → ∀ l1 y l2, L = l1 ++ y :: l2 → 4 ≤ y.k → (l1.countP fun x => isW x.k && !ancB ms x.i y.i) + (pre.countP fun x => isW x.k && !ancB ms x.i y.i) ≤ y.back
  | [], _, _, l1, y, l2, e, _ => by cases l1 <;> cases e
  | z :: L, pre, h, l1, y, l2, e, hk => by
    simp only [okBack, Bool.and_eq_true, Bool.or_eq_true, decide_eq_true_eq] at h
    cases l1 with
    | nil =>
      simp only [List.nil_append, List.cons.injEq] at e
      obtain ⟨rfl, rfl⟩ := e
      simp only [List.countP_nil, Nat.zero_add]
      rcases h.1 with h1 | h1
      · omega
      · exact h1
    | cons z' l1 =>
      simp only [List.cons_append, List.cons.injEq] at e
      obtain ⟨rfl, rfl⟩ := e
      have := okBack_spec h.2 l1 y l2 rfl hk
      rw [List.countP_cons] at this ⊢
      omega
theorem okOnce_spec : ∀ {L : List ADr}, okOnce L = true → ∀ l1 y l2, L = l1 ++ y :: l2 → ∀ x ∈ l1 ++ l2, x.i ≠ y.i
  | [], _, l1, y, l2, e, _, _ => by cases l1 <;> cases e
  | z :: L, h, l1, y, l2, e, x, hx => by
    simp only [okOnce, Bool.and_eq_true, List.all_eq_true, bne_iff_ne, ne_eq] at h
    cases l1 with
    | nil =>
      simp only [List.nil_append, List.cons.injEq] at e
      obtain ⟨rfl, rfl⟩ := e
      exact h.1 x (by simpa using hx)
    | cons z' l1 =>
      simp only [List.cons_append, List.cons.injEq] at e
      obtain ⟨rfl, rfl⟩ := e
      simp only [List.cons_append, List.mem_cons] at hx
      rcases hx with rfl | hx
      · exact fun he => h.1 y (by simp) he.symm
      · exact okOnce_spec h.2 l1 y l2 rfl x hx
theorem okEdges_spec : ∀ {l : List Oper} {i : Nat}, okEdges i l = true → ∀ j o, l[j]? = some o → ∀ e ∈ o.after, Region.binds .any e = true → e.on < i + j
  | [], _, _, j, o, h, _, _, _ => by simp at h
  | o' :: l, i, h, j, o, ho, e, he, hb => by
    simp only [okEdges, Bool.and_eq_true, List.all_eq_true, Bool.or_eq_true, Bool.not_eq_true', decide_eq_true_eq] at h
    cases j with
    | zero =>
      simp only [List.getElem?_cons_zero, Option.some.injEq] at ho
      subst ho
      rcases h.1 e (by simpa using he) with h1 | h1
      · rw [hb] at h1; cases h1
      · simpa using h1
    | succ j =>
      have := okEdges_spec h.2 j o (by simpa using ho) e he hb
      omega

theorem getD_true {l : Array Bool} {i : Nat} : l.getD i true = false ↔ i < l.size ∧ l.getD i false = false := by
  rcases Nat.lt_or_ge i l.size with h | h
  · simp [h]
  · simp [Array.getElem?_eq_none h]; omega

/-- As long as something is left, something may come up. -/
theorem ready_ne {ops : Array Oper} (he : okEdges 0 ops.toList = true) {listed : Array Bool} (hs : listed.size = ops.size) {i : Nat} (hi : listed.getD i true = false) : Region.ready .any ops listed ≠ [] := by
  induction i using Nat.strongRecOn with
  | _ i ih =>
    have hlt : i < listed.size := (getD_true.1 hi).1
    have hop : ∃ o, ops[i]? = some o := ⟨_, Array.getElem?_eq_getElem (by omega)⟩
    obtain ⟨o, ho⟩ := hop
    by_cases hall : ∀ e ∈ o.after, Region.binds .any e = true → listed.getD e.on false = true
    · intro hn
      have : i ∈ Region.ready .any ops listed := mem_ready.2 ⟨hi, o, ho, hall⟩
      rw [hn] at this; cases this
    · obtain ⟨e, hn⟩ := Classical.not_forall.1 hall
      obtain ⟨h1, hn⟩ := Classical.not_forall.1 hn
      obtain ⟨h2, hn⟩ := Classical.not_forall.1 hn
      have hlt2 : e.on < i := by simpa using okEdges_spec he i o (by simpa using ho) e h1 h2
      exact ih e.on hlt2 (getD_true.2 ⟨by omega, by simpa using hn⟩)

/-- Whatever is ahead of one that may come up has been. -/
theorem anc_listed {ops : Array Oper} {listed : Array Bool} (hcl : ∀ j o, ops[j]? = some o → listed.getD j false = true → ∀ e ∈ o.after, Region.binds .any e = true → listed.getD e.on false = true) {i j : Nat} (h : Anc ops i j) :
    (∀ o, ops[j]? = some o → ∀ e ∈ o.after, Region.binds .any e = true → listed.getD e.on false = true) → listed.getD i false = true := by
  induction h with
  | one ho he hb hi => intro hj; rw [← hi]; exact hj _ ho _ he hb
  | more h h' ih ih' => intro hj; exact ih fun o ho e he hb => hcl _ o ho (ih' hj) e he hb
end Go.Proofs.Hz
namespace Go.Proofs.Hz
open Go.RowKit

section
variable {G : Gl} {P : Program} {pu : Nat → Nat} {D D' : Nat → Prop} {ρ ρ' : Ren} {w w' : World} {V V' : Ids} {s s' s1 : St} {a : Act} {rd : Option Nat} {n nt nx0 : Nat} {K : Act → World → Prop} {Q : Exit → Act → World → Prop}
  {F : Nat → Option AFn} {KK : Nat → List AV → Option AV} {ex : AC → St → Option (AE × St)} {ops : Array Oper}

theorem drw_step (hC : CallOk P pu (callF F KK ex)) (hX : ExOk P pu ex) (h : SRel (C0 P pu) D w V ρ nt s a) {o : Oper} {y : ADr} (hc : compOper P nt ops o = some y.o) (hfree : y.k = 1 → ¬ V (nx0 + y.i)) (hlt : nx0 + y.i < s.nx) {hist hist1 : List (T Blk)} {v : AV}
    (he : drwStep F KK ex nx0 hist y s = some (v, s1, hist1))
    (hK : ∀ val w' D' ρ' V', SRel (C0 P pu) D' w' V' ρ' nt (s1.set o.dst v) (a.put o.dst val) → Ext D ρ w V D' ρ' w' V' → s.nx ≤ s1.nx → (∀ i, V' i → V i ∨ (y.k = 1 ∧ i = nx0 + y.i) ∨ s.nx ≤ i) → K (a.put o.dst val) w') :
    if Region.wanted o (yielded ops a.tmps) = true then o.wpIn (FW rd) n P a w K Q else (∀ f, o.about P w a.eval = some f → (FW rd).fn f) ∧ K (a.put o.dst undef) w := by
  obtain ⟨h1, h2, h3, h4⟩ := compOper_spec hc
  have hn : ¬ V s.nx := fun h' => Nat.lt_irrefl _ (h.top _ h')
  rw [wanted_ok h2 h.regs]
  have gen : ∀ (val : Value) (w' : World) (D' : Nat → Prop) (ρ' : Ren) (V' : Ids), Post P pu D ρ w V s s1 v val w' D' ρ' V' → s1.r = s.r → K (a.put o.dst val) w' := fun val w' D' ρ' V' hp hr => by
    have m := Mv.step h hp hr h4
    exact hK _ _ _ _ _ m.rel hp.ext hp.nx fun i hi => (hp.ids i hi).imp id fun hi => .inr hi.1
  unfold drwStep at he
  split at he
  · rename_i hw
    rw [if_pos hw]
    rcases kinds y.k with hk | hk | hk | hk
    · simp only [hk] at he
      split at he
      · rename_i hq
        cases ho : opA s y.o.op with
        | none => simp [ho] at he
        | some p =>
          obtain ⟨u, s2⟩ := p
          have := quiet_same hq ho
          subst this
          simp only [ho, Option.some.injEq, Prod.mk.injEq] at he
          obtain ⟨rfl, rfl, rfl⟩ := he
          exact op_step h.heap h.db h.regs hn h1 ho gen
      · split at he
        · rename_i f as hop
          split at he
          · rename_i g first caps hf
            split at he
            · rename_i fn hF
              split at he
              · rename_i hp
                split at he
                · rename_i xs hx
                  split at he
                  · rename_i r hr
                    simp only [Option.some.injEq, Prod.mk.injEq] at he
                    obtain ⟨rfl, rfl, rfl⟩ := he
                    simp only [Bool.and_eq_true] at hp
                    have hst : stepA F KK ex y.o.op s = some (r, s) := by
                      rw [hop]
                      simp only [stepA, hf, callV, callF, hF, hp.1, if_true, hx, hr]
                      rw [if_pos (by rw [hp.2]; simp)]
                    exact step_ok hC hX h.heap h.db h.regs h.top h1 hst gen
                  · cases he
                · cases he
              · cases he
            · cases he
          · cases he
        · cases he
    · simp only [hk] at he
      split at he
      · rename_i hnew
        simp only [Bool.and_eq_true] at hnew
        cases ho : opA { s with nx := nx0 + y.i } y.o.op with
        | none => simp [ho] at he
        | some p =>
          obtain ⟨u, s2⟩ := p
          simp only [ho, Option.some.injEq, Prod.mk.injEq] at he
          obtain ⟨rfl, rfl, rfl⟩ := he
          obtain ⟨b, rfl, _⟩ := new_blk hnew.1 ho
          refine op_step (s := { s with nx := nx0 + y.i }) h.heap h.db ⟨fun t => h.regs.regs t, h.regs.gl⟩ (hfree hk) h1 ho fun val w' D' ρ' V' hp hr => ?_
          have hids : ∀ i, V' i → V i ∨ i = nx0 + y.i := fun i hi => by
            rcases hp.ids i hi with hi | ⟨h5, h6⟩
            · exact .inl hi
            · simp only [St.new] at h5 h6; exact .inr (by omega)
          refine hK val w' D' ρ' V' ⟨by rw [put_size]; exact h.size, regs_put (s := { s with h := s.h.put (nx0 + y.i) (some b) }) (fun e he => Nat.lt_of_lt_of_le (h4 e he) h.size) ⟨fun t => (regs_ext hp.ext h.db h.regs).regs t, (regs_ext hp.ext h.db h.regs).gl⟩ hp.val, by rw [set_h]; exact hp.heap, fun i hi => ?_, hp.db⟩ hp.ext (Nat.le_refl _) fun i hi => (hids i hi).imp id fun e => .inl ⟨hk, e⟩
          rw [set_nx]
          rcases hids i hi with hi | rfl
          · exact h.top i hi
          · exact hlt
      · cases he
    · have key : ∀ {q : AV × St}, stepA F KK ex y.o.op s = some q → q.1 = v → q.2 = s1 → o.wpIn (FW rd) n P a w K Q := fun {q} hq e1 e2 => by
        obtain ⟨u, s2⟩ := q
        simp only at e1 e2
        subst e1; subst e2
        exact step_ok hC hX h.heap h.db h.regs h.top h1 hq gen
      rcases hk with hk | hk
      · simp only [hk] at he
        cases ho : stepA F KK ex y.o.op s with
        | none => simp [ho] at he
        | some p =>
          simp only [ho, Option.some.injEq, Prod.mk.injEq] at he
          exact key ho he.1 he.2.1
      · simp only [hk] at he
        split at he
        · cases ho : stepA F KK ex y.o.op s with
          | none => simp [ho] at he
          | some p =>
            simp only [ho, Option.some.injEq, Prod.mk.injEq] at he
            exact key ho he.1 he.2.1
        · cases he
    · obtain ⟨k, hk'⟩ : ∃ k, y.k = k + 4 := ⟨y.k - 4, by omega⟩
      simp only [hk'] at he
      split at he
      · rename_i hr
        cases ho : opA s y.o.op with
        | none => simp [ho] at he
        | some p =>
          obtain ⟨u, s2⟩ := p
          have := read_ok hr ho
          subst this
          simp only [ho] at he
          split at he
          · simp only [Option.some.injEq, Prod.mk.injEq] at he
            obtain ⟨rfl, rfl, rfl⟩ := he
            exact op_step h.heap h.db h.regs hn h1 ho gen
          · cases he
      · cases he
  · rename_i hw
    rw [if_neg hw]
    refine ⟨fun f _ => trivial, ?_⟩
    simp only [Option.some.injEq, Prod.mk.injEq] at he
    obtain ⟨rfl, rfl, _⟩ := he
    exact gen undef w D ρ V ⟨undefR, h.heap, Ext.refl _ _ _ _, Nat.le_refl _, fun _ h => .inl h, h.db⟩ rfl

theorem drw_any (hfr : FrEx ex) (hC : CallOk P pu (callF F KK ex)) (hX : ExOk P pu ex) {ms : List Nat} (hms : ∀ j x, (ms.getD j 0).testBit x = true → Anc ops x j) (hE : okEdges 0 ops.toList = true) {e : St} :
    ∀ (fuel : Nat) (L : List ADr) (listed : Array Bool) (D : Nat → Prop) (ρ : Ren) (w : World) (V : Ids) (s : St) (a : Act) (hist : List (T Blk)), L.length ≤ fuel → listed.size = ops.size → OkL ops ms L →
      (∀ y ∈ L, ∃ o, ops[y.i]? = some o ∧ compOper P nt ops o = some y.o) → (∀ i, listed.getD i true = false ↔ ∃ y ∈ L, y.i = i) →
      (∀ j o, ops[j]? = some o → listed.getD j false = true → ∀ e ∈ o.after, Region.binds .any e = true → listed.getD e.on false = true) →
      SRel (C0 P pu) D w V ρ nt s a → (∀ y ∈ L, ¬ V (nx0 + y.i)) → nx0 + ops.size ≤ s.nx → Grow s hist → drwA F KK ex nx0 L s hist = some e →
      (∀ D' ρ' w' V' a', SRel (C0 P pu) D' w' V' ρ' nt e a' → Ext D ρ w V D' ρ' w' V' → s.nx ≤ e.nx → (∀ i, V' i → V i ∨ nx0 ≤ i) → a'.defers = a.defers → Q .normal a' w') →
      wpAnyIn (FW rd) n P .any ops Q fuel listed a w := by
  have done : ∀ (fuel : Nat) (listed : Array Bool) (a : Act) (w : World), (∀ i, listed.getD i true = false → False) → Q .normal a w → wpAnyIn (FW rd) n P .any ops Q fuel listed a w := fun fuel listed a w hno hQ => by
    refine wpAnyIn_done ?_ hQ fuel
    refine List.eq_nil_iff_forall_not_mem.2 fun i hi => ?_
    exact hno i (mem_ready.1 hi).1
  intro fuel
  induction fuel with
  | zero =>
    intro L listed D ρ w V s a hist hlen _ _ _ hiff _ h _ _ _ he hQ
    have : L = [] := List.length_eq_zero_iff.1 (by omega)
    subst this
    cases he
    exact done 0 listed a w (fun i hi => by obtain ⟨y, hy, _⟩ := (hiff i).1 hi; cases hy) (hQ _ _ _ _ _ h (Ext.refl _ _ _ _) (Nat.le_refl _) (fun _ h => .inl h) rfl)
  | succ fuel ih =>
    intro L listed D ρ w V s a hist hlen hsz hok hL hiff hcl h hV hnx hg he hQ
    cases hLe : L with
    | nil =>
      subst hLe
      cases he
      exact done _ listed a w (fun i hi => by obtain ⟨y, hy, _⟩ := (hiff i).1 hi; cases hy) (hQ _ _ _ _ _ h (Ext.refl _ _ _ _) (Nat.le_refl _) (fun _ h => .inl h) rfl)
    | cons y0 L0 =>
      refine ⟨fun h0 => absurd h0 (ready_ne hE hsz ((hiff y0.i).2 ⟨y0, by rw [hLe]; simp, rfl⟩)), fun i hi => ?_⟩
      clear hLe
      obtain ⟨hun, o, ho, hall⟩ := mem_ready.1 hi
      obtain ⟨y, hy, rfl⟩ := (hiff i).1 hun
      obtain ⟨l1, l2, rfl⟩ := List.append_of_mem hy
      have hnanc : ∀ x ∈ l1, ancB ms x.i y.i = false := fun x hx => by
        refine Bool.eq_false_iff.2 fun ha => ?_
        have h1 := anc_listed hcl (hms _ _ ha) fun o' ho' e' he' hb' => by
          rw [ho] at ho'; cases ho'; exact hall e' he' hb'
        have h2 := (getD_true.1 ((hiff x.i).2 ⟨x, by simp [hx], rfl⟩)).2
        rw [h1] at h2; cases h2
      have hpair : ∀ x ∈ l1, apartT x.o y.o = true ∧ okKinds x y = true := fun x hx => (hok.pair l1 y l2 rfl x hx).resolve_left fun ha => by rw [hnanc x hx] at ha; cases ha
      have hcount : 4 ≤ y.k → l1.countP (fun x => isW x.k) ≤ y.back := fun hk => by
        have := hok.back l1 y l2 rfl hk
        have ec : l1.countP (fun x => isW x.k && !ancB ms x.i y.i) = l1.countP (fun x => isW x.k) := List.countP_congr fun x hx => by simp [hnanc x hx]
        omega
      have hlt : y.i < ops.size := (Array.getElem?_eq_some_iff.1 ho).1
      obtain ⟨o', ho', hc⟩ := hL y (by simp)
      rw [ho] at ho'; cases ho'
      have hp := pull hfr l1 s hist hg hpair hcount (fun _ => ⟨h.heap.lo _ (hV y (by simp)), by omega⟩) he
      generalize (l1.countP fun x => isW x.k) = c at hp
      simp only [drwA] at hp
      have hyi : (y.up c).i = y.i := rfl
      have hyo : (y.up c).o = y.o := rfl
      have hdst : (y.up c).o.dst = o.dst := (compOper_spec hc).2.2.1
      have hVy : (y.up c).k = 1 → ¬ V (nx0 + (y.up c).i) := fun _ => hV y (by simp)
      have hlty : nx0 + (y.up c).i < s.nx := by rw [hyi]; omega
      rw [← hyo] at hc
      generalize y.up c = z0 at hp hyi hyo hdst hVy hlty hc
      cases hst : drwStep F KK ex nx0 hist z0 s with
      | none => simp [hst] at hp
      | some p =>
        obtain ⟨v, s1, hist1⟩ := p
        simp only [hst] at hp
        have hg1 := grow_step hg hst
        simp only [wpOpIn, ho]
        refine drw_step hC hX h hc hVy hlty hst fun val w' D' ρ' V' hS hE' hn1 hids => ?_
        have hS : SRel (C0 P pu) D' w' V' ρ' nt (s1.set z0.o.dst v) (a.put o.dst val) := by rw [hdst]; exact hS
        have honce := hok.once l1 y l2 rfl
        refine ih (l1 ++ l2) (listed.setIfInBounds y.i true) D' ρ' w' V' _ _ hist1 ?_ (by simpa using hsz) hok.rest (fun z hz => hL z ?_) (fun j => ?_) (fun j oj hj hlj e' he' hb' => ?_) hS (fun z hz hv => ?_) ?_ ?_ hp fun D₂ ρ₂ w₂ V₂ a₂ h5 h6 h7 h8 h9 => ?_
        · simp only [List.length_append, List.length_cons] at hlen ⊢; omega
        · simp only [List.mem_append, List.mem_cons] at hz ⊢
          rcases hz with hz | hz
          · exact .inl hz
          · exact .inr (.inr hz)
        · by_cases hj : y.i = j
          · subst hj
            constructor
            · intro hx
              have := (getD_true.1 hx).2
              simp [show y.i < listed.size by omega] at this
            · rintro ⟨z, hz, hzi⟩
              exact absurd hzi (honce z hz)
          · rw [getD_set_ne true hj, hiff j]
            constructor
            · rintro ⟨z, hz, rfl⟩
              refine ⟨z, ?_, rfl⟩
              simp only [List.mem_append, List.mem_cons] at hz ⊢
              rcases hz with hz | hz | hz
              · exact .inl hz
              · exact absurd (by rw [hz]) hj
              · exact .inr hz
            · rintro ⟨z, hz, rfl⟩
              refine ⟨z, ?_, rfl⟩
              simp only [List.mem_append, List.mem_cons] at hz ⊢
              rcases hz with hz | hz
              · exact .inl hz
              · exact .inr (.inr hz)
        · by_cases hj' : y.i = j
          · subst hj'
            rw [ho] at hj; cases hj
            exact getD_set_true (hall e' he' hb')
          · refine getD_set_true (hcl j oj hj ?_ e' he' hb')
            rwa [getD_set_ne false hj'] at hlj
        · have hz' : z ∈ l1 ++ y :: l2 := by
            simp only [List.mem_append, List.mem_cons] at hz ⊢
            rcases hz with hz | hz
            · exact .inl hz
            · exact .inr (.inr hz)
          obtain ⟨oz, hoz, _⟩ := hL z hz'
          have hzlt : z.i < ops.size := (Array.getElem?_eq_some_iff.1 hoz).1
          rcases hids _ hv with hv | ⟨_, hv⟩ | hv
          · exact hV z hz' hv
          · exact honce z hz (by rw [hyi] at hv; omega)
          · omega
        · rw [set_nx]; omega
        · rw [set_eq]; exact hg1
        · refine hQ D₂ ρ₂ w₂ V₂ a₂ h5 (hE'.trans h6) ?_ (fun i hi => ?_) (h9.trans (put_def _ _))
          · rw [set_nx] at h7; omega
          · rcases h8 i hi with hi | hi
            · rcases hids i hi with hi | ⟨_, hi⟩ | hi
              · exact .inl hi
              · exact .inr (by omega)
              · exact .inr (by omega)
            · exact .inr hi
end
end Go.Proofs.Hz
