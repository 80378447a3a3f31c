/-
  Regions whose order is drawn: what the abstract evaluator says of them the machine does, in whatever order it draws.
  Conditions: none (lemmas over any program).
-/
import Derived.Test.YtpidaficnfaedaaHzS
namespace Go.Proofs.Hz
open Go.RowKit

/-- One operation is ahead of another. -/
inductive Anc (ops : Array Oper) : Nat → Nat → Prop
  | one {i j : Nat} {o : Oper} {e : Edge} (ho : ops[j]? = some o) (he : e ∈ o.after) (hb : Region.binds .any e = true) (hi : e.on = i) : Anc ops i j
  | more {i j k : Nat} (h : Anc ops i k) (h' : Anc ops k j) : Anc ops i j

theorem edgeM_spec {ops : Array Oper} {acc : List Nat} (hacc : ∀ j x, (acc.getD j 0).testBit x = true → Anc ops x j) {j : Nat} {o : Oper} (ho : ops[j]? = some o) :
    ∀ {es : List Edge}, (∀ e ∈ es, e ∈ o.after) → ∀ x, (edgeM acc es).testBit x = true → Anc ops x j
  | [], _, x, h => by simp [edgeM] at h
  | e :: es, hes, x, h => by
    have ih := edgeM_spec hacc ho (es := es) fun e he => hes e (by simp [he])
    unfold edgeM at h
    split at h
    · rename_i hb
      simp only [Nat.testBit_or, Bool.or_eq_true, Nat.testBit_two_pow, decide_eq_true_eq] at h
      have h1 : Anc ops e.on j := .one ho (hes e (by simp)) hb rfl
      rcases h with h | h | h
      · exact ih x h
      · exact h ▸ h1
      · exact .more (hacc _ _ h) h1
    · exact ih x h
theorem masks_spec {ops : Array Oper} : ∀ {l : List Oper} {acc : List Nat}, (∀ j x, (acc.getD j 0).testBit x = true → Anc ops x j) → (∀ j o, l[j]? = some o → ops[acc.length + j]? = some o) → ∀ j x, ((masks l acc).getD j 0).testBit x = true → Anc ops x j
  | [], acc, h, _, j, x, hx => h j x hx
  | o :: l, acc, h, hl, j, x, hx => by
    refine masks_spec (l := l) (acc := acc ++ [edgeM acc o.after.toList]) (fun j x hx => ?_) (fun j o' ho => ?_) j x hx
    · by_cases hj : j < acc.length
      · refine h j x ?_
        simpa [List.getD_eq_getElem?_getD, List.getElem?_append_left hj] using hx
      · by_cases he : j = acc.length
        · subst he
          refine edgeM_spec h (by simpa using hl 0 o rfl) (es := o.after.toList) (fun e he => by simpa using he) x ?_
          simpa [List.getD_eq_getElem?_getD] using hx
        · have : (acc ++ [edgeM acc o.after.toList])[j]? = none := List.getElem?_eq_none (by simp; omega)
          simp [List.getD_eq_getElem?_getD, this] at hx
    · have := hl (j + 1) o' (by simpa using ho)
      rwa [List.length_append, List.length_singleton, show acc.length + 1 + j = acc.length + (j + 1) from by omega]

/-- What is left to do, in the order that is worked in. -/
structure OkL (ops : Array Oper) (ms : List Nat) (L : List ADr) : Prop where
  pair : ∀ l1 y l2, L = l1 ++ y :: l2 → ∀ x ∈ l1, ancB ms x.i y.i = true ∨ (apartT x.o y.o = true ∧ okKinds x y = true)
  back : ∀ l1 y l2, L = l1 ++ y :: l2 → 4 ≤ y.k → l1.countP (fun x => isW x.k && !ancB ms x.i y.i) ≤ y.back
  once : ∀ l1 y l2, L = l1 ++ y :: l2 → ∀ x ∈ l1 ++ l2, x.i ≠ y.i

theorem append_split {α : Type} {p q l1 l2 : List α} {j y : α} (h : p ++ q = l1 ++ y :: l2) : (∃ p2, p = l1 ++ y :: p2 ∧ l2 = p2 ++ q) ∨ ∃ q1, l1 = p ++ q1 ∧ q = q1 ++ y :: l2 := by
  rcases List.append_eq_append_iff.1 h with ⟨c, h1, h2⟩ | ⟨c, h1, h2⟩
  · exact .inr ⟨c, h1, h2⟩
  · cases c with
    | nil => exact .inr ⟨[], by simpa using h1.symm, by simpa using h2.symm⟩
    | cons z c =>
      simp only [List.cons_append, List.cons.injEq] at h2
      obtain ⟨rfl, rfl⟩ := h2
      exact .inl ⟨c, h1, rfl⟩
theorem OkL.rest {ops : Array Oper} {ms : List Nat} {p q : List ADr} {j : ADr} (h : OkL ops ms (p ++ j :: q)) : OkL ops ms (p ++ q) where
  pair := fun l1 y l2 e x hx => by
    rcases append_split (j := j) e with ⟨p2, rfl, rfl⟩ | ⟨q1, rfl, rfl⟩
    · exact h.pair l1 y (p2 ++ j :: q) (by simp) x hx
    · refine h.pair (p ++ j :: q1) y l2 (by simp) x ?_
      simp only [List.mem_append, List.mem_cons] at hx ⊢
      rcases hx with hx | hx
      · exact .inl hx
      · exact .inr (.inr hx)
  back := fun l1 y l2 e hk => by
    rcases append_split (j := j) e with ⟨p2, rfl, rfl⟩ | ⟨q1, rfl, rfl⟩
    · exact h.back l1 y (p2 ++ j :: q) (by simp) hk
    · have := h.back (p ++ j :: q1) y l2 (by simp) hk
      simp only [List.countP_append, List.countP_cons] at this ⊢
      omega
  once := fun l1 y l2 e x hx => by
    rcases append_split (j := j) e with ⟨p2, rfl, rfl⟩ | ⟨q1, rfl, rfl⟩
    · refine h.once l1 y (p2 ++ j :: q) (by simp) x ?_
      simp only [List.mem_append, List.mem_cons] at hx ⊢
      rcases hx with hx | hx | hx
      · exact .inl hx
      · exact .inr (.inl hx)
      · exact .inr (.inr (.inr hx))
    · refine h.once (p ++ j :: q1) y l2 (by simp) x ?_
      simp only [List.mem_append, List.mem_cons] at hx ⊢
      rcases hx with (hx | hx) | hx
      · exact .inl (.inl hx)
      · exact .inl (.inr (.inr hx))
      · exact .inr hx

theorem okPairs_spec {ms : List Nat} : ∀ {L : List ADr}, okPairs ms L = true → ∀ l1 y l2, L = l1 ++ y :: l2 → ∀ x ∈ l1, ancB ms x.i y.i = true ∨ (apartT x.o y.o = true ∧ okKinds x y = true)
  | [], _, l1, y, l2, e, _, _ => by cases l1 <;> cases e
  | z :: L, h, l1, y, l2, e, x, hx => by
    simp only [okPairs, Bool.and_eq_true, List.all_eq_true, Bool.or_eq_true] at h
    cases l1 with
    | nil => cases hx
    | cons z' l1 =>
      simp only [List.cons_append, List.cons.injEq] at e
      obtain ⟨rfl, rfl⟩ := e
      rcases List.mem_cons.1 hx with rfl | hx
      · exact h.1 y (by simp)
      · exact okPairs_spec h.2 l1 y l2 rfl x hx
theorem okBack_spec {ms : List Nat} : ∀ {L pre : List ADr}, okBack ms pre L = true → ∀ l1 y l2, L = l1 ++ y :: l2 → 4 ≤ y.k → (l1.countP fun x => isW x.k && !ancB ms x.i y.i) + (pre.countP fun x => isW x.k && !ancB ms x.i y.i) ≤ y.back
  | [], _, _, l1, y, l2, e, _ => by cases l1 <;> cases e
  | z :: L, pre, h, l1, y, l2, e, hk => by
    simp only [okBack, Bool.and_eq_true, Bool.or_eq_true, decide_eq_true_eq] at h
    cases l1 with
    | nil =>
      simp only [List.nil_append, List.cons.injEq] at e
      obtain ⟨rfl, rfl⟩ := e
      simp only [List.countP_nil, Nat.zero_add]
      rcases h.1 with h1 | h1
      · omega
      · exact h1
    | cons z' l1 =>
      simp only [List.cons_append, List.cons.injEq] at e
      obtain ⟨rfl, rfl⟩ := e
      have := okBack_spec h.2 l1 y l2 rfl hk
      rw [List.countP_cons] at this ⊢
      omega
theorem okOnce_spec : ∀ {L : List ADr}, okOnce L = true → ∀ l1 y l2, L = l1 ++ y :: l2 → ∀ x ∈ l1 ++ l2, x.i ≠ y.i
  | [], _, l1, y, l2, e, _, _ => by cases l1 <;> cases e
  | z :: L, h, l1, y, l2, e, x, hx => by
    simp only [okOnce, Bool.and_eq_true, List.all_eq_true, bne_iff_ne, ne_eq] at h
    cases l1 with
    | nil =>
      simp only [List.nil_append, List.cons.injEq] at e
      obtain ⟨rfl, rfl⟩ := e
      exact h.1 x (by simpa using hx)
    | cons z' l1 =>
      simp only [List.cons_append, List.cons.injEq] at e
      obtain ⟨rfl, rfl⟩ := e
      simp only [List.cons_append, List.mem_cons] at hx
      rcases hx with rfl | hx
      · exact fun he => h.1 y (by simp) he.symm
      · exact okOnce_spec h.2 l1 y l2 rfl x hx
theorem okEdges_spec : ∀ {l : List Oper} {i : Nat}, okEdges i l = true → ∀ j o, l[j]? = some o → ∀ e ∈ o.after, Region.binds .any e = true → e.on < i + j
  | [], _, _, j, o, h, _, _, _ => by simp at h
  | o' :: l, i, h, j, o, ho, e, he, hb => by
    simp only [okEdges, Bool.and_eq_true, List.all_eq_true, Bool.or_eq_true, Bool.not_eq_true', decide_eq_true_eq] at h
    cases j with
    | zero =>
      simp only [List.getElem?_cons_zero, Option.some.injEq] at ho
      subst ho
      rcases h.1 e (by simpa using he) with h1 | h1
      · rw [hb] at h1; cases h1
      · simpa using h1
    | succ j =>
      have := okEdges_spec h.2 j o (by simpa using ho) e he hb
      omega

theorem getD_true {l : Array Bool} {i : Nat} : l.getD i true = false ↔ i < l.size ∧ l.getD i false = false := by
  rcases Nat.lt_or_ge i l.size with h | h
  · simp [h]
  · simp [Array.getElem?_eq_none h]; omega

/-- As long as something is left, something may come up. -/
theorem ready_ne {ops : Array Oper} (he : okEdges 0 ops.toList = true) {listed : Array Bool} (hs : listed.size = ops.size) {i : Nat} (hi : listed.getD i true = false) : Region.ready .any ops listed ≠ [] := by
  induction i using Nat.strongRecOn with
  | _ i ih =>
    have hlt : i < listed.size := (getD_true.1 hi).1
    have hop : ∃ o, ops[i]? = some o := ⟨_, Array.getElem?_eq_getElem (by omega)⟩
    obtain ⟨o, ho⟩ := hop
    by_cases hall : ∀ e ∈ o.after, Region.binds .any e = true → listed.getD e.on false = true
    · intro hn
      have : i ∈ Region.ready .any ops listed := mem_ready.2 ⟨hi, o, ho, hall⟩
      rw [hn] at this; cases this
    · obtain ⟨e, hn⟩ := Classical.not_forall.1 hall
      obtain ⟨h1, hn⟩ := Classical.not_forall.1 hn
      obtain ⟨h2, hn⟩ := Classical.not_forall.1 hn
      have hlt2 : e.on < i := by simpa using okEdges_spec he i o (by simpa using ho) e h1 h2
      exact ih e.on hlt2 (getD_true.2 ⟨by omega, by simpa using hn⟩)

/-- Whatever is ahead of one that may come up has been. -/
theorem anc_listed {ops : Array Oper} {listed : Array Bool} (hcl : ∀ j o, ops[j]? = some o → listed.getD j false = true → ∀ e ∈ o.after, Region.binds .any e = true → listed.getD e.on false = true) {i j : Nat} (h : Anc ops i j) :
    (∀ o, ops[j]? = some o → ∀ e ∈ o.after, Region.binds .any e = true → listed.getD e.on false = true) → listed.getD i false = true := by
  induction h with
  | one ho he hb hi => intro hj; rw [← hi]; exact hj _ ho _ he hb
  | more h h' ih ih' => intro hj; exact ih fun o ho e he hb => hcl _ o ho (ih' hj) e he hb
end Go.Proofs.Hz
