/-
  Regions whose order is drawn: what the abstract evaluator says of them the machine does, in whatever order it draws (last part).
  Conditions: none (lemmas over any program).
-/
import Derived.Test.YtpidaficnfaedaaHzS2
namespace Go.Proofs.Hz
open Go.RowKit

section
variable {P : Program} {D D' : Nat → Prop} {ρ ρ' : Ren} {w w' : World} {V V' : Ids} {s s' s1 : St} {a : Act} {rd : Option Nat} {n nt nx0 : Nat} {K : Act → World → Prop} {Q : Exit → Act → World → Prop}
  {F : Nat → Option AFn} {KK : Nat → List AV → Option AV} {ex : AC → St → Option (AE × St)} {ops : Array Oper}

theorem drw_step (hC : CallOk P (callF F KK ex)) (h : SRel C0 D w V ρ nt s a) {o : Oper} {y : ADr} (hc : compOper P nt ops o = some y.o) (hfree : y.k = 1 → ¬ V (nx0 + y.i)) (hlt : nx0 + y.i < s.nx) {hist hist1 : List (T Blk)} {v : AV}
    (he : drwStep F KK ex nx0 hist y s = some (v, s1, hist1))
    (hK : ∀ val w' D' ρ' V', SRel C0 D' w' V' ρ' nt (s1.set o.dst v) (a.put o.dst val) → Ext D ρ w V D' ρ' w' V' → s.nx ≤ s1.nx → (∀ i, V' i → V i ∨ (y.k = 1 ∧ i = nx0 + y.i) ∨ s.nx ≤ i) → K (a.put o.dst val) w') :
    if Region.wanted o (yielded ops a.tmps) = true then o.wpIn (FW rd) n P a w K Q else (∀ f, o.about P w a.eval = some f → (FW rd).fn f) ∧ K (a.put o.dst undef) w := by
  obtain ⟨h1, h2, h3, h4⟩ := compOper_spec hc
  have hn : ¬ V s.nx := fun h' => Nat.lt_irrefl _ (h.top _ h')
  rw [wanted_ok h2 h.regs]
  have gen : ∀ (val : Value) (w' : World) (D' : Nat → Prop) (ρ' : Ren) (V' : Ids), Post D ρ w V s s1 v val w' D' ρ' V' → s1.r = s.r → K (a.put o.dst val) w' := fun val w' D' ρ' V' hp hr => by
    have m := Mv.step h hp hr h4
    exact hK _ _ _ _ _ m.rel hp.ext hp.nx fun i hi => (hp.ids i hi).imp id fun hi => .inr hi.1
  unfold drwStep at he
  split at he
  · rename_i hw
    rw [if_pos hw]
    rcases kinds y.k with hk | hk | hk | hk
    · simp only [hk] at he
      split at he
      · rename_i hq
        cases ho : opA s y.o.op with
        | none => simp [ho] at he
        | some p =>
          obtain ⟨u, s2⟩ := p
          have := quiet_same hq ho
          subst this
          simp only [ho, Option.some.injEq, Prod.mk.injEq] at he
          obtain ⟨rfl, rfl, rfl⟩ := he
          exact op_step h.heap h.db h.regs hn h1 ho gen
      · split at he
        · rename_i f as hop
          split at he
          · rename_i g first caps hf
            split at he
            · rename_i fn hF
              split at he
              · rename_i hp
                split at he
                · rename_i xs hx
                  split at he
                  · rename_i r hr
                    simp only [Option.some.injEq, Prod.mk.injEq] at he
                    obtain ⟨rfl, rfl, rfl⟩ := he
                    simp only [Bool.and_eq_true] at hp
                    have hst : stepA F KK ex y.o.op s = some (r, s) := by
                      rw [hop]
                      simp only [stepA, hf, callV, callF, hF, hp.1, if_true, hx, hr]
                      rw [if_pos (by rw [hp.2]; simp)]
                    exact step_ok hC h.heap h.db h.regs h.top h1 hst gen
                  · cases he
                · cases he
              · cases he
            · cases he
          · cases he
        · cases he
    · simp only [hk] at he
      split at he
      · rename_i hnew
        simp only [Bool.and_eq_true] at hnew
        cases ho : opA { s with nx := nx0 + y.i } y.o.op with
        | none => simp [ho] at he
        | some p =>
          obtain ⟨u, s2⟩ := p
          simp only [ho, Option.some.injEq, Prod.mk.injEq] at he
          obtain ⟨rfl, rfl, rfl⟩ := he
          obtain ⟨b, rfl, _⟩ := new_blk hnew.1 ho
          refine op_step (s := { s with nx := nx0 + y.i }) h.heap h.db (fun t => h.regs t) (hfree hk) h1 ho fun val w' D' ρ' V' hp hr => ?_
          have hids : ∀ i, V' i → V i ∨ i = nx0 + y.i := fun i hi => by
            rcases hp.ids i hi with hi | ⟨h5, h6⟩
            · exact .inl hi
            · simp only [St.new] at h5 h6; exact .inr (by omega)
          refine hK val w' D' ρ' V' ⟨by rw [put_size]; exact h.size, regs_put (s := { s with h := s.h.put (nx0 + y.i) (some b) }) (fun e he => Nat.lt_of_lt_of_le (h4 e he) h.size) (fun t => regs_ext hp.ext h.db h.regs t) hp.val, by rw [set_h]; exact hp.heap, fun i hi => ?_, hp.db⟩ hp.ext (Nat.le_refl _) fun i hi => (hids i hi).imp id fun e => .inl ⟨hk, e⟩
          rw [set_nx]
          rcases hids i hi with hi | rfl
          · exact h.top i hi
          · exact hlt
      · cases he
    · have key : ∀ {q : AV × St}, stepA F KK ex y.o.op s = some q → q.1 = v → q.2 = s1 → o.wpIn (FW rd) n P a w K Q := fun {q} hq e1 e2 => by
        obtain ⟨u, s2⟩ := q
        simp only at e1 e2
        subst e1; subst e2
        exact step_ok hC h.heap h.db h.regs h.top h1 hq gen
      rcases hk with hk | hk
      · simp only [hk] at he
        cases ho : stepA F KK ex y.o.op s with
        | none => simp [ho] at he
        | some p =>
          simp only [ho, Option.some.injEq, Prod.mk.injEq] at he
          exact key ho he.1 he.2.1
      · simp only [hk] at he
        split at he
        · cases ho : stepA F KK ex y.o.op s with
          | none => simp [ho] at he
          | some p =>
            simp only [ho, Option.some.injEq, Prod.mk.injEq] at he
            exact key ho he.1 he.2.1
        · cases he
    · obtain ⟨k, hk'⟩ : ∃ k, y.k = k + 4 := ⟨y.k - 4, by omega⟩
      simp only [hk'] at he
      split at he
      · rename_i hr
        cases ho : opA s y.o.op with
        | none => simp [ho] at he
        | some p =>
          obtain ⟨u, s2⟩ := p
          have := read_ok hr ho
          subst this
          simp only [ho] at he
          split at he
          · simp only [Option.some.injEq, Prod.mk.injEq] at he
            obtain ⟨rfl, rfl, rfl⟩ := he
            exact op_step h.heap h.db h.regs hn h1 ho gen
          · cases he
      · cases he
  · rename_i hw
    rw [if_neg hw]
    refine ⟨fun f _ => trivial, ?_⟩
    simp only [Option.some.injEq, Prod.mk.injEq] at he
    obtain ⟨rfl, rfl, _⟩ := he
    exact gen undef w D ρ V ⟨undefR, h.heap, Ext.refl _ _ _ _, Nat.le_refl _, fun _ h => .inl h, h.db⟩ rfl

theorem drw_any (hC : CallOk P (callF F KK ex)) {ms : List Nat} (hms : ∀ j x, (ms.getD j 0).testBit x = true → Anc ops x j) (hE : okEdges 0 ops.toList = true) {e : St} :
    ∀ (fuel : Nat) (L : List ADr) (listed : Array Bool) (D : Nat → Prop) (ρ : Ren) (w : World) (V : Ids) (s : St) (a : Act) (hist : List (T Blk)), L.length ≤ fuel → listed.size = ops.size → OkL ops ms L →
      (∀ y ∈ L, ∃ o, ops[y.i]? = some o ∧ compOper P nt ops o = some y.o) → (∀ i, listed.getD i true = false ↔ ∃ y ∈ L, y.i = i) →
      (∀ j o, ops[j]? = some o → listed.getD j false = true → ∀ e ∈ o.after, Region.binds .any e = true → listed.getD e.on false = true) →
      SRel C0 D w V ρ nt s a → (∀ y ∈ L, ¬ V (nx0 + y.i)) → nx0 + ops.size ≤ s.nx → Grow s hist → drwA F KK ex nx0 L s hist = some e →
      (∀ D' ρ' w' V' a', SRel C0 D' w' V' ρ' nt e a' → Ext D ρ w V D' ρ' w' V' → s.nx ≤ e.nx → (∀ i, V' i → V i ∨ nx0 ≤ i) → a'.defers = a.defers → Q .normal a' w') →
      wpAnyIn (FW rd) n P .any ops Q fuel listed a w := by
  have done : ∀ (fuel : Nat) (listed : Array Bool) (a : Act) (w : World), (∀ i, listed.getD i true = false → False) → Q .normal a w → wpAnyIn (FW rd) n P .any ops Q fuel listed a w := fun fuel listed a w hno hQ => by
    refine wpAnyIn_done ?_ hQ fuel
    refine List.eq_nil_iff_forall_not_mem.2 fun i hi => ?_
    exact hno i (mem_ready.1 hi).1
  intro fuel
  induction fuel with
  | zero =>
    intro L listed D ρ w V s a hist hlen _ _ _ hiff _ h _ _ _ he hQ
    have : L = [] := List.length_eq_zero_iff.1 (by omega)
    subst this
    cases he
    exact done 0 listed a w (fun i hi => by obtain ⟨y, hy, _⟩ := (hiff i).1 hi; cases hy) (hQ _ _ _ _ _ h (Ext.refl _ _ _ _) (Nat.le_refl _) (fun _ h => .inl h) rfl)
  | succ fuel ih =>
    intro L listed D ρ w V s a hist hlen hsz hok hL hiff hcl h hV hnx hg he hQ
    cases hLe : L with
    | nil =>
      subst hLe
      cases he
      exact done _ listed a w (fun i hi => by obtain ⟨y, hy, _⟩ := (hiff i).1 hi; cases hy) (hQ _ _ _ _ _ h (Ext.refl _ _ _ _) (Nat.le_refl _) (fun _ h => .inl h) rfl)
    | cons y0 L0 =>
      refine ⟨fun h0 => absurd h0 (ready_ne hE hsz ((hiff y0.i).2 ⟨y0, by rw [hLe]; simp, rfl⟩)), fun i hi => ?_⟩
      clear hLe
      obtain ⟨hun, o, ho, hall⟩ := mem_ready.1 hi
      obtain ⟨y, hy, rfl⟩ := (hiff i).1 hun
      obtain ⟨l1, l2, rfl⟩ := List.append_of_mem hy
      have hnanc : ∀ x ∈ l1, ancB ms x.i y.i = false := fun x hx => by
        refine Bool.eq_false_iff.2 fun ha => ?_
        have h1 := anc_listed hcl (hms _ _ ha) fun o' ho' e' he' hb' => by
          rw [ho] at ho'; cases ho'; exact hall e' he' hb'
        have h2 := (getD_true.1 ((hiff x.i).2 ⟨x, by simp [hx], rfl⟩)).2
        rw [h1] at h2; cases h2
      have hpair : ∀ x ∈ l1, apartT x.o y.o = true ∧ okKinds x y = true := fun x hx => (hok.pair l1 y l2 rfl x hx).resolve_left fun ha => by rw [hnanc x hx] at ha; cases ha
      have hcount : 4 ≤ y.k → l1.countP (fun x => isW x.k) ≤ y.back := fun hk => by
        have := hok.back l1 y l2 rfl hk
        have ec : l1.countP (fun x => isW x.k && !ancB ms x.i y.i) = l1.countP (fun x => isW x.k) := List.countP_congr fun x hx => by simp [hnanc x hx]
        omega
      have hlt : y.i < ops.size := (Array.getElem?_eq_some_iff.1 ho).1
      obtain ⟨o', ho', hc⟩ := hL y (by simp)
      rw [ho] at ho'; cases ho'
      have hp := pull l1 s hist hg hpair hcount (fun _ => ⟨h.heap.lo _ (hV y (by simp)), by omega⟩) he
      generalize (l1.countP fun x => isW x.k) = c at hp
      simp only [drwA] at hp
      have hyi : (y.up c).i = y.i := rfl
      have hyo : (y.up c).o = y.o := rfl
      have hdst : (y.up c).o.dst = o.dst := (compOper_spec hc).2.2.1
      have hVy : (y.up c).k = 1 → ¬ V (nx0 + (y.up c).i) := fun _ => hV y (by simp)
      have hlty : nx0 + (y.up c).i < s.nx := by rw [hyi]; omega
      rw [← hyo] at hc
      generalize y.up c = z0 at hp hyi hyo hdst hVy hlty hc
      cases hst : drwStep F KK ex nx0 hist z0 s with
      | none => simp [hst] at hp
      | some p =>
        obtain ⟨v, s1, hist1⟩ := p
        simp only [hst] at hp
        have hg1 := grow_step hg hst
        simp only [wpOpIn, ho]
        refine drw_step hC h hc hVy hlty hst fun val w' D' ρ' V' hS hE' hn1 hids => ?_
        have hS : SRel C0 D' w' V' ρ' nt (s1.set z0.o.dst v) (a.put o.dst val) := by rw [hdst]; exact hS
        have honce := hok.once l1 y l2 rfl
        refine ih (l1 ++ l2) (listed.setIfInBounds y.i true) D' ρ' w' V' _ _ hist1 ?_ (by simpa using hsz) hok.rest (fun z hz => hL z ?_) (fun j => ?_) (fun j oj hj hlj e' he' hb' => ?_) hS (fun z hz hv => ?_) ?_ ?_ hp fun D₂ ρ₂ w₂ V₂ a₂ h5 h6 h7 h8 h9 => ?_
        · simp only [List.length_append, List.length_cons] at hlen ⊢; omega
        · simp only [List.mem_append, List.mem_cons] at hz ⊢
          rcases hz with hz | hz
          · exact .inl hz
          · exact .inr (.inr hz)
        · by_cases hj : y.i = j
          · subst hj
            constructor
            · intro hx
              have := (getD_true.1 hx).2
              simp [show y.i < listed.size by omega] at this
            · rintro ⟨z, hz, hzi⟩
              exact absurd hzi (honce z hz)
          · rw [getD_set_ne true hj, hiff j]
            constructor
            · rintro ⟨z, hz, rfl⟩
              refine ⟨z, ?_, rfl⟩
              simp only [List.mem_append, List.mem_cons] at hz ⊢
              rcases hz with hz | hz | hz
              · exact .inl hz
              · exact absurd (by rw [hz]) hj
              · exact .inr hz
            · rintro ⟨z, hz, rfl⟩
              refine ⟨z, ?_, rfl⟩
              simp only [List.mem_append, List.mem_cons] at hz ⊢
              rcases hz with hz | hz
              · exact .inl hz
              · exact .inr (.inr hz)
        · by_cases hj' : y.i = j
          · subst hj'
            rw [ho] at hj; cases hj
            exact getD_set_true (hall e' he' hb')
          · refine getD_set_true (hcl j oj hj ?_ e' he' hb')
            rwa [getD_set_ne false hj'] at hlj
        · have hz' : z ∈ l1 ++ y :: l2 := by
            simp only [List.mem_append, List.mem_cons] at hz ⊢
            rcases hz with hz | hz
            · exact .inl hz
            · exact .inr (.inr hz)
          obtain ⟨oz, hoz, _⟩ := hL z hz'
          have hzlt : z.i < ops.size := (Array.getElem?_eq_some_iff.1 hoz).1
          rcases hids _ hv with hv | ⟨_, hv⟩ | hv
          · exact hV z hz' hv
          · exact honce z hz (by rw [hyi] at hv; omega)
          · omega
        · rw [set_nx]; omega
        · rw [set_eq]; exact hg1
        · refine hQ D₂ ρ₂ w₂ V₂ a₂ h5 (hE'.trans h6) ?_ (fun i hi => ?_) (h9.trans (put_def _ _))
          · rw [set_nx] at h7; omega
          · rcases h8 i hi with hi | hi
            · rcases hids i hi with hi | ⟨_, hi⟩ | hi
              · exact .inl hi
              · exact .inr (by omega)
              · exact .inr (by omega)
            · exact .inr hi
end
end Go.Proofs.Hz
