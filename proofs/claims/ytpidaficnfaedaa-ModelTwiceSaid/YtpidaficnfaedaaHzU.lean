/-
  Code: what the abstract evaluator says of it the machine does.
  Conditions: none (lemmas over any program).
-/
import Derived.Test.YtpidaficnfaedaaHzT
namespace Go.Proofs.Hz
open Go.RowKit

def AE.toExit : AE → Exit
  | .nrm => .normal
  | .ext i => .exit i
  | .gto l => .goto l
  | .ret => .ret

theorem wpIn_loop_count {F : Fence} {n : Nat} {P : Program} {c : Code} {Q : Exit → Act → World → Prop} (I : Nat → Act → World → Prop) (zero : ∀ a w, ¬ I 0 a w)
    (round : ∀ k a w, I (k + 1) a w → c.wpIn F n P (Exit.then (fun a' w' => I k a' w') Q) a w) : ∀ k a w, I k a w → (Code.loop c).wpIn F n P Q a w := by
  intro k a w hI b it cs hro hb hr
  have key : ∀ k a w, I k a w → ∃ e a' w', Q e a' w' ∧ ArrivesIn (Machine.fenced P F) P (lone (b.atR a (.code c :: .inLoop c :: it)) cs w) b it cs e a' w' := by
    intro k
    induction k with
    | zero => intro a w h; exact absurd h (zero a w)
    | succ k ih =>
      intro a w hI
      obtain ⟨e, a1, w1, hq, harr⟩ := round k a w hI b (.inLoop c :: it) cs hro hb hr
      by_cases hn : e = .normal
      · subst hn
        obtain ⟨e2, a2, w2, hq2, harr2⟩ := ih a1 w1 hq
        exact ⟨e2, a2, w2, hq2, .of_steps (StepsIn.trans harr (.one (fenced_calm hb hr rfl) stepR_inLoop)) harr2⟩
      · have hq' : Q e a1 w1 := by cases e <;> first | exact absurd rfl hn | exact hq
        exact ⟨e, a1, w1, hq', .pass (x := .inLoop c) rfl (fun _ _ => .inl hn) harr⟩
  obtain ⟨e, a', w', hq, harr⟩ := key k a w hI
  exact ⟨e, a', w', hq, .of_steps (.one (fenced_calm hb hr rfl) stepR_loop) harr⟩

section
variable {P : Program} {D D' : Nat → Prop} {ρ ρ' : Ren} {w w' : World} {V V' : Ids} {s s' s1 : St} {a : Act} {rd : Option Nat} {m nt : Nat} {Q : Exit → Act → World → Prop}
  {F : Nat → Option AFn} {KK : Nat → List AV → Option AV} {pu : Nat → Nat}

theorem SRel.drawn (h : SRel C0 D w V ρ nt s a) (k : Nat) : SRel C0 D { w with drawn := k } V ρ nt s a ∧ Ext D ρ w V D ρ { w with drawn := k } V := by
  have e : Ext D ρ w V D ρ { w with drawn := k } V := ⟨fun _ h => h, rfl, rfl, rfl, Nat.le_refl _, fun _ h => h, fun _ _ _ => rfl, fun _ real _ _ h => ⟨real, h, rfl⟩, fun _ _ _ h => h, fun id _ h => .inl ⟨id, h⟩, fun _ h => .inl h⟩
  refine ⟨⟨h.size, regs_ext e h.db h.regs, ⟨h.heap.lo, h.heap.dom, h.heap.inj, fun id k hk => ?_⟩, h.top, h.db⟩, e⟩
  obtain ⟨b, hb, hB⟩ := h.heap.bk id k hk
  exact ⟨b, hb, hB.ext e h.db rfl (fun h => h)⟩

theorem drawn_ok {n : Nat} (hC : CallOk P (callF F KK (exA F KK n))) {id : Nat} {ops : Array Oper} {ac : AC} (hc : compDrw P pu nt ops = some ac) (h : SRel C0 D w V ρ nt s a) {e : AE} (he : exA F KK (n + 1) ac s = some (e, s1))
    (hQ : ∀ D' ρ' w' V' a', Mv nt D ρ w V s a D' ρ' w' V' s1 a' → Q e.toExit a' w') : (Code.region id ops true).wpIn (FW rd) m P Q a w := by
  unfold compDrw at hc
  split at hc
  · cases hc
  · rename_i as has
    split at hc
    · cases hc
    · rename_i l hl
      split at hc
      · rename_i hok
        cases hc
        simp only [Bool.and_eq_true] at hok
        obtain ⟨hmode, hok⟩ := hok
        simp only [okDrw, Bool.and_eq_true, decide_eq_true_eq, List.all_eq_true, List.any_eq_true, List.mem_range, beq_iff_eq] at hok
        obtain ⟨h1, h2, h3, h4, h5, h6⟩ := hok
        simp only [exA] at he
        split at he
        · rename_i s2 hd
          cases he
          refine wpIn_region_draw fun t => ?_
          simp only [Region.schedule, hmode, if_true]
          refine wpAnyIn_sound ops.size t _ _ _ ?_
          obtain ⟨hS, hE⟩ := h.drawn (w.drawn + 1)
          have hLo : ∀ y ∈ l, ∃ o, ops[y.i]? = some o ∧ compOper P nt ops o = some y.o := fun y hy => by
            obtain ⟨q1, q2⟩ := mapO_spec hl
            obtain ⟨j, hj⟩ := List.mem_iff_getElem?.1 hy
            have hlt : j < (planL (masks ops.toList []) (as.map (kindA pu))).length := by rw [q1]; exact (List.getElem?_eq_some_iff.1 hj).1
            have := q2 j _ y (List.getElem?_eq_getElem hlt) hj
            unfold mkDr at this
            split at this
            · rename_i o ho
              simp only [Option.map_eq_some_iff] at this
              obtain ⟨ao, hao, rfl⟩ := this
              exact ⟨o, ho, hao⟩
            · cases this
          have hS2 : SRel C0 D { w with drawn := w.drawn + 1 } V ρ nt { s with nx := s.nx + ops.size } a := ⟨hS.size, fun t => hS.regs t, hS.heap, fun i hi => by have := h.top i hi; show i < s.nx + ops.size; omega, hS.db⟩
          refine drw_any (nx0 := s.nx) hC (masks_spec (acc := []) (fun j x hx => by simp at hx) (fun j o ho => by simpa using ho)) h4 ops.size l _ D ρ _ V { s with nx := s.nx + ops.size } a [s.h] h5 (by simp) ⟨okPairs_spec h1, fun l1 y l2 e hk => by simpa using okBack_spec h2 l1 y l2 e hk, okOnce_spec h3⟩ hLo (fun i => ?_) (fun j o ho hj => ?_) hS2 (fun y hy hv => ?_) (Nat.le_refl _) ⟨s.h, [], rfl, fun _ _ h => h⟩ hd fun D' ρ' w' V' a' q1 q2 q3 q4 q5 => ?_
          · constructor
            · intro hi
              have hlt : i < ops.size := by simpa using (getD_true.1 hi).1
              exact h6 i hlt
            · rintro ⟨y, hy, rfl⟩
              obtain ⟨o, ho, _⟩ := hLo y hy
              have hlt : y.i < ops.size := (Array.getElem?_eq_some_iff.1 ho).1
              rw [getD_true]
              simp [hlt]
          · have hlt : j < ops.size := (Array.getElem?_eq_some_iff.1 ho).1
            simp [hlt] at hj
          · have := h.top _ hv
            omega
          · exact hQ D' ρ' w' V' a' ⟨q1, hE.trans q2, by simp only at q3; omega, q4, q5⟩
        · cases he
      · cases hc

/-- The abstract code of functions is the code's. -/
def FOk (P : Program) (pu : Nat → Nat) (F : Nat → Option AFn) : Prop := ∀ f af, F f = some af → compF P pu f = some af
/-- What is known of calls that work for themselves. -/
def KOk1 (P : Program) (f : Nat) (k : List AV → Option AV) : Prop :=
  ∀ {args : List AV} {r : AV} {D : Nat → Prop} {w : World} {vals : List Value}, k args = some r → (∀ b, D b → b < w.heap.size) → RL D w Ids.none Ren.none args vals → IsFn P f ∧
    ∀ n, CallsIn (FW none) n P f vals.toArray w fun e w' => ∃ val D', e = .returned val ∧ R D' w' Ids.none Ren.none r val ∧ Ext D Ren.none w Ids.none D' Ren.none w' Ids.none ∧ ∀ b, D' b → b < w'.heap.size
def KOk (P : Program) (KK : Nat → List AV → Option AV) : Prop := ∀ f, KOk1 P f (KK f)

theorem ex_ok : ∀ (n : Nat), (∀ k, k < n → CallOk P (callF F KK (exA F KK k))) → ∀ {code : Code} {ac : AC}, compC P pu nt code = some ac → ∀ {D : Nat → Prop} {ρ : Ren} {w : World} {V : Ids} {s s1 : St} {a : Act} {e : AE} {Q : Exit → Act → World → Prop},
    SRel C0 D w V ρ nt s a → exA F KK n ac s = some (e, s1) → (∀ D' ρ' w' V' a', Mv nt D ρ w V s a D' ρ' w' V' s1 a' → Q e.toExit a' w') → code.wpIn (FW rd) m P Q a w := by
  intro n
  induction n using Nat.strongRecOn with
  | _ n ih =>
    intro hC code ac hc D ρ w V s s1 a e Q h he hQ
    cases n with
    | zero => cases he
    | succ n =>
      have IH := fun {code : Code} {ac : AC} => ih n (Nat.lt_succ_self n) (fun k hk => hC k (Nat.lt_succ_of_lt hk)) (code := code) (ac := ac)
      have hCn : CallOk P (callF F KK (exA F KK n)) := hC n (Nat.lt_succ_self n)
      cases code with
      | skip => cases hc; cases he; exact wpIn_skip (hQ _ _ _ _ _ (Mv.refl h))
      | region id ops draw =>
        simp only [compC] at hc
        cases draw with
        | true => simp only [if_true] at hc; exact drawn_ok hCn hc h he hQ
        | false =>
          simp only [Bool.false_eq_true, if_false, Option.map_eq_some_iff] at hc
          obtain ⟨aos, hm, rfl⟩ := hc
          simp only [exA] at he
          split at he
          · rename_i s2 hr
            cases he
            exact region_ok hCn hm h hr hQ
          · cases he
      | seq x y =>
        simp only [compC] at hc
        split at hc
        · rename_i ax ay hx hy
          cases hc
          simp only [exA] at he
          refine wpIn_seq ?_
          split at he
          · rename_i s2 h1
            refine IH hx h h1 fun D' ρ' w' V' a' m1 => ?_
            exact IH hy m1.rel he fun D₂ ρ₂ w₂ V₂ a₂ m2 => hQ _ _ _ _ _ (m1.trans m2)
          · rename_i hne
            refine IH hx h he fun D' ρ' w' V' a' m1 => ?_
            have := hQ _ _ _ _ _ m1
            cases e with
            | nrm => exact absurd he (hne s1)
            | ext i => exact this
            | gto l => exact this
            | ret => exact this
        · cases hc
      | cond c x y =>
        simp only [compC] at hc
        split at hc
        · rename_i ac ax ay hcc hx hy
          cases hc
          simp only [exA] at he
          have hR := ev_ok h.regs hcc
          split at he
          · rename_i t ht
            rw [ht] at hR
            generalize hv : a.eval c = v at hR
            cases hR
            refine wpIn_cond hv ?_
            cases t with
            | true => exact IH hx h (by simpa using he) hQ
            | false => exact IH hy h (by simpa using he) hQ
          · cases he
        · cases hc
      | block id c =>
        simp only [compC, Option.map_eq_some_iff] at hc
        obtain ⟨ax, hx, rfl⟩ := hc
        simp only [exA] at he
        refine wpIn_block ?_
        split at he
        · rename_i j s2 h1
          refine IH hx h h1 fun D' ρ' w' V' a' m1 => ?_
          simp only [AE.toExit, Exit.inBlock]
          split at he
          · rename_i hj
            cases he
            rw [if_pos hj]
            exact hQ _ _ _ _ _ m1
          · rename_i hj
            cases he
            rw [if_neg hj]
            exact hQ _ _ _ _ _ m1
        · rename_i hne
          refine IH hx h he fun D' ρ' w' V' a' m1 => ?_
          have := hQ _ _ _ _ _ m1
          cases e with
          | nrm => exact this
          | ext i => exact absurd he (hne i s1)
          | gto l => exact this
          | ret => exact this
      | loop c =>
        simp only [compC, Option.map_eq_some_iff] at hc
        obtain ⟨ax, hx, rfl⟩ := hc
        refine wpIn_loop_count (fun k a' w' => k ≤ n + 1 ∧ ∃ D' ρ' V' s', Mv nt D ρ w V s a D' ρ' w' V' s' a' ∧ exA F KK k (.loop ax) s' = some (e, s1)) (fun a' w' hI => ?_) (fun k a' w' hI => ?_) (n + 1) a w ⟨Nat.le_refl _, D, ρ, V, s, Mv.refl h, he⟩
        · obtain ⟨_, _, _, _, _, _, h0⟩ := hI
          cases h0
        · obtain ⟨hk, D', ρ', V', s', m1, h1⟩ := hI
          simp only [exA] at h1
          have IHk := fun {e : AE} {s2 : St} {Q : Exit → Act → World → Prop} => ih k (by omega) (fun j hj => hC j (by omega)) hx m1.rel (s1 := s2) (e := e) (Q := Q)
          split at h1
          · rename_i s2 h2
            exact IHk h2 fun D₂ ρ₂ w₂ V₂ a₂ m2 => ⟨by omega, D₂, ρ₂, V₂, s2, m1.trans m2, h1⟩
          · rename_i hne
            refine IHk h1 fun D₂ ρ₂ w₂ V₂ a₂ m2 => ?_
            have := hQ _ _ _ _ _ (m1.trans m2)
            cases e with
            | nrm => exact absurd h1 (hne s1)
            | ext i => exact this
            | gto l => exact this
            | ret => exact this
      | rangeFunc f ps x y => cases hc
      | exit id => cases hc; cases he; exact wpIn_exit (hQ _ _ _ _ _ (Mv.refl h))
      | scope c => cases hc
      | label l => cases hc
      | goto l => cases hc
      | ret => cases hc; cases he; exact wpIn_ret (hQ _ _ _ _ _ (Mv.refl h))
      | refuse r => cases hc
end
end Go.Proofs.Hz
