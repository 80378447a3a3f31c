/-
  Calls: what the abstract evaluator says of a function's call the machine does.
  Conditions: none (lemmas over any program).
-/
import Derived.Test.YtpidaficnfaedaaHzU
namespace Go.Proofs.Hz
open Go.RowKit

theorem inits_get : ∀ (args : List AV) (i : Nat) (t : T AV) (k : Nat), (inits i args t).get k = if i ≤ k ∧ k < i + args.length then args[k - i]? else t.get k
  | [], i, t, k => by
    rw [if_neg (by simp; try omega)]; rfl
  | x :: xs, i, t, k => by
    unfold inits
    rw [inits_get xs (i + 1) _ k, T.get_put]
    by_cases h : i = k
    · subst h
      rw [if_neg (by omega), if_pos rfl, if_pos (by simp)]
      simp
    · rw [if_neg h]
      by_cases h2 : i + 1 ≤ k ∧ k < i + 1 + xs.length
      · rw [if_pos h2, if_pos (by simp; omega), show k - i = (k - (i + 1)) + 1 from by omega]
        simp
      · rw [if_neg h2, if_neg (by simp; omega)]

section
variable {P : Program} {D D' : Nat → Prop} {ρ ρ' : Ren} {w w' : World} {V V' : Ids} {s s' s1 : St} {a : Act} {rd : Option Nat} {m nt : Nat}
  {F : Nat → Option AFn} {KK : Nat → List AV → Option AV} {pu : Nat → Nat}

theorem inits_regs {args : List AV} {vals : List Value} (h : RL D w V ρ args vals) (k : Nat) (h' : T Blk) (n : Nat) :
    Regs D w V ρ { r := inits 0 args .nil, h := h', nx := n } { tmps := vals.toArray ++ Array.replicate k undef, defers := [] } := fun t => by
  unfold St.rg
  simp only [inits_get, Nat.zero_le, true_and, Nat.zero_add, Nat.sub_zero]
  have hl := h.1
  by_cases ht : t < args.length
  · rw [if_pos ht]
    have h1 : (vals.toArray ++ Array.replicate k undef)[t]? = vals[t]? := by
      rw [Array.getElem?_append_left (by simp; omega)]; simp
    have h2 : t < vals.length := by omega
    have := h.2 t _ _ (List.getElem?_eq_getElem ht) (List.getElem?_eq_getElem h2)
    simp only [Array.getD_eq_getD_getElem?, h1, List.getElem?_eq_getElem ht, List.getElem?_eq_getElem h2, Option.getD_some]
    exact this
  · rw [if_neg ht]
    have h1 : (vals.toArray ++ Array.replicate k undef).getD t undef = undef := by
      rw [Array.getD_eq_getD_getElem?, Array.getElem?_append_right (by simp; omega), Array.getElem?_replicate]
      split <;> rfl
    rw [h1]
    exact undefR

def resRun (tmps : Array Value) (r : ResultVar) : Sem Value :=
  match r with
  | .tmp t => pure (tmps.getD t undef)
  | .cell ad t => do loadVar t (← asAddr (tmps.getD ad undef))
theorem results_eq (fn : Func) (tmps : Array Value) : results fn tmps = (do
    let vs ← fn.results.mapM (resRun tmps)
    pure (if h : vs.size = 1 then vs[0] else .tuple vs)) := rfl

theorem resOne_ok (h : SRel C0 D w V ρ nt s a) {r : ResultVar} {p : Nat × Option (Bool × Nat)} (hc : compRes r P = some p) {v : AV}
    (he : resOneA s p = some v) :
    ∃ u, (resRun a.tmps r).run P w = .ok u w ∧ R D w V ρ v u := by
  unfold compRes at hc
  unfold resOneA at he
  split at hc
  · cases hc
    simp only [Option.some.injEq] at he
    subst he
    exact ⟨_, rfl, h.regs _⟩
  · rename_i ad t
    split at hc
    · rename_i g n hg hn
      split at hc
      · cases hc
        simp only at he
        split at he
        · rename_i cs hr
          obtain ⟨adr, u, h1, h2, h3⟩ := run_loadVar_ok h.heap (h.regs ad) hg hn hr he
          refine ⟨u, ?_, h3⟩
          simp [resRun, h1, asAddr, h2]
        · cases he
      · cases hc
    · cases hc

theorem resL_ok (h : SRel C0 D w V ρ nt s a) : ∀ {rs : List ResultVar} {ps : List (Nat × Option (Bool × Nat))} {us : List AV}, mapO (fun r => compRes r P) rs = some ps →
    mapO (resOneA s) ps = some us →
    ∃ vs, (rs.mapM (resRun a.tmps)).run P w = .ok vs w ∧ RL D w V ρ us vs
  | [], ps, us, hc, he => by
    cases hc; cases he
    exact ⟨[], rfl, RL.nil⟩
  | r :: rs, ps, us, hc, he => by
    unfold mapO at hc
    split at hc
    · cases hc
    · rename_i p hp
      split at hc
      · cases hc
      · rename_i ps' hps
        cases hc
        unfold mapO at he
        split at he
        · cases he
        · rename_i u hu
          split at he
          · cases he
          · rename_i us' hus
            cases he
            obtain ⟨x, h1, h2⟩ := resOne_ok h hp hu
            obtain ⟨xs, h3, h4⟩ := resL_ok h hps hus
            refine ⟨x :: xs, ?_, RL.cons h2 h4⟩
            rw [List.mapM_cons, Sem.run_bind, h1]
            simp [h3]

theorem res_ok (h : SRel C0 D w V ρ nt s a) {fn : Func} {af : AFn} (hc : mapO (fun r => compRes r P) fn.results.toList = some af.res) {v : AV} (he : resA af s = some v) : ∃ u, (results fn a.tmps).run P w = .ok u w ∧ R D w V ρ v u := by
  unfold resA at he
  have key : ∃ us, mapO (resOneA s) af.res = some us ∧ (match us with | [v] => v | us => .tup us) = v := by
    split at he
    · rename_i v' hv; cases he; exact ⟨_, hv, rfl⟩
    · rename_i us hne hv
      cases he
      refine ⟨us, hv, ?_⟩
      split
      · rename_i v' ; exact absurd rfl (hne v')
      · rfl
    · cases he
  obtain ⟨us, h1, h2⟩ := key
  obtain ⟨vs, h3, h4⟩ := resL_ok h hc h1
  have hrun : (results fn a.tmps).run P w = .ok (if h : vs.toArray.size = 1 then vs.toArray[0] else .tuple vs.toArray) w := by
    rw [results_eq, Array.mapM_eq_mapM_toList]
    simp [h3]
  refine ⟨_, hrun, ?_⟩
  subst h2
  match us, vs, h4 with
  | [], [], h4 => exact R.tup_mk h4
  | [u], [x], h4 =>
    obtain ⟨_, _, h5, h6, _⟩ := h4.inv_cons
    cases h5
    simpa using h6
  | u :: u2 :: us, x :: x2 :: vs, h4 => exact R.tup_mk h4
  | [], _ :: _, h4 => exact absurd h4.1 (by simp)
  | _ :: _, [], h4 => exact absurd h4.1 (by simp)
  | [_], _ :: _ :: _, h4 => exact absurd h4.1 (by simp)
  | _ :: _ :: _, [_], h4 => exact absurd h4.1 (by simp)

theorem compF_spec {f : Nat} {af : AFn} (h : compF P pu f = some af) : ∃ fn c, P.funcs[f]? = some fn ∧ fn.body = some c ∧ fn.name ≠ "runtime.NumGoroutine" ∧ compC P pu fn.ntmps c = some af.body ∧ mapO (fun r => compRes r P) fn.results.toList = some af.res := by
  unfold compF at h
  split at h
  · rename_i fn hf
    split at h
    · rename_i c hc
      split at h
      · rename_i hn
        split at h
        · rename_i b rs hb hr
          cases h
          exact ⟨fn, c, hf, hc, hn, hb, hr⟩
        · cases h
      · cases h
    · cases h
  · cases h

/-- A function's body, from its begin to its answer. -/
theorem body_ok {n : Nat} (hC : ∀ k, k < n → CallOk P (callF F KK (exA F KK k))) {f : Nat} {af : AFn} (hf : compF P pu f = some af) (H : HRel C0 D w V ρ s.h) (db : ∀ b, D b → b < w.heap.size) (top : ∀ i, V i → i < s.nx)
    {args : List AV} {vals : List Value} (hR : RL D w V ρ args vals) {e : AE} (he : exA F KK n af.body { r := inits 0 args .nil, h := s.h, nx := s.nx } = some (e, s1)) (hn : e = .nrm ∨ e = .ret) {v : AV} (hv : resA af s1 = some v) :
    IsFn P f ∧ ∀ j, CallsIn (FW none) j P f vals.toArray w fun en w' => ∃ val D' ρ' V', en = .returned val ∧ R D' w' V' ρ' v val ∧ HRel C0 D' w' V' ρ' s1.h ∧ Ext D ρ w V D' ρ' w' V' ∧ s.nx ≤ s1.nx ∧ (∀ i, V' i → V i ∨ (s.nx ≤ i ∧ i < s1.nx)) ∧ ∀ b, D' b → b < w'.heap.size := by
  obtain ⟨fn, c, h1, h2, h3, h4, h5⟩ := compF_spec hf
  refine ⟨⟨fn, c, h1, h2, h3⟩, fun j => ?_⟩
  refine callsIn_of_wp h1 h2 trivial ?_ rfl
  have hS : SRel C0 D w V ρ fn.ntmps { r := inits 0 args .nil, h := s.h, nx := s.nx } { tmps := vals.toArray ++ Array.replicate (fn.ntmps - vals.toArray.size) undef, defers := [] } :=
    ⟨by simp; omega, inits_regs hR _ _ _, H, top, db⟩
  refine ex_ok (rd := none) n hC h4 hS he fun D' ρ' w' V' a' m1 => ?_
  have hd : a'.defers = [] := m1.defers
  obtain ⟨u, hu, hRu⟩ := res_ok m1.rel h5 hv
  have hfin : ∃ val D'' ρ'' V'', Ending.returned u = .returned val ∧ R D'' w' V'' ρ'' v val ∧ HRel C0 D'' w' V'' ρ'' s1.h ∧ Ext D ρ w V D'' ρ'' w' V'' ∧ s.nx ≤ s1.nx ∧ (∀ i, V'' i → V i ∨ (s.nx ≤ i ∧ i < s1.nx)) ∧ ∀ b, D'' b → b < w'.heap.size :=
    ⟨u, D', ρ', V', rfl, hRu, m1.rel.heap, m1.ext, m1.nx, fun i hi => (m1.ids i hi).imp id fun h => ⟨h, m1.rel.top i hi⟩, m1.rel.db⟩
  rcases hn with rfl | rfl
  · exact ⟨hd, u, hu, hfin⟩
  · exact ⟨hd, u, hu, hfin⟩
end
end Go.Proofs.Hz
