/-
  More fuel changes no answer (abstract).
  Conditions: none (lemmas).
-/
import Derived.Test.YtoonekkcjcjgmaaGreatHt
import Derived.RangeFuncLeaves
import Derived.Test.YtoonekkcjcjgmaaGreatHa
namespace Go.Proofs.Hz
open Go.RowKit

theorem inits_get : ∀ (args : List AV) (i : Nat) (t : T AV) (k : Nat), (inits i args t).get k = if i ≤ k ∧ k < i + args.length then args[k - i]? else t.get k
  | [], i, t, k => by
    rw [if_neg (by simp; try omega)]; rfl
  | x :: xs, i, t, k => by
    unfold inits
    rw [inits_get xs (i + 1) _ k, T.get_put]
    by_cases h : i = k
    · subst h
      rw [if_neg (by omega), if_pos rfl, if_pos (by simp)]
      simp
    · rw [if_neg h]
      by_cases h2 : i + 1 ≤ k ∧ k < i + 1 + xs.length
      · rw [if_pos h2, if_pos (by simp; omega), show k - i = (k - (i + 1)) + 1 from by omega]
        simp
      · rw [if_neg h2, if_neg (by simp; omega)]

section
variable {G : Gl} {P : Program} {D D' : Nat → Prop} {ρ ρ' : Ren} {w w' : World} {V V' : Ids} {s s' s1 : St} {a : Act} {rd : Option Nat} {m nt : Nat}
  {F : Nat → Option AFn} {KK : Nat → List AV → Option AV} {pu : Nat → Nat}

theorem inits_regs {args : List AV} {vals : List Value} (h : RL D w V ρ args vals) (gl : GOk D w) (k : Nat) (h' : T Blk) (n : Nat) :
    Regs D w V ρ { r := inits 0 args .nil, h := h', nx := n } { tmps := vals.toArray ++ Array.replicate k undef, defers := [] } := ⟨fun t => by
  unfold St.rg
  simp only [inits_get, Nat.zero_le, true_and, Nat.zero_add, Nat.sub_zero]
  have hl := h.1
  by_cases ht : t < args.length
  · rw [if_pos ht]
    have h1 : (vals.toArray ++ Array.replicate k undef)[t]? = vals[t]? := by
      rw [Array.getElem?_append_left (by simp; omega)]; simp
    have h2 : t < vals.length := by omega
    have := h.2 t _ _ (List.getElem?_eq_getElem ht) (List.getElem?_eq_getElem h2)
    simp only [Array.getD_eq_getD_getElem?, h1, List.getElem?_eq_getElem ht, List.getElem?_eq_getElem h2, Option.getD_some]
    exact this
  · rw [if_neg ht]
    have h1 : (vals.toArray ++ Array.replicate k undef).getD t undef = undef := by
      rw [Array.getD_eq_getD_getElem?, Array.getElem?_append_right (by simp; omega), Array.getElem?_replicate]
      split <;> rfl
    rw [h1]
    exact undefR, gl⟩

def resRun (tmps : Array Value) (r : ResultVar) : Sem Value :=
  match r with
  | .tmp t => pure (tmps.getD t undef)
  | .cell ad t => do loadVar t (← asAddr (tmps.getD ad undef))
theorem results_eq (fn : Func) (tmps : Array Value) : results fn tmps = (do
    let vs ← fn.results.mapM (resRun tmps)
    pure (if h : vs.size = 1 then vs[0] else .tuple vs)) := rfl

theorem resOne_ok (h : SRel (C0 P pu) D w V ρ nt s a) {r : ResultVar} {p : Nat × Option (Bool × Nat)} (hc : compRes r P = some p) {v : AV}
    (he : resOneA s p = some v) :
    ∃ u, (resRun a.tmps r).run P w = .ok u w ∧ R D w V ρ v u := by
  unfold compRes at hc
  unfold resOneA at he
  split at hc
  · cases hc
    simp only [Option.some.injEq] at he
    subst he
    exact ⟨_, rfl, h.regs.regs _⟩
  · rename_i ad t
    split at hc
    · rename_i g n hg hn
      split at hc
      · cases hc
        simp only at he
        split at he
        · rename_i cs hr
          obtain ⟨adr, u, h1, h2, h3⟩ := run_loadVar_ok h.heap (h.regs.regs ad) hg hn hr he
          refine ⟨u, ?_, h3⟩
          simp [resRun, h1, asAddr, h2]
        · cases he
      · cases hc
    · cases hc

theorem resL_ok (h : SRel (C0 P pu) D w V ρ nt s a) : ∀ {rs : List ResultVar} {ps : List (Nat × Option (Bool × Nat))} {us : List AV}, mapO (fun r => compRes r P) rs = some ps →
    mapO (resOneA s) ps = some us →
    ∃ vs, (rs.mapM (resRun a.tmps)).run P w = .ok vs w ∧ RL D w V ρ us vs
  | [], ps, us, hc, he => by
    cases hc; cases he
    exact ⟨[], rfl, RL.nil⟩
  | r :: rs, ps, us, hc, he => by
    unfold mapO at hc
    split at hc
    · cases hc
    · rename_i p hp
      split at hc
      · cases hc
      · rename_i ps' hps
        cases hc
        unfold mapO at he
        split at he
        · cases he
        · rename_i u hu
          split at he
          · cases he
          · rename_i us' hus
            cases he
            obtain ⟨x, h1, h2⟩ := resOne_ok h hp hu
            obtain ⟨xs, h3, h4⟩ := resL_ok h hps hus
            refine ⟨x :: xs, ?_, RL.cons h2 h4⟩
            rw [List.mapM_cons, Sem.run_bind, h1]
            simp [h3]

theorem res_ok (h : SRel (C0 P pu) D w V ρ nt s a) {fn : Func} {af : AFn} (hc : mapO (fun r => compRes r P) fn.results.toList = some af.res) {v : AV} (he : resA af s = some v) : ∃ u, (results fn a.tmps).run P w = .ok u w ∧ R D w V ρ v u := by
  unfold resA at he
  have key : ∃ us, mapO (resOneA s) af.res = some us ∧ (match us with | [v] => v | us => .tup us) = v := by
    split at he
    · rename_i v' hv; cases he; exact ⟨_, hv, rfl⟩
    · rename_i us hne hv
      cases he
      refine ⟨us, hv, ?_⟩
      split
      · rename_i v' ; exact absurd rfl (hne v')
      · rfl
    · cases he
  obtain ⟨us, h1, h2⟩ := key
  obtain ⟨vs, h3, h4⟩ := resL_ok h hc h1
  have hrun : (results fn a.tmps).run P w = .ok (if h : vs.toArray.size = 1 then vs.toArray[0] else .tuple vs.toArray) w := by
    rw [results_eq, Array.mapM_eq_mapM_toList]
    simp [h3]
  refine ⟨_, hrun, ?_⟩
  subst h2
  match us, vs, h4 with
  | [], [], h4 => exact R.tup_mk h4
  | [u], [x], h4 =>
    obtain ⟨_, _, h5, h6, _⟩ := h4.inv_cons
    cases h5
    simpa using h6
  | u :: u2 :: us, x :: x2 :: vs, h4 => exact R.tup_mk h4
  | [], _ :: _, h4 => exact absurd h4.1 (by simp)
  | _ :: _, [], h4 => exact absurd h4.1 (by simp)
  | [_], _ :: _ :: _, h4 => exact absurd h4.1 (by simp)
  | _ :: _ :: _, [_], h4 => exact absurd h4.1 (by simp)

theorem compF_spec {f : Nat} {af : AFn} (h : compF P pu f = some af) : ∃ fn c, P.funcs[f]? = some fn ∧ fn.body = some c ∧ fn.name ≠ "runtime.NumGoroutine" ∧ compC P pu fn.ntmps c = some af.body ∧ mapO (fun r => compRes r P) fn.results.toList = some af.res := by
  unfold compF at h
  split at h
  · rename_i fn hf
    split at h
    · rename_i c hc
      split at h
      · rename_i hn
        split at h
        · rename_i b rs hb hr
          cases h
          exact ⟨fn, c, hf, hc, hn, hb, hr⟩
        · cases h
      · cases h
    · cases h
  · cases h

/-- A block that nobody knows is turned. -/
theorem SRel.off (h : SRel (C0 P pu) D w V ρ nt s a) {r : Nat} {x : Option (List Deferred)} (hr : w.heap[r]? = some (.deferred x)) (hD : ¬ D r) (hρ : ∀ id, ρ id ≠ some r) (x' : Option (List Deferred)) : SRel (C0 P pu) D (setB w r (.deferred x')) V ρ nt s a := by
  have hh : ∀ c, c ≠ r → (setB w r (.deferred x')).heap[c]? = w.heap[c]? := fun c hc => setB_other hc _
  have hR : ∀ {y : AV} {v : Value} {V : Ids} {ρ : Ren}, R D w V ρ y v → R D (setB w r (.deferred x')) V ρ y v := fun hy =>
    hy.mono (fun _ h => h) (fun b hb => hh b fun e => hD (e ▸ hb)) (fun b real ty mk hb => ⟨real, mk, by rw [hh b fun e => by subst e; rw [hr] at hb; cases hb]; exact hb, rfl⟩) (fun _ h => h) (fun _ _ _ h => h)
  refine ⟨h.size, ⟨fun t => hR (h.regs.regs t), ⟨fun g x hx => hR (h.regs.gl.tab g x hx), Gl.fact_ext (fun _ h => h) (fun b hb => hh b fun e => hD (e ▸ hb)) h.regs.gl.fact⟩⟩, ⟨h.heap.lo, h.heap.dom, h.heap.inj, fun id k hk => ?_⟩, h.top, fun b hb => by have := h.db b hb; simpa [setB] using this⟩
  obtain ⟨b, hb, hB⟩ := h.heap.bk id k hk
  have hbr : b ≠ r := fun e => hρ id (e ▸ hb)
  refine ⟨b, hb, ?_⟩
  cases k with
  | cells cs fz ty =>
    obtain ⟨h1, h2, real, mk, h3, h4, h5, h6⟩ := hB
    exact ⟨h1, h2, real, mk, (hh b hbr).trans h3, h4, h5, fun j x hx => let ⟨v, hv, hr⟩ := h6 j x hx; ⟨v, hv, hR hr⟩⟩
  | map es =>
    obtain ⟨h1, ents, clock, h2, h3, h4⟩ := hB
    exact ⟨h1, ents, clock, (hh b hbr).trans h2, h3, fun j x hx => let ⟨v, hv, hr, hr2⟩ := h4 j x hx; ⟨v, hv, hR hr, hR hr2⟩⟩
  | loop l =>
    obtain ⟨h1, r', h2, h3⟩ := hB
    exact ⟨h1, r', (hh b hbr).trans h2, ⟨h3.st, h3.pend, h3.size, fun t => hR (h3.tmps t), h3.ps, h3.lt, h3.asg, h3.body⟩⟩
  | own => exact hB.elim
theorem Ext.off (e : Ext D ρ w V D' ρ' w' V') {r : Nat} {x : Option (List Deferred)} (hr : w'.heap[r]? = some (.deferred x)) (hge : w.heap.size ≤ r) (x' : Option (List Deferred)) : Ext D ρ w V D' ρ' (setB w' r (.deferred x')) V' := by
  have hh : ∀ c, c ≠ r → (setB w' r (.deferred x')).heap[c]? = w'.heap[c]? := fun c hc => setB_other hc _
  exact {
    ids := e.ids
    os := e.os
    tape := e.tape
    output := e.output
    size := by simpa [setB] using e.size
    sub := e.sub
    frame := fun b hb hf => (hh b (by omega)).trans (e.frame b hb hf)
    shape := fun b real ty mk hb => by
      obtain ⟨real', mk', h1, h2⟩ := e.shape b real ty mk hb
      exact ⟨real', mk', by rw [hh b fun e => by subst e; rw [hr] at h1; cases h1]; exact h1, h2⟩
    loops := fun b l hb => by
      obtain ⟨l', h1, h2⟩ := e.loops b l hb
      exact ⟨l', by rw [hh b fun e => by subst e; rw [hr] at h1; cases h1]; exact h1, h2⟩
    ren := e.ren
    new := e.new
    dnew := e.dnew }
theorem SRel.mark_free (h : SRel (C0 P pu) D w V ρ nt s a) {r : Nat} {x : Option (List Deferred)} (hr : w.heap[r]? = some (.deferred x)) (id : Nat) : ρ id ≠ some r := fun hid => by
  obtain ⟨k, hk⟩ := h.heap.dom id r hid
  obtain ⟨b, hb, hB⟩ := h.heap.bk id k hk
  rw [hid] at hb; cases hb
  cases k with
  | cells cs fz ty => obtain ⟨_, _, real, mk, q, _⟩ := hB; rw [hr] at q; cases q
  | map es => obtain ⟨_, ents, clock, q, _⟩ := hB; rw [hr] at q; cases q
  | loop l => obtain ⟨_, r', q, _⟩ := hB; rw [hr] at q; cases q
  | own => exact hB.elim

/-- The frame leaves: every mark is taken, and nothing is told otherwise. -/
theorem leaves_marks {n : Nat} {fn : Func} {R : Ending → World → Prop} : ∀ (ds : List Deferred) {D₀ : Nat → Prop} {ρ₀ : Ren} {w₀ : World} {V₀ : Ids} {w : World}, MarkL D w w₀.heap.size ds → SRel (C0 P pu) D w V ρ nt s a → Ext D₀ ρ₀ w₀ V₀ D ρ w V →
    (∀ w', SRel (C0 P pu) D w' V ρ nt s a → Ext D₀ ρ₀ w₀ V₀ D ρ w' V → LeavesIn (FW none) n P fn a.tmps R [] .returning w') → LeavesInM (FW none) n P fn a.tmps R ds .returning w := by
  intro ds
  induction ds with
  | nil => intro D₀ ρ₀ w₀ V₀ w _ hS hE h; exact h w hS hE
  | cons d ds ih =>
    intro D₀ ρ₀ w₀ V₀ w hm hS hE h
    obtain ⟨rs, h1, h2, h3⟩ := hm
    cases rs with
    | nil => cases h1
    | cons r rs =>
      rw [List.map_cons] at h1
      cases h1
      obtain ⟨k1, k2, k3⟩ := h3 r List.mem_cons_self
      refine ⟨(by intro h; cases h), .inl ⟨r, _, rfl, run_takeDeferred k3, ?_⟩⟩
      refine ih ⟨rs, rfl, (List.pairwise_cons.1 h2).2, fun r' hr' => ?_⟩ (hS.off k3 k2 (hS.mark_free k3) none) (hE.off k3 k1 none) h
      obtain ⟨q1, q2, q3⟩ := h3 r' (List.mem_cons_of_mem _ hr')
      have := (List.pairwise_cons.1 h2).1 r' hr'
      exact ⟨q1, q2, (setB_other (w := w) (by omega) _).trans q3⟩

/-- A function's body, from its begin to its answer. -/
theorem body_ok {n : Nat} (hC : ∀ k, k < n → CallOk P pu (callF F KK (exA F KK k))) {f : Nat} {af : AFn} (hf : compF P pu f = some af) (H : HRel (C0 P pu) D w V ρ s.h) (db : ∀ b, D b → b < w.heap.size) (gl : GOk D w) (top : ∀ i, V i → i < s.nx)
    {args : List AV} {vals : List Value} (hR : RL D w V ρ args vals) {e : AE} (he : exA F KK n af.body { r := inits 0 args .nil, h := s.h, nx := s.nx } = some (e, s1)) (hn : e = .nrm ∨ e = .ret) {v : AV} (hv : resA af s1 = some v) :
    IsFn P f ∧ ∀ j, CallsIn (FW none) j P f vals.toArray w fun en w' => ∃ val D' ρ' V', en = .returned val ∧ R D' w' V' ρ' v val ∧ HRel (C0 P pu) D' w' V' ρ' s1.h ∧ Ext D ρ w V D' ρ' w' V' ∧ s.nx ≤ s1.nx ∧ (∀ i, V' i → V i ∨ (s.nx ≤ i ∧ i < s1.nx)) ∧ ∀ b, D' b → b < w'.heap.size := by
  obtain ⟨fn, c, h1, h2, h3, h4, h5⟩ := compF_spec hf
  refine ⟨⟨fn, c, h1, h2, h3⟩, fun j => ?_⟩
  refine callsIn_of_wp_marks h1 h2 trivial ?_ rfl
  have hS : SRel (C0 P pu) D w V ρ fn.ntmps { r := inits 0 args .nil, h := s.h, nx := s.nx } { tmps := vals.toArray ++ Array.replicate (fn.ntmps - vals.toArray.size) undef, defers := [] } :=
    ⟨by simp; omega, inits_regs hR gl _ _ _, H, top, db⟩
  refine ex_ok n hC h4 (rd := none) hS (fun l hl => by cases hl) he fun D' ρ' w' V' a' m1 => ?_
  have hfin : LeavesInM (FW none) j P fn a'.tmps (fun en w' => ∃ val D' ρ' V', en = .returned val ∧ R D' w' V' ρ' v val ∧ HRel (C0 P pu) D' w' V' ρ' s1.h ∧ Ext D ρ w V D' ρ' w' V' ∧ s.nx ≤ s1.nx ∧ (∀ i, V' i → V i ∨ (s.nx ≤ i ∧ i < s1.nx)) ∧ ∀ b, D' b → b < w'.heap.size) a'.defers .returning w' := by
    refine leaves_marks a'.defers (m1.defers _ (Nat.le_refl _) MarkL.nil) m1.rel m1.ext fun w2 r2 e2 => ?_
    obtain ⟨u, hu, hRu⟩ := res_ok r2 h5 hv
    exact ⟨u, hu, u, D', ρ', V', rfl, hRu, r2.heap, e2, m1.nx, fun i hi => (m1.ids i hi).imp id fun h => ⟨h, r2.top i hi⟩, r2.db⟩
  rcases hn with rfl | rfl
  · exact hfin
  · exact hfin
end
end Go.Proofs.Hz
namespace Go.Proofs.Hz
open Go.RowKit

section
variable {G : Gl} {P : Program} {D D' : Nat → Prop} {ρ ρ' : Ren} {w w' : World} {V V' : Ids} {s s' s1 : St} {a : Act} {m nt : Nat}
  {F : Nat → Option AFn} {KK : Nat → List AV → Option AV} {pu : Nat → Nat}

theorem dom_none : Dom D ρ (fun _ => False) = D := by
  funext b
  simp [Dom]


theorem frzL_ok {h : T Blk} (H : HRel (C0 P pu) D w V ρ h) {M : Nat → Prop} {n : Nat} {args as : List AV} {vals : List Value} (hin : ∀ x ∈ args, FzIn M h n x) (e : mapO (frz h n) args = some as) (hR : RL D w V ρ args vals) : RL (Dom D ρ M) w Ids.none Ren.none as vals := by
  obtain ⟨h1, h2⟩ := mapO_spec e
  refine ⟨h1.symm.trans hR.1, fun j x y hx hy => ?_⟩
  have hlt : j < args.length := by rw [h1]; exact (List.getElem?_eq_some_iff.1 hx).1
  have hlj := List.getElem?_eq_getElem hlt
  exact frz_ok H (hin _ (List.getElem_mem hlt)) (h2 j _ x hlj hx) (hR.2 j _ y hlj hy)

/-- After a call that worked for itself nothing of ours has turned. -/
theorem ext_pure {M : Nat → Prop} (e : Ext (Dom D ρ M) Ren.none w Ids.none D' Ren.none w' Ids.none) : Ext D ρ w V D' ρ w' V where
  ids := fun _ h => h
  os := e.os
  tape := e.tape
  output := e.output
  size := e.size
  sub := fun b hb => e.sub b (.inl hb)
  frame := fun b hb _ => e.frame b hb (.inr fun id => by simp [Ren.none])
  shape := fun b real ty mk hb => ⟨real, mk, (e.frame b (Array.getElem?_eq_some_iff.1 hb).1 (.inr fun id => by simp [Ren.none])).trans hb, rfl⟩
  loops := fun b r hb => ⟨r, (e.frame b (Array.getElem?_eq_some_iff.1 hb).1 (.inr fun id => by simp [Ren.none])).trans hb, rfl⟩
  ren := fun _ _ _ h => h
  new := fun id _ h => .inl ⟨id, h⟩
  dnew := fun b hb => by
    rcases e.dnew b hb with (h | ⟨id, _, h⟩) | ⟨i, hi⟩ | h
    · exact .inl h
    · exact .inr (.inl ⟨id, h⟩)
    · simp [Ren.none] at hi
    · exact .inr (.inr h)

theorem pure_post {M : Nat → Prop} {h' : T Blk} (H : HRel (C0 P pu) (Dom D ρ M) w V ρ h') (db : ∀ b, Dom D ρ M b → b < w.heap.size) {r : AV} {val : Value} (hv : R D' w' Ids.none Ren.none r val)
    (e : Ext (Dom D ρ M) Ren.none w Ids.none D' Ren.none w' Ids.none) (db' : ∀ b, D' b → b < w'.heap.size) : Post P pu D ρ w V s { s with h := h' } r val w' D' ρ V where
  val := hv.any
  heap := {
    lo := H.lo
    dom := H.dom
    inj := H.inj
    bk := fun id k hk => by
      obtain ⟨b, hb, hB⟩ := H.bk id k hk
      have e2 : Ext (Dom D ρ M) ρ w V D' ρ w' V := by
        have e3 : Ext (Dom (Dom D ρ M) ρ (fun _ => False)) Ren.none w Ids.none D' Ren.none w' Ids.none := by rw [dom_none]; exact e
        exact ext_pure e3
      refine ⟨b, hb, hB.ext e2 db (e.frame b (H.blt hb) (.inr fun id => by simp [Ren.none])) fun hd => ?_⟩
      rcases e.dnew b hd with h | ⟨i, hi⟩ | h
      · exact h
      · simp [Ren.none] at hi
      · exact absurd (H.blt hb) (Nat.not_lt.2 h) }
  ext := ext_pure e
  nx := Nat.le_refl _
  ids := fun _ h => .inl h
  db := db'

theorem flat_any {r : AV} {v : Value} (hf : r.flat = true) (h : R D w V ρ r v) : R D' w' V' ρ' r v := by
  cases h <;> simp only [AV.flat, Bool.false_eq_true] at hf
  · exact .bool _
  · exact .int _ _
  · exact .str _ (by assumption)
  · rename_i cs vs hl hx
    refine .tup hl fun j x y hxj hyj => ?_
    have h1 := hx j x y hxj hyj
    have h2 := List.all_eq_true.1 hf x (List.mem_of_getElem? hxj)
    cases h1 <;> first | exact .bool _ | exact .int _ _ | exact .str _ (by assumption) | (simp at h2)

theorem callF_ok {n : Nat} (hF : FOk P pu F) (hK : KOk P KK) (hC : ∀ k, k < n → CallOk P pu (callF F KK (exA F KK k))) : CallOk P pu (callF F KK (exA F KK n)) := by
  intro D ρ w V s s' g args vals v H db gl top hR he
  unfold callF at he
  split at he
  · cases he
  · rename_i af haf
    split at he
    · split at he
      · cases he
      · rename_i as has
        split at he
        · cases he
        · rename_i r hr
          split at he
          · rename_i hfl
            cases he
            simp only [Bool.or_eq_true, Bool.not_eq_true'] at hfl
            rcases hfl with hfl | hfl
            · have hR2 := frzL_ok H (M := fun _ => True) (fun x _ => fzIn_all _ _ x) has hR
              have db2 : ∀ b, Dom D ρ (fun _ => True) b → b < w.heap.size := fun b hb => hb.elim (db b) fun ⟨id, _, h⟩ => H.blt h
              obtain ⟨hfn, hcall⟩ := hK g hr db2 (gl.sub fun _ h => .inl h) hR2
              refine ⟨hfn, fun j => CallsIn.mono (hcall j) fun e w' ⟨val, D', he, hv, hx, hd⟩ => ?_⟩
              have fr : ∀ b, b < w.heap.size → w'.heap[b]? = w.heap[b]? := fun b hb => hx.frame b hb (.inr fun id => by simp [Ren.none])
              have e2 : Ext D ρ w V D ρ w' V := ⟨fun _ h => h, hx.os, hx.tape, hx.output, hx.size, fun _ h => h, fun b hb _ => fr b hb, fun b real ty mk hb => ⟨real, mk, (fr b (Array.getElem?_eq_some_iff.1 hb).1).trans hb, rfl⟩, fun b r hb => ⟨r, (fr b (Array.getElem?_eq_some_iff.1 hb).1).trans hb, rfl⟩, fun _ _ _ h => h, fun id _ h => .inl ⟨id, h⟩, fun _ h => .inl h⟩
              refine ⟨val, D, ρ, V, he, flat_any hfl hv, ⟨H.lo, H.dom, H.inj, fun id k hk => ?_⟩, e2, Nat.le_refl _, fun _ h => .inl h, fun b hb => Nat.lt_of_lt_of_le (db b hb) hx.size⟩
              obtain ⟨b, hb, hB⟩ := H.bk id k hk
              exact ⟨b, hb, hB.ext e2 db (fr b (H.blt hb)) fun h => h⟩
            · have hR2 := frzL_ok H (M := fun _ => False) (fun x hx => fzIn_none _ _ _ x (by
                rw [List.any_eq_false] at hfl
                simpa using hfl x hx)) has hR
              have H2 : HRel (C0 P pu) (Dom D ρ fun _ => False) w V ρ s.h := by rw [dom_none]; exact H
              have db2 : ∀ b, Dom D ρ (fun _ => False) b → b < w.heap.size := by rw [dom_none]; exact db
              obtain ⟨hfn, hcall⟩ := hK g hr db2 (gl.sub fun _ h => .inl h) hR2
              exact ⟨hfn, fun j => CallsIn.mono (hcall j) fun e w' ⟨val, D', he, hv, hx, hd⟩ => ⟨val, D', ρ, V, he, pure_post (s := s) H2 db2 hv hx hd⟩⟩
          · split at he
            · rename_i h1 hz
              cases he
              have key : ∀ {l : List AV} {g g' : T Blk}, MarkRel s.h g → fzL (fzs DEEP) g l = some g' → MarkRel g g' ∧ ∀ M : Nat → Prop, (∀ id, Mk g' id → M id) → ∀ x ∈ l, FzIn M s.h DEEP x := fun hg e => fzL_in (fun g g' v => fzs_in DEEP g g' v) hg e
              obtain ⟨k1, k2⟩ := key (MarkRel.refl _) hz
              have hR2 := frzL_ok H (k2 (Mk h1) fun _ h => h) has hR
              have H2 := H.mark k1
              have db2 : ∀ b, Dom D ρ (Mk h1) b → b < w.heap.size := fun b hb => hb.elim (db b) fun ⟨id, _, h⟩ => H.blt h
              obtain ⟨hfn, hcall⟩ := hK g hr db2 (gl.sub fun _ h => .inl h) hR2
              exact ⟨hfn, fun j => CallsIn.mono (hcall j) fun e w' ⟨val, D', he, hv, hx, hd⟩ => ⟨val, D', ρ, V, he, pure_post (s := s) H2 db2 hv hx hd⟩⟩
            · cases he
    · split at he
      · rename_i s2 hx
        split at he
        · rename_i u hu
          cases he
          obtain ⟨hfn, hcall⟩ := body_ok hC (hF g af haf) H db gl top hR hx (.inl rfl) hu
          exact ⟨hfn, fun j => CallsIn.mono (hcall j) fun e w' ⟨val, D', ρ', V', he, h1, h2, h3, h4, h5, h6⟩ => ⟨val, D', ρ', V', he, h1, h2, h3, h4, h5, h6⟩⟩
        · cases he
      · rename_i s2 hx
        split at he
        · rename_i u hu
          cases he
          obtain ⟨hfn, hcall⟩ := body_ok hC (hF g af haf) H db gl top hR hx (.inr rfl) hu
          exact ⟨hfn, fun j => CallsIn.mono (hcall j) fun e w' ⟨val, D', ρ', V', he, h1, h2, h3, h4, h5, h6⟩ => ⟨val, D', ρ', V', he, h1, h2, h3, h4, h5, h6⟩⟩
        · cases he
      · cases he

theorem callF_all (hF : FOk P pu F) (hK : KOk P KK) (n : Nat) : CallOk P pu (callF F KK (exA F KK n)) := by
  induction n using Nat.strongRecOn with
  | _ n ih => exact callF_ok hF hK fun k hk => ih k hk

theorem callN_ok (hF : FOk P pu F) {X : Nat → Option (List AV → Option AV)} (hX : ∀ f k, X f = some k → KOk1 P f k) : ∀ n, KOk P (callN F X n) := by
  intro n
  induction n with
  | zero => intro f args r D w vals hr; cases hr
  | succ n ih =>
    intro f args r D w vals hr db gl hR
    simp only [callN] at hr
    split at hr
    · rename_i k hk
      exact hX f k hk hr db gl hR
    · split at hr
      · rename_i af haf
        have H0 : HRel (C0 P pu) D w Ids.none Ren.none (.nil : T Blk) := ⟨fun _ _ => rfl, fun id b h => by simp [Ren.none] at h, fun i j b h => by simp [Ren.none] at h, fun id k h => by simp [T.get] at h⟩
        have fin : ∀ {e : AE} {s1 : St} {v : AV}, exA F (callN F X n) (n + 1) af.body { r := inits 0 args .nil, h := .nil, nx := 0 } = some (e, s1) → (e = .nrm ∨ e = .ret) → resA af s1 = some v → frz s1.h DEEP v = some r → IsFn P f ∧
            ∀ n, CallsIn (FW none) n P f vals.toArray w fun e w' => ∃ val D', e = .returned val ∧ R D' w' Ids.none Ren.none r val ∧ Ext D Ren.none w Ids.none D' Ren.none w' Ids.none ∧ ∀ b, D' b → b < w'.heap.size := fun {e s1 v} hx hn hu hz => by
          obtain ⟨hfn, hcall⟩ := body_ok (s := { r := .nil, h := .nil, nx := 0 }) (fun k _ => callF_all hF ih k) (hF f af haf) H0 db gl (fun i hi => hi.elim) hR hx hn hu
          refine ⟨hfn, fun j => CallsIn.mono (hcall j) fun e w' ⟨val, D', ρ', V', he, h1, h2, h3, h4, h5, h6⟩ => ?_⟩
          refine ⟨val, Dom D' ρ' (fun _ => True), he, frz_ok h2 (fzIn_all _ _ _) hz h1, ⟨fun _ h => h, h3.os, h3.tape, h3.output, h3.size, fun b hb => .inl (h3.sub b hb), h3.frame, fun b real ty mk hb => ⟨real, mk, (h3.frame b (Array.getElem?_eq_some_iff.1 hb).1 (.inr fun id => by simp [Ren.none])).trans hb, rfl⟩, fun b r hb => ⟨r, (h3.frame b (Array.getElem?_eq_some_iff.1 hb).1 (.inr fun id => by simp [Ren.none])).trans hb, rfl⟩, fun id b h => h.elim, fun id b h => by simp [Ren.none] at h, fun b hb => ?_⟩, fun b hb => hb.elim (h6 b) fun ⟨id, _, h⟩ => h2.blt h⟩
          rcases hb with hb | ⟨id, _, hb⟩
          · exact h3.dnew b hb
          · rcases h3.new id b hb with ⟨i, hi⟩ | h
            · simp [Ren.none] at hi
            · exact .inr (.inr h)
        unfold pureA at hr
        split at hr
        · rename_i s1 hx
          split at hr
          · rename_i v hv; exact fin hx (.inl rfl) hv hr
          · cases hr
        · rename_i s1 hx
          split at hr
          · rename_i v hv; exact fin hx (.inr rfl) hv hr
          · cases hr
        · cases hr
      · cases hr

/-- THE WHOLE: what the evaluator answers the machine's call returns. -/
theorem run_ok (hF : FOk P pu F) {X : Nat → Option (List AV → Option AV)} (hX : ∀ f k, X f = some k → KOk1 P f k) {n f : Nat} {args : List AV} {r : AV} {vals : List Value} (hr : callN F X n f args = some r) (db : ∀ b, D b → b < w.heap.size) (gl : GOk D w)
    (hR : RL D w Ids.none Ren.none args vals) : Calls P f vals.toArray w fun e w' => ∃ val D', e = .returned val ∧ R D' w' Ids.none Ren.none r val ∧ Ext D Ren.none w Ids.none D' Ren.none w' Ids.none :=
  callsIn_wide.1 (CallsIn.mono ((callN_ok hF hX n f hr db gl hR).2 0) fun _ _ ⟨val, D', h1, h2, h3, _⟩ => ⟨val, D', h1, h2, h3⟩)
end
end Go.Proofs.Hz
namespace Go.Proofs.Hz

def ExLe (a b : AC → St → Option (AE × St)) : Prop := ∀ c s r, a c s = some r → b c s = some r
def KLe (a b : Nat → List AV → Option AV) : Prop := ∀ f as r, a f as = some r → b f as = some r

section
variable {F : Nat → Option AFn} {K K' : Nat → List AV → Option AV} {ex ex' : AC → St → Option (AE × St)}

theorem callF_mono (hk : KLe K K') (he : ExLe ex ex') {f : Nat} {as : List AV} {s : St} {r : AV × St} (h : callF F K ex f as s = some r) : callF F K' ex' f as s = some r := by
  unfold callF at h ⊢
  split at h
  · cases h
  · rename_i fn hF
    split at h
    · rename_i hp
      rw [if_pos hp]
      split at h
      · cases h
      · rename_i xs hx
        try simp only [hx]
        cases hr : K f xs with
        | none => simp [hr] at h
        | some v => rw [hk _ _ _ hr]; simp only [hr] at h; exact h
    · rename_i hp
      rw [if_neg hp]
      split at h
      · rename_i s1 h1; rw [he _ _ _ h1]; exact h
      · rename_i s1 h1; rw [he _ _ _ h1]; exact h
      · cases h
theorem roundA_mono (he : ExLe ex ex') {id : Nat} {as : List AV} {s : St} {r : AV × St} (h : roundA ex id as s = some r) : roundA ex' id as s = some r := by
  unfold roundA at h ⊢
  split at h
  · rename_i l hl
    try simp only [hl]
    split at h
    · rename_i hp
      rw [if_pos hp]
      split at h
      · rename_i s1 h1
        rw [he _ _ _ h1]
        simp only
        split at h
        · rename_i l1 hl1
          try simp only [hl1]
          split at h
          · rename_i h0
            rw [if_pos h0]
            split at h
            · rename_i e s2 h2
              rw [he _ _ _ h2]
              exact h
            · cases h
          · cases h
        · cases h
      · cases h
    · cases h
  · cases h
theorem callV_mono (hk : KLe K K') (he : ExLe ex ex') {f : AV} {as : List AV} {s : St} {r : AV × St} (h : callV F K ex f as s = some r) : callV F K' ex' f as s = some r := by
  unfold callV at h ⊢
  split at h
  · exact callF_mono hk he h
  · exact roundA_mono he h
  · cases h
theorem callG_mono (hk : KLe K K') (he : ExLe ex ex') {f : AV} {as : List AV} {s : St} {r : AV × St} (h : callG F K ex f as s = some r) : callG F K' ex' f as s = some r := by
  unfold callG at h ⊢
  split at h
  · exact callF_mono hk he h
  · cases h
theorem stepA_mono (hk : KLe K K') (he : ExLe ex ex') {o : AOp} {s : St} {r : AV × St} (h : stepA F K ex o s = some r) : stepA F K' ex' o s = some r := by
  unfold stepA at h ⊢
  split at h
  · exact callV_mono hk he h
  · exact h
theorem regA_mono (hk : KLe K K') (he : ExLe ex ex') : ∀ {l : List AOper} {s s' : St}, regA F K ex l s = some s' → regA F K' ex' l s = some s'
  | [], _, _, h => h
  | o :: os, s, s', h => by
    unfold regA at h ⊢
    split at h
    · rename_i hw
      rw [if_pos hw]
      split at h
      · rename_i v s1 h1; rw [stepA_mono hk he h1]; exact regA_mono hk he h
      · cases h
    · rename_i hw
      rw [if_neg hw]
      exact regA_mono hk he h
theorem drwStep_mono (hk : KLe K K') (he : ExLe ex ex') {nx0 : Nat} {hist : List (T Blk)} {o : ADr} {s : St} {r : AV × St × List (T Blk)} (h : drwStep F K ex nx0 hist o s = some r) : drwStep F K' ex' nx0 hist o s = some r := by
  unfold drwStep at h ⊢
  split at h
  · rename_i hw
    rw [if_pos hw]
    split at h
    · split at h
      · rename_i hq; rw [if_pos hq]; exact h
      · rename_i hq
        rw [if_neg hq]
        split at h
        · split at h
          · split at h
            · split at h
              · rename_i hp
                try simp only [hp, if_true]
                split at h
                · rename_i xs hx
                  try simp only [hx]
                  split at h
                  · rename_i v hv; rw [hk _ _ _ hv]; exact h
                  · cases h
                · cases h
              · cases h
            · cases h
          · cases h
        · cases h
    · exact h
    · split at h
      · rename_i v s1 h1; rw [stepA_mono hk he h1]; exact h
      · cases h
    · split at h
      · rename_i hc
        rw [if_pos hc]
        split at h
        · rename_i v s1 h1; rw [stepA_mono hk he h1]; exact h
        · cases h
      · cases h
    · exact h
  · rename_i hw
    rw [if_neg hw]
    exact h
theorem drwA_mono (hk : KLe K K') (he : ExLe ex ex') {nx0 : Nat} : ∀ {l : List ADr} {s s' : St} {hist : List (T Blk)}, drwA F K ex nx0 l s hist = some s' → drwA F K' ex' nx0 l s hist = some s'
  | [], _, _, _, h => h
  | o :: os, s, s', hist, h => by
    unfold drwA at h ⊢
    split at h
    · rename_i v s1 hist1 h1; rw [drwStep_mono hk he h1]; exact drwA_mono hk he h
    · cases h

theorem exA_mono (hk : KLe K K') : ∀ {n m : Nat}, n ≤ m → ExLe (exA F K n) (exA F K' m) := by
  intro n
  induction n with
  | zero => intro m _ c s r h; cases h
  | succ n ih =>
    intro m hm c s r h
    obtain ⟨m, rfl⟩ : ∃ k, m = k + 1 := ⟨m - 1, by omega⟩
    have he : ExLe (exA F K n) (exA F K' m) := ih (by omega)
    cases c with
    | skip => exact h
    | label l => exact h
    | exit id => exact h
    | goto l => exact h
    | ret => exact h
    | reg ops =>
      simp only [exA] at h ⊢
      split at h
      · rename_i s1 h1; rw [regA_mono hk he h1]; exact h
      · cases h
    | drw k ops =>
      simp only [exA] at h ⊢
      split at h
      · rename_i s1 h1; rw [drwA_mono hk he h1]; exact h
      · cases h
    | seq a b =>
      simp only [exA] at h ⊢
      split at h
      · rename_i s1 h1; rw [he _ _ _ h1]; exact he _ _ _ h
      · rename_i hne
        have := he _ _ _ h
        rw [this]
        split
        · rename_i s1 h1; cases h1; exact absurd h (hne s1)
        · rfl
    | cond x a b =>
      simp only [exA] at h ⊢
      split at h
      · rename_i t ht
        try simp only [ht]
        cases t with
        | true => exact he _ _ _ (by simpa using h)
        | false => exact he _ _ _ (by simpa using h)
      · cases h
    | block id b =>
      simp only [exA] at h ⊢
      split at h
      · rename_i j s1 h1; rw [he _ _ _ h1]; exact h
      · rename_i hne
        have := he _ _ _ h
        rw [this]
        split
        · rename_i j s1 h1; cases h1; exact absurd h (hne j s1)
        · rfl
    | loop b =>
      simp only [exA] at h ⊢
      split at h
      · rename_i s1 h1; rw [he _ _ _ h1]; exact he _ _ _ h
      · rename_i hne
        have := he _ _ _ h
        rw [this]
        split
        · rename_i s1 h1; cases h1; exact absurd h (hne s1)
        · rfl
    | scope cur b =>
      simp only [exA] at h ⊢
      split at h
      · rename_i l s1 h1
        rw [he _ _ _ h1]
        simp only
        split at h
        · rename_i rest hr; try simp only [hr]
          exact he _ _ _ h
        · rename_i hr; try simp only [hr]
          exact h
      · rename_i hne
        have := he _ _ _ h
        rw [this]
        split
        · rename_i l s1 h1; cases h1; exact absurd h (hne l s1)
        · rfl
    | rngf nt f ps asg body =>
      simp only [exA] at h ⊢
      split at h
      · rename_i v s1 h1; rw [callG_mono hk he h1]; exact h
      · cases h

theorem callN_mono {X : Nat → Option (List AV → Option AV)} : ∀ {n m : Nat}, n ≤ m → KLe (callN F X n) (callN F X m) := by
  intro n
  induction n with
  | zero => intro m _ f as r h; cases h
  | succ n ih =>
    intro m hm f as r h
    obtain ⟨m, rfl⟩ : ∃ k, m = k + 1 := ⟨m - 1, by omega⟩
    have hk := ih (m := m) (by omega)
    simp only [callN] at h ⊢
    split at h
    · rename_i k hX; try simp only [hX]
      exact h
    · rename_i hX
      try simp only [hX]
      split at h
      · rename_i fn hF
        try simp only [hF]
        unfold pureA at h ⊢
        split at h
        · rename_i s1 h1; rw [exA_mono hk hm _ _ _ h1]; exact h
        · rename_i s1 h1; rw [exA_mono hk hm _ _ _ h1]; exact h
        · cases h
      · cases h
end
end Go.Proofs.Hz
