/-
  Each operation: what the abstract evaluator says of it the machine does (seventh part: make, maps, append, copy).
  Conditions: none (lemmas over any program).
-/
import Derived.Test.YtpidaficnfaedaaHzI
import Derived.IntWalk
namespace Go.Proofs.Hz
open Go.RowKit

section
variable {C : CodeRel} {P : Program} {D D' : Nat → Prop} {ρ ρ' : Ren} {w w' : World} {V V' : Ids} {h h' : T Blk} {s s' : St} {a : Act}

theorem run_ti {t : TypeId} {n : Nat} (hn : byO P t = some n) (w : World) : ∃ i, (typeInfo t).run P w = .ok i w ∧ i.bytes = n := by
  unfold byO at hn
  cases hi : P.info? t with
  | none => simp [hi] at hn
  | some i => simp [hi] at hn; exact ⟨i, by simp [typeInfo, hi], hn⟩

theorem run_zv {t : TypeId} {z : AV} (hz : zvO P t = some z) (w0 : World) : ∃ zc : Value, (zeroValue t).run P w0 = .ok zc w0 ∧ R D w V ρ z zc := by
  unfold zvO at hz
  cases hi : P.info? t with
  | none => simp [hi] at hz
  | some i =>
    simp only [hi] at hz
    cases hq : i.zero with
    | none => simp [hq] at hz
    | some z => simp only [hq] at hz; exact ⟨z, by simp [zeroValue, typeInfo, hi, hq], absC_ok hz⟩

theorem wrap_small {n : Int} (h0 : 0 ≤ n) (h1 : n ≤ 140737488355328) : IntKind.i64.wrap n = n := IntWalk.i64_in _ (by omega)

theorem mksl_ok (H : HRel C D w V ρ s.h) (db : ∀ b, D b → b < w.heap.size) (hr : Regs D w V ρ s a) (hf : ¬ V s.nx) {o : Oper} {t : TypeId} {l c : Operand} (ho : o.op = .makeSlice t l c) {ao : AOp} (hc : compOp P (.makeSlice t l c) = some ao) {v : AV}
    (he : opA s ao = some (v, s')) : OpPost C D ρ w V s s' v ((execOp a.eval o).run P w) := by
  simp only [compOp] at hc
  split at hc
  · rename_i e hel
    split at hc
    · rename_i sz by_ z l' c' hsz hby hz hl hcc
      cases hc
      simp only [opA] at he
      split at he
      · rename_i l0 c0 hl0 hc0
        split at he
        · rename_i hcond
          obtain ⟨c1, c2, c3, c4, c5, c6⟩ := hcond
          cases he
          have hu := run_slice_el hel
          obtain ⟨zc, hz1, hz2⟩ := run_z hz w
          obtain ⟨i, hi1, hi2⟩ := run_ti hby w
          have hzl := (absCells_ok (D := D) (w := w) (V := V) (ρ := ρ) hz2).1
          have hzs : zc.cells.size = sz := by simp at hzl; omega
          obtain ⟨k1, q1, e1, p1, r1⟩ := natOf_ok (ev_ok hr hl) hl0
          obtain ⟨k2, q2, e2, p2, r2⟩ := natOf_ok (ev_ok hr hcc) hc0
          unfold roomB at c2 c3
          have w1 : IntKind.i64.wrap q1 = q1 := wrap_small p1 (by omega)
          have w2 : IntKind.i64.wrap q2 = q2 := wrap_small p2 (by omega)
          have hreal : ((Array.range (c0 * sz)).map fun i => zc.cells[i % zc.cells.size]!).toList = (List.replicate c0 zc.cells.toList).flatten := by
            rw [← hzs]; exact zeros_range _ _ (by omega)
          refine .made H db hf (RL.replicate (absCells_ok hz2) c0) (real := (Array.range (c0 * sz)).map fun i => zc.cells[i % zc.cells.size]!) ?_ (fun j v hv => ?_) e (.refl _ _ _ _) (val := .slice (some ⟨w.heap.size, 0, none⟩) l0 c0) ?_ (R.newSl (heap_alloc_new' w _) c1 (fun m hm => Option.some.inj hm) (by simp))
          · simp [List.length_flatten, c4]
          · rw [← hreal, Array.getElem?_toList] at hv; exact hv
          · have hby2 : ((by_ : Nat) : Int) * q2 ≤ 140737488355328 := by
              have : (by_ : Int) * q2 = ((c0 * by_ : Nat) : Int) := by
                rw [← r2]; push_cast; rw [Int.toNat_of_nonneg p2, Int.mul_comm]
              rw [this]; omega
            have hne : ¬ (((decide (q2 < 0) || decide ((i.bytes : Int) * q2 > 2 ^ 48)) || decide (q1 < 0) || decide (q1 > q2)) = true) := by
              rw [hi2]; simp; omega
            by_cases h0 : c0 * sz = 0
            · have hc00 : c0 = 0 := by
                rcases Nat.mul_eq_zero.1 h0 with h | h
                · exact h
                · omega
              subst hc00
              have hq2 : q2 = 0 := by omega
              have hq1 : q1 = 0 := by omega
              subst hq2; subst hq1
              simp [execOp, ho, Instr.makeSlice, run_underlying hu, asInt, asIntOf, e1, e2, hi1, run_sz hsz, newRow, w1]
              have hl00 : l0 = 0 := by omega
              subst hl00
              have hz0 : ∀ f : Nat → Value, Array.map f (Array.range 0) = #[] := fun f => by apply Array.ext'; simp
              exact ⟨rfl, by rw [hz0, hz0]⟩
            · simp [execOp, ho, Instr.makeSlice, run_underlying hu, asInt, asIntOf, e1, e2, hi1, run_sz hsz, newRow, w1, w2]
              rw [if_neg (by rw [hi2]; omega)]
              simp [r2, r1, h0, hz1]
        · cases he
      · cases he
    · cases hc
  · cases hc

theorem mkmap_ok (H : HRel C D w V ρ s.h) (db : ∀ b, D b → b < w.heap.size) (hf : ¬ V s.nx) {o : Oper} {t : TypeId} {r : Option Operand} (ho : o.op = .makeMap t r) {ao : AOp} (hc : compOp P (.makeMap t r) = some ao) {v : AV}
    (he : opA s ao = some (v, s')) : OpPost C D ρ w V s s' v ((execOp a.eval o).run P w) := by
  have fin : ∀ (hrun : (execOp a.eval o).run P w = .ok (.value (.map (some w.heap.size))) (w.alloc (.map #[] 0))), OpPost C D ρ w V s (s.new (.map [])) (.mp s.nx) ((execOp a.eval o).run P w) := by
    intro hrun
    have e : Ext D ρ w V D (ρ.set s.nx (some w.heap.size)) (w.alloc (.map #[] 0)) (V.add s.nx) := Ext.add hf _
    refine ⟨.map (some w.heap.size), _, D, _, _, .inl hrun, .mp (.inr rfl) fun b hb => ?_, H.add db hf _ _ ⟨(fun hd => Nat.lt_irrefl _ (db _ hd)), #[], 0, heap_alloc_new' w _, rfl, fun j x hx => by simp at hx⟩, e, rfl, Nat.le_succ _, fun i hi => ?_, fun b hb => ?_⟩
    · rw [Ren.set_same] at hb; cases hb; rfl
    · rcases hi with hi | hi
      · exact .inl hi
      · subst hi; exact .inr ⟨Nat.le_refl _, Nat.lt_succ_self _⟩
    · have := db b hb; simp; omega
  simp only [compOp] at hc
  split at hc
  · cases hc
    simp only [opA] at he
    cases he
    exact fin (by simp [execOp, ho, Instr.makeMap])
  · rename_i hu
    cases hc
    simp only [opA] at he
    cases he
    exact fin (by simp [execOp, ho, Instr.makeMap, run_underlying hu, Act.eval, asInt, asIntOf])
  · cases hc

/-! ### Maps -/
theorem keyT_spec {t : TypeId} {kk : Nat} {kt et : TypeId} (hk : keyT P t = some (kk, kt, et)) : P.underlying t = some (.map kt et) ∧ ((kk = 0 ∧ ∃ k, P.underlying kt = some (.int k)) ∨ (kk = 1 ∧ P.underlying kt = some .string)) := by
  unfold keyT at hk
  split at hk
  · rename_i kt' et' hu
    split at hk
    · rename_i k hk2; cases hk; exact ⟨hu, .inl ⟨rfl, k, hk2⟩⟩
    · rename_i hk2; cases hk; exact ⟨hu, .inr ⟨rfl, hk2⟩⟩
    · cases hk
  · cases hk

theorem run_checkKey {kk : Nat} {kt : TypeId} (hk : (kk = 0 ∧ ∃ k, P.underlying kt = some (.int k)) ∨ (kk = 1 ∧ P.underlying kt = some .string)) {x : AV} {v : Value} (hR : R D w V ρ x v) (hok : keyOk kk x = true) (em : Bool) (n : Nat) :
    (Instr.checkKey em (n + 1) kt v).run P w = .ok () w := by
  rcases hk with ⟨rfl, k, hk⟩ | ⟨rfl, hk⟩
  · cases x <;> first | (simp [keyOk] at hok; done) | (cases hR; simp only [Instr.checkKey, Sem.run_bind, run_underlying hk, Result.andThen_ok]; rfl)
  · cases x <;> first | (simp [keyOk] at hok; done) | (cases hR; simp only [Instr.checkKey, Sem.run_bind, run_underlying hk, Result.andThen_ok]; rfl)

/-- Two keys of one kind. -/
theorem sameNow_ok {kk : Nat} {kt : TypeId} {d : TypeDesc} (hd : P.underlying kt = some d) (hk : (kk = 0 ∧ ∃ k, P.underlying kt = some (.int k)) ∨ (kk = 1 ∧ P.underlying kt = some .string)) {x y : AV} {u v : Value} (hx : R D w V ρ x u) (hy : R D w V ρ y v) (hok : keyOk kk x = true) {b : Bool} (hb : keyEq x y = some b) :
    Instr.sameNow d u v = some b ∧ (b = true → Instr.sameBits 10000 v u = true) := by
  unfold keyEq at hb
  split at hb
  · rename_i k p k' q
    split at hb
    · rename_i hkk; subst hkk
      cases hb; cases hx; cases hy
      rcases hk with ⟨rfl, k0, hk⟩ | ⟨rfl, hk⟩
      · rw [hk] at hd; cases hd
        refine ⟨by simp [Instr.sameNow], fun h => ?_⟩
        have : p = q := by simpa using h
        subst this
        simp [Instr.sameBits]
      · simp [keyOk] at hok
    · cases hb
  · rename_i p q
    cases hb
    cases hx with
    | str sp hp => cases hy with
      | str sq hq =>
        rcases hk with ⟨rfl, k0, hk⟩ | ⟨rfl, hk⟩
        · simp [keyOk] at hok
        · rw [hk] at hd; cases hd
          have e : (sp == sq) = (p == q) := by rw [beq_toListBytes, toList_data, toList_data, hp, hq]
          refine ⟨by simp [Instr.sameNow, e], fun h => ?_⟩
          have e2 : (sq == sp) = (q == p) := by rw [beq_toListBytes, toList_data, toList_data, hp, hq]
          have hpq : p = q := by simpa using h
          show (sq == sp) = true
          rw [e2, hpq]; simp
  · cases hb

/-- An abstract map's entries and the machine's. -/
def ERel (D : Nat → Prop) (w : World) (V : Ids) (ρ : Ren) (es : List (AV × AV)) (ents : List MapEntry) : Prop :=
  ents.length = es.length ∧ ∀ (j : Nat) (x : AV × AV), es[j]? = some x → ∃ e : MapEntry, ents[j]? = some e ∧ R D w V ρ x.1 e.key ∧ R D w V ρ x.2 e.val

theorem find_ok {kk : Nat} {kt : TypeId} {d : TypeDesc} (hd : P.underlying kt = some d) (hk : (kk = 0 ∧ ∃ k, P.underlying kt = some (.int k)) ∨ (kk = 1 ∧ P.underlying kt = some .string)) {x : AV} {u : Value} (hx : R D w V ρ x u) (hok : keyOk kk x = true) :
    ∀ (es : List (AV × AV)) (ents : List MapEntry) (i : Nat) (r : Option (Nat × AV)), ERel D w V ρ es ents → findA x es i = some r →
      match r with
      | none => Instr.findNow d u ents i = some none
      | some (j, av) => ∃ v e, Instr.findNow d u ents i = some (some (j, v)) ∧ i ≤ j ∧ ents[j - i]? = some e ∧ v = e.val ∧ R D w V ρ av v ∧ Instr.sameBits 10000 e.key u = true := by
  intro es
  induction es with
  | nil =>
    intro ents i r hE hf
    cases hf
    have : ents = [] := List.length_eq_zero_iff.1 hE.1
    subst this
    rfl
  | cons p es ih =>
    intro ents i r hE hf
    obtain ⟨y, av⟩ := p
    cases ents with
    | nil => simp [ERel] at hE
    | cons e ents =>
      obtain ⟨hl, hE⟩ := hE
      obtain ⟨e', h1, h2, h3⟩ := hE 0 (y, av) rfl
      simp at h1; subst h1
      have hE' : ERel D w V ρ es ents := ⟨by simpa using hl, fun j x hx => hE (j + 1) x (by simpa using hx)⟩
      unfold findA at hf
      split at hf
      · rename_i hb
        cases hf
        obtain ⟨q1, q2⟩ := sameNow_ok hd hk hx h2 hok hb
        exact ⟨e.val, e, by simp [Instr.findNow, q1], Nat.le_refl _, by simp, rfl, h3, q2 rfl⟩
      · rename_i hb
        obtain ⟨q1, _⟩ := sameNow_ok hd hk hx h2 hok hb
        have := ih ents (i + 1) r hE' hf
        cases r with
        | none => simp only [Instr.findNow, q1]; exact this
        | some jr =>
          obtain ⟨j, av'⟩ := jr
          obtain ⟨v, e', r1, r2, r3, r4, r5, r6⟩ := this
          refine ⟨v, e', by simp only [Instr.findNow, q1]; exact r1, by omega, ?_, r4, r5, r6⟩
          rw [show j - i = (j - (i + 1)) + 1 by omega]
          simpa using r3
      · cases hf

theorem run_findKey {kt : TypeId} {d : TypeDesc} (hd : P.underlying kt = some d) {u : Value} {ents : List MapEntry} {r : Option (Nat × Value)} (h : Instr.findNow d u ents 0 = some r) : (Instr.findKey kt u ents).run P w = .ok r w := by
  simp [Instr.findKey, run_underlying hd, h]

theorem key_desc {kk : Nat} {kt : TypeId} (hk : (kk = 0 ∧ ∃ k, P.underlying kt = some (.int k)) ∨ (kk = 1 ∧ P.underlying kt = some .string)) : ∃ d, P.underlying kt = some d := by
  rcases hk with ⟨_, k, h⟩ | ⟨_, h⟩
  · exact ⟨_, h⟩
  · exact ⟨_, h⟩

theorem look_ok (H : HRel C D w V ρ s.h) (db : ∀ b, D b → b < w.heap.size) (hr : Regs D w V ρ s a) {o : Oper} {t : TypeId} {x i : Operand} {ok : Bool} (ho : o.op = .lookup t x i ok) {ao : AOp} (hc : compOp P (.lookup t x i ok) = some ao) {v : AV}
    (he : opA s ao = some (v, s')) : OpPost C D ρ w V s s' v ((execOp a.eval o).run P w) := by
  simp only [compOp] at hc
  split at hc
  · rename_i kk kt et m k hkt hm hk
    cases hz : zvO P et with
    | none => simp [hz] at hc
    | some z =>
      simp [hz] at hc; subst hc
      obtain ⟨hu, hkd⟩ := keyT_spec hkt
      obtain ⟨d, hd⟩ := key_desc hkd
      obtain ⟨zval, hzr, hzR⟩ := run_zv (D := D) (w := w) (V := V) (ρ := ρ) hz w
      simp only [opA] at he
      split at he
      · rename_i id e1
        split at he
        · rename_i es hge
          split at he
          · rename_i hok
            have hRm := ev_ok hr hm
            have hRk := ev_ok hr hk
            rw [e1] at hRm
            generalize hxv : a.eval x = xv at hRm
            generalize hkv : a.eval i = kv at hRk
            cases hRm with
            | mp hid hr2 =>
              obtain ⟨b, hb, hB⟩ := H.bk id _ hge
              obtain ⟨_, ents, clock, k1, k2, k3⟩ := hB
              have hrb := hr2 b hb
              rw [hrb] at hxv
              have hE : ERel D w V ρ es ents.toList := ⟨by simpa using k2, fun j x hx => by obtain ⟨e, q⟩ := k3 j x hx; exact ⟨e, by simpa using q⟩⟩
              have hck := run_checkKey (P := P) hkd hRk hok ents.isEmpty 9999
              have hget : (getObj b).run P w = .ok (.map ents clock) w := by simp [getObj, Sem.run, k1]
              cases hfa : findA (AO.ev s k) es 0 with
              | none => simp [hfa] at he
              | some r =>
                have hfo := find_ok (P := P) hd hkd hRk hok es ents.toList 0 r hE hfa
                cases r with
                | none =>
                  simp only [hfa, Option.some.injEq, Prod.mk.injEq] at he
                  obtain ⟨rfl, rfl⟩ := he
                  have hfk := run_findKey (P := P) (w := w) hd hfo
                  cases ok with
                  | true => exact .same H db (val := .tuple #[zval, .bool false]) (by simp [execOp, ho, hxv, hkv, Instr.lookup, run_underlying hu, hget, hck, hfk, hzr]) (R.tup_mk (vs := [zval, .bool false]) (.cons hzR (.cons (.bool _) .nil)))
                  | false => exact .same H db (val := zval) (by simp [execOp, ho, hxv, hkv, Instr.lookup, run_underlying hu, hget, hck, hfk, hzr]) hzR
                | some jr =>
                  obtain ⟨j, av⟩ := jr
                  simp only [hfa, Option.some.injEq, Prod.mk.injEq] at he
                  obtain ⟨rfl, rfl⟩ := he
                  obtain ⟨v', e, r1, _, _, _, r5, _⟩ := hfo
                  have hfk := run_findKey (P := P) (w := w) hd r1
                  cases ok with
                  | true => exact .same H db (val := .tuple #[v', .bool true]) (by simp [execOp, ho, hxv, hkv, Instr.lookup, run_underlying hu, hget, hck, hfk]) (R.tup_mk (vs := [v', .bool true]) (.cons r5 (.cons (.bool _) .nil)))
                  | false => exact .same H db (val := v') (by simp [execOp, ho, hxv, hkv, Instr.lookup, run_underlying hu, hget, hck, hfk]) r5
          · cases he
        · cases he
      · cases he
  · cases hc
end
end Go.Proofs.Hz
