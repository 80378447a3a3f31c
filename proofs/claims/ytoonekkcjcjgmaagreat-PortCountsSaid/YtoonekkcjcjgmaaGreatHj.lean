/-
  Each operation: what the abstract evaluator says of it the machine does (eighth part: maps written, append, copy, bytes to a string).
  Conditions: none (lemmas over any program).
-/
import Derived.Test.YtoonekkcjcjgmaaGreatHh
import Derived.IntWalk
namespace Go.Proofs.Hz
open Go.RowKit

section
variable {G : Gl} {C : CodeRel} {P : Program} {D D' : Nat → Prop} {ρ ρ' : Ren} {w w' : World} {V V' : Ids} {h h' : T Blk} {s s' : St} {a : Act}

theorem run_ti {t : TypeId} {n : Nat} (hn : byO P t = some n) (w : World) : ∃ i, (typeInfo t).run P w = .ok i w ∧ i.bytes = n := by
  unfold byO at hn
  cases hi : P.info? t with
  | none => simp [hi] at hn
  | some i => simp [hi] at hn; exact ⟨i, by simp [typeInfo, hi], hn⟩

theorem run_zv {t : TypeId} {z : AV} (hz : zvO P t = some z) (w0 : World) : ∃ zc : Value, (zeroValue t).run P w0 = .ok zc w0 ∧ R D w V ρ z zc := by
  unfold zvO at hz
  cases hi : P.info? t with
  | none => simp [hi] at hz
  | some i =>
    simp only [hi] at hz
    cases hq : i.zero with
    | none => simp [hq] at hz
    | some z => simp only [hq] at hz; exact ⟨z, by simp [zeroValue, typeInfo, hi, hq], absC_ok hz⟩

theorem wrap_small {n : Int} (h0 : 0 ≤ n) (h1 : n ≤ 140737488355328) : IntKind.i64.wrap n = n := IntWalk.i64_in _ (by omega)

theorem mksl_ok (H : HRel C D w V ρ s.h) (db : ∀ b, D b → b < w.heap.size) (hr : Regs D w V ρ s a) (hf : ¬ V s.nx) {o : Oper} {t : TypeId} {l c : Operand} (ho : o.op = .makeSlice t l c) {ao : AOp} (hc : compOp P (.makeSlice t l c) = some ao) {v : AV}
    (he : opA s ao = some (v, s')) : OpPost C D ρ w V s s' v ((execOp a.eval o).run P w) := by
  simp only [compOp] at hc
  split at hc
  · rename_i e hel
    split at hc
    · rename_i sz by_ z l' c' hsz hby hz hl hcc
      cases hc
      simp only [opA] at he
      split at he
      · rename_i l0 c0 hl0 hc0
        split at he
        · rename_i hcond
          obtain ⟨c1, c2, c3, c4, c5, c6⟩ := hcond
          cases he
          have hu := run_slice_el hel
          obtain ⟨zc, hz1, hz2⟩ := run_z hz w
          obtain ⟨i, hi1, hi2⟩ := run_ti hby w
          have hzl := (absCellsZ_ok (D := D) (w := w) (V := V) (ρ := ρ) hz2).1
          have hzs : zc.cells.size = sz := by simp at hzl; omega
          obtain ⟨k1, q1, e1, p1, r1⟩ := natOf_ok (ev_ok hr hl) hl0
          obtain ⟨k2, q2, e2, p2, r2⟩ := natOf_ok (ev_ok hr hcc) hc0
          unfold roomB at c2 c3
          have w1 : IntKind.i64.wrap q1 = q1 := wrap_small p1 (by omega)
          have w2 : IntKind.i64.wrap q2 = q2 := wrap_small p2 (by omega)
          have hreal : ((Array.range (c0 * sz)).map fun i => zc.cells[i % zc.cells.size]!).toList = (List.replicate c0 zc.cells.toList).flatten := by
            rw [← hzs]; exact zeros_range _ _ (by omega)
          refine .made H db hf (RL.replicate (absCellsZ_ok hz2) c0) (real := (Array.range (c0 * sz)).map fun i => zc.cells[i % zc.cells.size]!) ?_ (fun j v hv => ?_) e (.refl _ _ _ _) (val := .slice (some ⟨w.heap.size, 0, none⟩) l0 c0) ?_ (R.newSl (heap_alloc_new' w _) c1 (fun m hm => Option.some.inj hm) (by simp))
          · simp [List.length_flatten, c4]
          · rw [← hreal, Array.getElem?_toList] at hv; exact hv
          · have hby2 : ((by_ : Nat) : Int) * q2 ≤ 140737488355328 := by
              have : (by_ : Int) * q2 = ((c0 * by_ : Nat) : Int) := by
                rw [← r2]; push_cast; rw [Int.toNat_of_nonneg p2, Int.mul_comm]
              rw [this]; omega
            have hne : ¬ (((decide (q2 < 0) || decide ((i.bytes : Int) * q2 > 2 ^ 48)) || decide (q1 < 0) || decide (q1 > q2)) = true) := by
              rw [hi2]; simp; omega
            by_cases h0 : c0 * sz = 0
            · have hc00 : c0 = 0 := by
                rcases Nat.mul_eq_zero.1 h0 with h | h
                · exact h
                · omega
              subst hc00
              have hq2 : q2 = 0 := by omega
              have hq1 : q1 = 0 := by omega
              subst hq2; subst hq1
              simp [execOp, ho, Instr.makeSlice, run_underlying hu, asInt, asIntOf, e1, e2, hi1, run_sz hsz, newRow, w1]
              have hl00 : l0 = 0 := by omega
              subst hl00
              have hz0 : ∀ f : Nat → Value, Array.map f (Array.range 0) = #[] := fun f => by apply Array.ext'; simp
              exact ⟨rfl, by rw [hz0, hz0]⟩
            · simp [execOp, ho, Instr.makeSlice, run_underlying hu, asInt, asIntOf, e1, e2, hi1, run_sz hsz, newRow, w1, w2]
              rw [if_neg (by rw [hi2]; omega)]
              simp [r2, r1, h0, hz1]
        · cases he
      · cases he
    · cases hc
  · cases hc

theorem mkmap_ok (H : HRel C D w V ρ s.h) (db : ∀ b, D b → b < w.heap.size) (hf : ¬ V s.nx) {o : Oper} {t : TypeId} {r : Option Operand} (ho : o.op = .makeMap t r) {ao : AOp} (hc : compOp P (.makeMap t r) = some ao) {v : AV}
    (he : opA s ao = some (v, s')) : OpPost C D ρ w V s s' v ((execOp a.eval o).run P w) := by
  have fin : ∀ (hrun : (execOp a.eval o).run P w = .ok (.value (.map (some w.heap.size))) (w.alloc (.map #[] 0))), OpPost C D ρ w V s (s.new (.map [])) (.mp s.nx) ((execOp a.eval o).run P w) := by
    intro hrun
    have e : Ext D ρ w V D (ρ.set s.nx (some w.heap.size)) (w.alloc (.map #[] 0)) (V.add s.nx) := Ext.add hf _
    refine ⟨.map (some w.heap.size), _, D, _, _, .inl hrun, .mp (.inr rfl) fun b hb => ?_, H.add db hf _ _ ⟨(fun hd => Nat.lt_irrefl _ (db _ hd)), #[], 0, heap_alloc_new' w _, rfl, fun j x hx => by simp at hx⟩, e, rfl, Nat.le_succ _, fun i hi => ?_, fun b hb => ?_⟩
    · rw [Ren.set_same] at hb; cases hb; rfl
    · rcases hi with hi | hi
      · exact .inl hi
      · subst hi; exact .inr ⟨Nat.le_refl _, Nat.lt_succ_self _⟩
    · have := db b hb; simp; omega
  simp only [compOp] at hc
  split at hc
  · cases hc
    simp only [opA] at he
    cases he
    exact fin (by simp [execOp, ho, Instr.makeMap])
  · rename_i hu
    cases hc
    simp only [opA] at he
    cases he
    exact fin (by simp [execOp, ho, Instr.makeMap, run_underlying hu, Act.eval, asInt, asIntOf])
  · cases hc

/-! ### Maps -/
theorem keyT_spec {t : TypeId} {kk : Nat} {kt et : TypeId} (hk : keyT P t = some (kk, kt, et)) : P.underlying t = some (.map kt et) ∧ ((kk = 0 ∧ ∃ k, P.underlying kt = some (.int k)) ∨ (kk = 1 ∧ P.underlying kt = some .string)) := by
  unfold keyT at hk
  split at hk
  · rename_i kt' et' hu
    split at hk
    · rename_i k hk2; cases hk; exact ⟨hu, .inl ⟨rfl, k, hk2⟩⟩
    · rename_i hk2; cases hk; exact ⟨hu, .inr ⟨rfl, hk2⟩⟩
    · cases hk
  · cases hk

theorem run_checkKey {kk : Nat} {kt : TypeId} (hk : (kk = 0 ∧ ∃ k, P.underlying kt = some (.int k)) ∨ (kk = 1 ∧ P.underlying kt = some .string)) {x : AV} {v : Value} (hR : R D w V ρ x v) (hok : keyOk kk x = true) (em : Bool) (n : Nat) :
    (Instr.checkKey em (n + 1) kt v).run P w = .ok () w := by
  rcases hk with ⟨rfl, k, hk⟩ | ⟨rfl, hk⟩
  · cases x <;> first | (simp [keyOk] at hok; done) | (cases hR; simp only [Instr.checkKey, Sem.run_bind, run_underlying hk, Result.andThen_ok]; rfl)
  · cases x <;> first | (simp [keyOk] at hok; done) | (cases hR; simp only [Instr.checkKey, Sem.run_bind, run_underlying hk, Result.andThen_ok]; rfl)

/-- Two keys of one kind. -/
theorem sameNow_ok {kk : Nat} {kt : TypeId} {d : TypeDesc} (hd : P.underlying kt = some d) (hk : (kk = 0 ∧ ∃ k, P.underlying kt = some (.int k)) ∨ (kk = 1 ∧ P.underlying kt = some .string)) {x y : AV} {u v : Value} (hx : R D w V ρ x u) (hy : R D w V ρ y v) (hok : keyOk kk x = true) {b : Bool} (hb : keyEq x y = some b) :
    Instr.sameNow d u v = some b ∧ (b = true → Instr.sameBits 10000 v u = true) := by
  unfold keyEq at hb
  split at hb
  · rename_i k p k' q
    split at hb
    · rename_i hkk; subst hkk
      cases hb; cases hx; cases hy
      rcases hk with ⟨rfl, k0, hk⟩ | ⟨rfl, hk⟩
      · rw [hk] at hd; cases hd
        refine ⟨by simp [Instr.sameNow], fun h => ?_⟩
        have : p = q := by simpa using h
        subst this
        simp [Instr.sameBits]
      · simp [keyOk] at hok
    · cases hb
  · rename_i p q
    cases hb
    cases hx with
    | str sp hp => cases hy with
      | str sq hq =>
        rcases hk with ⟨rfl, k0, hk⟩ | ⟨rfl, hk⟩
        · simp [keyOk] at hok
        · rw [hk] at hd; cases hd
          have e : (sp == sq) = (p == q) := by rw [beq_toListBytes, toList_data, toList_data, hp, hq]
          refine ⟨by simp [Instr.sameNow, e], fun h => ?_⟩
          have e2 : (sq == sp) = (q == p) := by rw [beq_toListBytes, toList_data, toList_data, hp, hq]
          have hpq : p = q := by simpa using h
          show (sq == sp) = true
          rw [e2, hpq]; simp
  · cases hb

/-- An abstract map's entries and the machine's. -/
def ERel (D : Nat → Prop) (w : World) (V : Ids) (ρ : Ren) (es : List (AV × AV)) (ents : List MapEntry) : Prop :=
  ents.length = es.length ∧ ∀ (j : Nat) (x : AV × AV), es[j]? = some x → ∃ e : MapEntry, ents[j]? = some e ∧ R D w V ρ x.1 e.key ∧ R D w V ρ x.2 e.val

theorem find_ok {kk : Nat} {kt : TypeId} {d : TypeDesc} (hd : P.underlying kt = some d) (hk : (kk = 0 ∧ ∃ k, P.underlying kt = some (.int k)) ∨ (kk = 1 ∧ P.underlying kt = some .string)) {x : AV} {u : Value} (hx : R D w V ρ x u) (hok : keyOk kk x = true) :
    ∀ (es : List (AV × AV)) (ents : List MapEntry) (i : Nat) (r : Option (Nat × AV)), ERel D w V ρ es ents → findA x es i = some r →
      match r with
      | none => Instr.findNow d u ents i = some none
      | some (j, av) => ∃ v e, Instr.findNow d u ents i = some (some (j, v)) ∧ i ≤ j ∧ ents[j - i]? = some e ∧ v = e.val ∧ R D w V ρ av v ∧ Instr.sameBits 10000 e.key u = true := by
  intro es
  induction es with
  | nil =>
    intro ents i r hE hf
    cases hf
    have : ents = [] := List.length_eq_zero_iff.1 hE.1
    subst this
    rfl
  | cons p es ih =>
    intro ents i r hE hf
    obtain ⟨y, av⟩ := p
    cases ents with
    | nil => simp [ERel] at hE
    | cons e ents =>
      obtain ⟨hl, hE⟩ := hE
      obtain ⟨e', h1, h2, h3⟩ := hE 0 (y, av) rfl
      simp at h1; subst h1
      have hE' : ERel D w V ρ es ents := ⟨by simpa using hl, fun j x hx => hE (j + 1) x (by simpa using hx)⟩
      unfold findA at hf
      split at hf
      · rename_i hb
        cases hf
        obtain ⟨q1, q2⟩ := sameNow_ok hd hk hx h2 hok hb
        exact ⟨e.val, e, by simp [Instr.findNow, q1], Nat.le_refl _, by simp, rfl, h3, q2 rfl⟩
      · rename_i hb
        obtain ⟨q1, _⟩ := sameNow_ok hd hk hx h2 hok hb
        have := ih ents (i + 1) r hE' hf
        cases r with
        | none => simp only [Instr.findNow, q1]; exact this
        | some jr =>
          obtain ⟨j, av'⟩ := jr
          obtain ⟨v, e', r1, r2, r3, r4, r5, r6⟩ := this
          refine ⟨v, e', by simp only [Instr.findNow, q1]; exact r1, by omega, ?_, r4, r5, r6⟩
          rw [show j - i = (j - (i + 1)) + 1 by omega]
          simpa using r3
      · cases hf

theorem run_findKey {kt : TypeId} {d : TypeDesc} (hd : P.underlying kt = some d) {u : Value} {ents : List MapEntry} {r : Option (Nat × Value)} (h : Instr.findNow d u ents 0 = some r) : (Instr.findKey kt u ents).run P w = .ok r w := by
  simp [Instr.findKey, run_underlying hd, h]

theorem key_desc {kk : Nat} {kt : TypeId} (hk : (kk = 0 ∧ ∃ k, P.underlying kt = some (.int k)) ∨ (kk = 1 ∧ P.underlying kt = some .string)) : ∃ d, P.underlying kt = some d := by
  rcases hk with ⟨_, k, h⟩ | ⟨_, h⟩
  · exact ⟨_, h⟩
  · exact ⟨_, h⟩

theorem look_ok (H : HRel C D w V ρ s.h) (db : ∀ b, D b → b < w.heap.size) (hr : Regs D w V ρ s a) {o : Oper} {t : TypeId} {x i : Operand} {ok : Bool} (ho : o.op = .lookup t x i ok) {ao : AOp} (hc : compOp P (.lookup t x i ok) = some ao) {v : AV}
    (he : opA s ao = some (v, s')) : OpPost C D ρ w V s s' v ((execOp a.eval o).run P w) := by
  simp only [compOp] at hc
  split at hc
  · rename_i kk kt et m k hkt hm hk
    cases hz : zvO P et with
    | none => simp [hz] at hc
    | some z =>
      simp [hz] at hc; subst hc
      obtain ⟨hu, hkd⟩ := keyT_spec hkt
      obtain ⟨d, hd⟩ := key_desc hkd
      obtain ⟨zval, hzr, hzR⟩ := run_zv (D := D) (w := w) (V := V) (ρ := ρ) hz w
      simp only [opA] at he
      split at he
      · rename_i id e1
        split at he
        · rename_i es hge
          split at he
          · rename_i hok
            have hRm := ev_ok hr hm
            have hRk := ev_ok hr hk
            rw [e1] at hRm
            generalize hxv : a.eval x = xv at hRm
            generalize hkv : a.eval i = kv at hRk
            cases hRm with
            | mp hid hr2 =>
              obtain ⟨b, hb, hB⟩ := H.bk id _ hge
              obtain ⟨_, ents, clock, k1, k2, k3⟩ := hB
              have hrb := hr2 b hb
              rw [hrb] at hxv
              have hE : ERel D w V ρ es ents.toList := ⟨by simpa using k2, fun j x hx => by obtain ⟨e, q⟩ := k3 j x hx; exact ⟨e, by simpa using q⟩⟩
              have hck := run_checkKey (P := P) hkd hRk hok ents.isEmpty 9999
              have hget : (getObj b).run P w = .ok (.map ents clock) w := by simp [getObj, Sem.run, k1]
              cases hfa : findA (AO.ev s k) es 0 with
              | none => simp [hfa] at he
              | some r =>
                have hfo := find_ok (P := P) hd hkd hRk hok es ents.toList 0 r hE hfa
                cases r with
                | none =>
                  simp only [hfa, Option.some.injEq, Prod.mk.injEq] at he
                  obtain ⟨rfl, rfl⟩ := he
                  have hfk := run_findKey (P := P) (w := w) hd hfo
                  cases ok with
                  | true => exact .same H db (val := .tuple #[zval, .bool false]) (by simp [execOp, ho, hxv, hkv, Instr.lookup, run_underlying hu, hget, hck, hfk, hzr]) (R.tup_mk (vs := [zval, .bool false]) (.cons hzR (.cons (.bool _) .nil)))
                  | false => exact .same H db (val := zval) (by simp [execOp, ho, hxv, hkv, Instr.lookup, run_underlying hu, hget, hck, hfk, hzr]) hzR
                | some jr =>
                  obtain ⟨j, av⟩ := jr
                  simp only [hfa, Option.some.injEq, Prod.mk.injEq] at he
                  obtain ⟨rfl, rfl⟩ := he
                  obtain ⟨v', e, r1, _, _, _, r5, _⟩ := hfo
                  have hfk := run_findKey (P := P) (w := w) hd r1
                  cases ok with
                  | true => exact .same H db (val := .tuple #[v', .bool true]) (by simp [execOp, ho, hxv, hkv, Instr.lookup, run_underlying hu, hget, hck, hfk]) (R.tup_mk (vs := [v', .bool true]) (.cons r5 (.cons (.bool _) .nil)))
                  | false => exact .same H db (val := v') (by simp [execOp, ho, hxv, hkv, Instr.lookup, run_underlying hu, hget, hck, hfk]) r5
          · cases he
        · cases he
      · cases he
  · cases hc
end
end Go.Proofs.Hz
namespace Go.Proofs.Hz
open Go.RowKit

section
variable {G : Gl} {C : CodeRel} {P : Program} {D D' : Nat → Prop} {ρ ρ' : Ren} {w w' : World} {V V' : Ids} {h h' : T Blk} {s s' : St} {a : Act}

/-- One of the call's own blocks that is no row of cells is set anew. -/
def setB (w : World) (b : Nat) (o : Obj) : World := { w with heap := w.heap.setIfInBounds b o }
theorem setB_same {b : Nat} (hb : b < w.heap.size) (o : Obj) : (setB w b o).heap[b]? = some o := by simp [setB, hb]
theorem setB_other {b c : Nat} (hc : c ≠ b) (o : Obj) : (setB w b o).heap[c]? = w.heap[c]? := by
  simp only [setB]
  rw [Array.getElem?_setIfInBounds_ne (Ne.symm hc)]
theorem run_setObj {b : Nat} {o o' : Obj} (hb : w.heap[b]? = some o) (hn : ∀ c t f, o ≠ .cells c t f) : (setObj b o').run P w = .ok () (setB w b o') := by
  simp only [setObj, Sem.run, hb]
  cases o <;> first | rfl | exact absurd rfl (hn _ _ _)

theorem setB_ok (H : HRel C D w V ρ h) (db : ∀ b, D b → b < w.heap.size) {id b : Nat} (hb : ρ id = some b) (hnD : ¬ D b) {o : Obj} (ho : w.heap[b]? = some o) (hn : ∀ c t f, o ≠ .cells c t f) (o' : Obj) (hlp : ∀ r, o = .loop r → ∃ r' : Loop, o' = .loop r' ∧ r'.defers = r.defers) (k : Blk)
    (hk : Ext D ρ w V D ρ (setB w b o') V → BRel C D (setB w b o') V ρ b k) : HRel C D (setB w b o') V ρ (h.put id (some k)) ∧ Ext D ρ w V D ρ (setB w b o') V := by
  have e : Ext D ρ w V D ρ (setB w b o') V := Ext.upd hb hnD rfl rfl rfl (by simp [setB]) (fun c hc => setB_other hc o') (fun r t m hr => by rw [ho] at hr; cases hr; exact absurd rfl (hn _ _ _)) (fun r hr => by
    rw [ho] at hr; cases hr
    obtain ⟨r', h1, h2⟩ := hlp r rfl
    exact ⟨r', by rw [setB_same (Array.getElem?_eq_some_iff.1 ho).1, h1], h2⟩)
  exact ⟨H.upd db hb e (fun c hc => setB_other hc o') k (hk e), e⟩

theorem OpPost.set (db : ∀ b, D b → b < w.heap.size) {v : AV} {val : Value} {res : Result Next} {h' : T Blk} (hres : res = .ok (.value val) w' ∨ (res = .ok .skip w' ∧ val = undef)) (hv : R D w' V ρ v val) (H' : HRel C D w' V ρ h') (e : Ext D ρ w V D ρ w' V) :
    OpPost C D ρ w V s { s with h := h' } v res :=
  ⟨val, w', D, ρ, V, hres, hv, H', e, rfl, Nat.le_refl _, fun _ hi => .inl hi, fun b hb => Nat.lt_of_lt_of_le (db b hb) e.size⟩

theorem mapup_ok (H : HRel C D w V ρ s.h) (db : ∀ b, D b → b < w.heap.size) (hr : Regs D w V ρ s a) {o : Oper} {t : TypeId} {m k x : Operand} (ho : o.op = .mapUpdate t m k x ∨ o.op = .insert t m k x) {kk : Nat} {kt et : TypeId} (hkt : keyT P t = some (kk, kt, et)) {m' k' x' : AO} (hm : absO m = some m') (hk : absO k = some k') (hx : absO x = some x')
    {v : AV} (he : opA s (.mapup kk m' k' x') = some (v, s')) : OpPost C D ρ w V s s' v ((execOp a.eval o).run P w) := by
  obtain ⟨hu, hkd⟩ := keyT_spec hkt
  obtain ⟨d, hd⟩ := key_desc hkd
  have hex : ∀ w', (Instr.mapUpdate t (a.eval m) (a.eval k) (a.eval x)).run P w = .ok () w' → (execOp a.eval o).run P w = .ok .skip w' := by
    intro w' hh
    rcases ho with ho | ho <;> simp [execOp, ho, hh]
  simp only [opA] at he
  split at he
  · rename_i id e1
    split at he
    · rename_i es hge
      split at he
      · rename_i hok
        have hRm := ev_ok hr hm
        have hRk := ev_ok hr hk
        have hRx := ev_ok hr hx
        rw [e1] at hRm
        generalize hxv : a.eval m = xv at hRm hex
        generalize hkv : a.eval k = kv at hRk hex
        generalize hvv : a.eval x = vv at hRx hex
        cases hRm with
        | @mp _ _ _ r0 hid hr2 =>
          obtain ⟨b, hb, hB⟩ := H.bk id _ hge
          obtain ⟨hnD, ents, clock, k1, k2, k3⟩ := hB
          have hrb := hr2 b hb
          subst hrb
          have hblt : r0 < w.heap.size := (Array.getElem?_eq_some_iff.1 k1).1
          have hE : ERel D w V ρ es ents.toList := ⟨by simpa using k2, fun j x hx => by obtain ⟨e, q⟩ := k3 j x hx; exact ⟨e, by simpa using q⟩⟩
          have hck := run_checkKey (P := P) (w := w) hkd hRk hok false 9999
          have hget : (getObj r0).run P w = .ok (.map ents clock) w := by simp [getObj, Sem.run, k1]
          have hnc : ∀ c t f, Obj.map ents clock ≠ .cells c t f := fun _ _ _ h => by cases h
          cases hfa : findA (AO.ev s k') es 0 with
          | none => simp [hfa] at he
          | some r =>
            have hfo := find_ok (P := P) hd hkd hRk hok es ents.toList 0 r hE hfa
            cases r with
            | none =>
              simp only [hfa, Option.some.injEq, Prod.mk.injEq] at he
              obtain ⟨rfl, rfl⟩ := he
              have hfk := run_findKey (P := P) (w := w) hd hfo
              obtain ⟨H', e⟩ := setB_ok H db hb hnD k1 hnc (.map (ents.push { key := kv, val := vv, born := clock }) (clock + 1)) (fun _ h => by cases h) (.map (es ++ [(AO.ev s k', AO.ev s x')])) (fun e => by
                refine ⟨hnD, _, _, setB_same hblt _, by simp [k2], fun j y hy => ?_⟩
                by_cases hj : j < es.length
                · rw [List.getElem?_append_left hj] at hy
                  obtain ⟨en, q1, q2, q3⟩ := k3 j y hy
                  exact ⟨en, by rw [Array.getElem?_push, if_neg (by omega)]; exact q1, q2.ext e db, q3.ext e db⟩
                · rw [List.getElem?_append_right (by omega)] at hy
                  have hj0 : j - es.length = 0 := by
                    have := (List.getElem?_eq_some_iff.1 hy).1
                    simp at this; omega
                  rw [hj0] at hy
                  simp at hy
                  subst hy
                  refine ⟨{ key := kv, val := vv, born := clock }, by rw [Array.getElem?_push, if_pos (by omega)], hRk.ext e db, hRx.ext e db⟩)
              refine OpPost.set db (.inr ⟨hex _ ?_, rfl⟩) undef_ok H' e
              simp [Instr.mapUpdate, run_underlying hu, hget, hck, hfk, run_setObj (P := P) k1 hnc]
            | some jr =>
              obtain ⟨j, av⟩ := jr
              simp only [hfa, Option.some.injEq, Prod.mk.injEq] at he
              obtain ⟨rfl, rfl⟩ := he
              obtain ⟨v', en, r1, _, r3, _, r5, r6⟩ := hfo
              have hfk := run_findKey (P := P) (w := w) hd r1
              simp only [Nat.sub_zero, Array.getElem?_toList] at r3
              have hjlt : j < ents.size := (Array.getElem?_eq_some_iff.1 r3).1
              obtain ⟨H', e⟩ := setB_ok H db hb hnD k1 hnc (.map (ents.modify j fun e => { e with key := kv, val := vv }) clock) (fun _ h => by cases h) (.map (es.set j (AO.ev s k', AO.ev s x'))) (fun e => by
                refine ⟨hnD, _, _, setB_same hblt _, by simp [k2], fun i y hy => ?_⟩
                rw [List.getElem?_set] at hy
                by_cases hij : j = i
                · subst hij
                  rw [if_pos rfl, if_pos (by omega)] at hy
                  cases hy
                  exact ⟨{ en with key := kv, val := vv }, by rw [Array.getElem?_modify, if_pos rfl, r3]; rfl, hRk.ext e db, hRx.ext e db⟩
                · rw [if_neg hij] at hy
                  obtain ⟨en', q1, q2, q3⟩ := k3 i y hy
                  exact ⟨en', by rw [Array.getElem?_modify, if_neg hij]; exact q1, q2.ext e db, q3.ext e db⟩)
              refine OpPost.set db (.inr ⟨hex _ ?_, rfl⟩) undef_ok H' e
              simp [Instr.mapUpdate, run_underlying hu, hget, hck, hfk, r3, Instr.keyThatStays, r6, run_setObj (P := P) k1 hnc]
      · cases he
    · cases he
  · cases he

theorem del_ok (H : HRel C D w V ρ s.h) (db : ∀ b, D b → b < w.heap.size) {t : TypeId} {kk : Nat} {kt et : TypeId} (hkt : keyT P t = some (kk, kt, et)) {m' k' : AO} {mv kv : Value} (hRm : R D w V ρ (m'.ev s) mv) (hRk : R D w V ρ (k'.ev s) kv) {ts : Array TypeId} {ty : TypeId} (ht : ts[0]? = some t)
    {v : AV} (he : opA s (.del kk m' k') = some (v, s')) : ∃ w' h', s' = { s with h := h' } ∧ v = .tup [] ∧ (Builtin.delete_ ts ty #[mv, kv]).run P w = .ok undef w' ∧ HRel C D w' V ρ h' ∧ Ext D ρ w V D ρ w' V := by
  obtain ⟨hu, hkd⟩ := keyT_spec hkt
  obtain ⟨d, hd⟩ := key_desc hkd
  simp only [opA] at he
  split at he
  · rename_i id e1
    split at he
    · rename_i es hge
      split at he
      · rename_i hok
        rw [e1] at hRm
        cases hRm with
        | @mp _ _ _ r0 hid hr2 =>
          obtain ⟨b, hb, hB⟩ := H.bk id _ hge
          obtain ⟨hnD, ents, clock, k1, k2, k3⟩ := hB
          have hrb := hr2 b hb
          subst hrb
          have hblt : r0 < w.heap.size := (Array.getElem?_eq_some_iff.1 k1).1
          have hE : ERel D w V ρ es ents.toList := ⟨by simpa using k2, fun j x hx => by obtain ⟨e, q⟩ := k3 j x hx; exact ⟨e, by simpa using q⟩⟩
          have hck := run_checkKey (P := P) (w := w) hkd hRk hok ents.isEmpty 9999
          have hget : (getObj r0).run P w = .ok (.map ents clock) w := by simp [getObj, Sem.run, k1]
          have hnc : ∀ c t f, Obj.map ents clock ≠ .cells c t f := fun _ _ _ h => by cases h
          cases hfa : findA (AO.ev s k') es 0 with
          | none => simp [hfa] at he
          | some r =>
            have hfo := find_ok (P := P) hd hkd hRk hok es ents.toList 0 r hE hfa
            cases r with
            | none =>
              simp only [hfa, Option.some.injEq, Prod.mk.injEq] at he
              obtain ⟨rfl, rfl⟩ := he
              have hfk := run_findKey (P := P) (w := w) hd hfo
              obtain ⟨H', e⟩ := setB_ok H db hb hnD k1 hnc (.map ents clock) (fun _ h => by cases h) (.map es) (fun e => ⟨hnD, ents, clock, setB_same hblt _, k2, fun j y hy => by obtain ⟨en, q1, q2, q3⟩ := k3 j y hy; exact ⟨en, q1, q2.ext e db, q3.ext e db⟩⟩)
              have hsame : setB w r0 (.map ents clock) = w := by
                unfold setB
                have : w.heap.setIfInBounds r0 (Obj.map ents clock) = w.heap := by
                  apply Array.ext_getElem?
                  intro i
                  rw [Array.getElem?_setIfInBounds]
                  split
                  · rename_i hi; subst hi; exact k1.symm
                  · rfl
                rw [this]
              rw [hsame] at H' e
              refine ⟨w, s.h, rfl, rfl, ?_, H, .refl _ _ _ _⟩
              simp [Builtin.delete_, ht, run_underlying hu, hget, hck, hfk, run_setObj (P := P) k1 hnc, hsame, undef]
            | some jr =>
              obtain ⟨j, av⟩ := jr
              simp only [hfa, Option.some.injEq, Prod.mk.injEq] at he
              obtain ⟨rfl, rfl⟩ := he
              obtain ⟨v', en, r1, _, r3, _, r5, r6⟩ := hfo
              have hfk := run_findKey (P := P) (w := w) hd r1
              simp only [Nat.sub_zero, Array.getElem?_toList] at r3
              have hjlt : j < ents.size := (Array.getElem?_eq_some_iff.1 r3).1
              have her : (ents.eraseIdxIfInBounds j).toList = ents.toList.eraseIdx j := by simp [Array.eraseIdxIfInBounds, hjlt]
              obtain ⟨H', e⟩ := setB_ok H db hb hnD k1 hnc (.map (ents.eraseIdxIfInBounds j) clock) (fun _ h => by cases h) (.map (es.eraseIdx j)) (fun e => by
                refine ⟨hnD, _, _, setB_same hblt _, ?_, fun i y hy => ?_⟩
                · have := congrArg List.length her
                  rw [Array.length_toList] at this
                  rw [this, List.length_eraseIdx, List.length_eraseIdx, Array.length_toList, k2]
                · have hc : ∀ e0, (ents.eraseIdxIfInBounds j)[i]? = some e0 ↔ (ents.toList.eraseIdx j)[i]? = some e0 := fun e0 => by rw [← her, Array.getElem?_toList]
                  rw [List.getElem?_eraseIdx] at hy
                  split at hy
                  · rename_i hi
                    obtain ⟨en', q1, q2, q3⟩ := k3 i y hy
                    exact ⟨en', by rw [hc, List.getElem?_eraseIdx, if_pos hi, Array.getElem?_toList]; exact q1, q2.ext e db, q3.ext e db⟩
                  · rename_i hi
                    obtain ⟨en', q1, q2, q3⟩ := k3 _ y hy
                    exact ⟨en', by rw [hc, List.getElem?_eraseIdx, if_neg hi, Array.getElem?_toList]; exact q1, q2.ext e db, q3.ext e db⟩)
              refine ⟨_, _, rfl, rfl, ?_, H', e⟩
              simp [Builtin.delete_, ht, run_underlying hu, hget, hck, hfk, run_setObj (P := P) k1 hnc, undef]
      · cases he
    · cases he
  · cases he

theorem cpy_ok (H : HRel C D w V ρ s.h) (db : ∀ b, D b → b < w.heap.size) {t e : TypeId} {sz : Nat} (hel : elO P t = some e) (hsz : szO P e = some sz) {d' x' : AO} {dv xv : Value} (hRd : R D w V ρ (d'.ev s) dv) (hRx : R D w V ρ (x'.ev s) xv) {ts : Array TypeId} {ty : TypeId} (ht : ts[0]? = some t)
    {v : AV} (he : opA s (.cpy sz d' x') = some (v, s')) : ∃ u w' h', s' = { s with h := h' } ∧ (Builtin.copy_ ts ty #[dv, xv]).run P w = .ok u w' ∧ R D w' V ρ v u ∧ HRel C D w' V ρ h' ∧ Ext D ρ w V D ρ w' V := by
  have hu := run_slice_el hel
  simp only [opA] at he
  split at he
  · rename_i n xs id off k z c hxe hde
    split at he
    · rename_i hz
      subst hz
      obtain ⟨vs, q1, q2, q3, q4⟩ := elems_ok (P := P) H hRx hxe
      cases hw : wrH s.h id off (xs.take (min n k * z)) with
      | none => simp [hw] at he
      | some h' =>
        simp only [hw, Option.map_some, Option.some.injEq, Prod.mk.injEq] at he
        obtain ⟨rfl, rfl⟩ := he
        rw [hde] at hRd
        cases hRd with
        | sl hid hn hc ha =>
          rename_i ad cap
          obtain ⟨b, hb, hrun, H', ex⟩ := write_ok (P := P) H db hw (q2.take (min n k * z))
          have hf := q4 (min n k) (Nat.min_le_left _ _)
          have hmin : Nat.min n k = min n k := rfl
          refine ⟨goInt (min n k : Nat), _, h', rfl, ?_, .int _ _, H', ex⟩
          by_cases h0 : min n k * z = 0
          · have hnil : vs.take (min n k * z) = [] := by rw [h0]; rfl
            rw [hnil] at hf hrun ⊢
            have : (storeCells ad []).run P w = .ok () w := rfl
            simp [Builtin.copy_, ht, run_underlying hu, q1, run_sz hsz, hmin, hf, this, World.setCells]
          · have had : ad = ⟨b, off, none⟩ := by
              rcases ha b hb with hc0 | ⟨e2, _⟩
              · exfalso
                have : k = 0 := by omega
                subst this
                simp at h0
              · exact e2
            subst had
            simp [Builtin.copy_, ht, run_underlying hu, q1, run_sz hsz, hmin, hf, hrun]
    · cases he
  · cases he
end
end Go.Proofs.Hz
