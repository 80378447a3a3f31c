/-
  Each operation: what the abstract evaluator says of it the machine does (first part).
  Conditions: none (lemmas over any program).
-/
import Derived.Test.YtpidaficnfaedaaHzD
import Derived.Test.YtpidaficnfaedaaHzE
import Derived.Laws.Entries
import Derived.Laws.IdiomCopy
import Derived.Laws.StructEq
namespace Go.Proofs.Hz
open Go.RowKit

theorem mapO_spec {α β : Type} {f : α → Option β} : ∀ {as : List α} {bs : List β}, mapO f as = some bs → as.length = bs.length ∧ ∀ (j : Nat) (a : α) (b : β), as[j]? = some a → bs[j]? = some b → f a = some b
  | [], bs, h => by
    cases h; exact ⟨rfl, fun j a b ha _ => by simp at ha⟩
  | a :: as, bs, h => by
    unfold mapO at h
    split at h
    · cases h
    · rename_i b hb
      split at h
      · cases h
      · rename_i bs' hbs
        cases h
        obtain ⟨h1, h2⟩ := mapO_spec hbs
        refine ⟨by simp [h1], fun j x y hx hy => ?_⟩
        cases j with
        | zero => simp at hx hy; subst hx; subst hy; exact hb
        | succ j => exact h2 j x y (by simpa using hx) (by simpa using hy)

section
variable {C : CodeRel} {P : Program} {D D' : Nat → Prop} {ρ ρ' : Ren} {w w' : World} {V V' : Ids} {h : T Blk}

theorem absCell_ok {v : Value} {x : AV} (hx : absCell v = some x) : R D w V ρ x v := by
  unfold absCell at hx
  split at hx <;> first | (cases hx; constructor; done) | (cases hx; done) | skip
  · cases hx; exact .str _ rfl
  · cases hx; exact .imn (fun _ => rfl) (fun _ => rfl)
  · split at hx
    · rename_i hs
      cases hx
      obtain ⟨h1, h2⟩ := hs
      exact .fn h1.symm h2.symm (fun j x v hx _ => by simp at hx) (fun j x v hx _ => by simp at hx)
    · cases hx
theorem absCells_ok {vs : List Value} {xs : List AV} (hx : mapO absCell vs = some xs) : RL D w V ρ xs vs := by
  obtain ⟨h1, h2⟩ := mapO_spec hx
  exact ⟨h1.symm, fun j x v hx hv => absCell_ok (h2 j v x hv hx)⟩
theorem absC_ok {v : Value} {x : AV} (hx : absC v = some x) : R D w V ρ x v := by
  unfold absC at hx
  split at hx
  · rename_i cs
    cases hm : mapO absCell cs.toList with
    | none => simp [hm] at hx
    | some l => simp [hm] at hx; subst hx; exact R.agg_mk (absCells_ok hm)
  · split at hx
    · rename_i hs
      cases hx
      exact .tup hs.symm (fun j x v hx _ => by simp at hx)
    · cases hx
  · exact absCell_ok hx

/-- The temporaries say what the registers say. -/
def Regs (D : Nat → Prop) (w : World) (V : Ids) (ρ : Ren) (s : St) (a : Act) : Prop := ∀ t, R D w V ρ (s.rg t) (a.tmps.getD t undef)

variable {s s' : St} {a : Act}

theorem ev_ok (hr : Regs D w V ρ s a) {x : Operand} {y : AO} (hx : absO x = some y) : R D w V ρ (y.ev s) (a.eval x) := by
  cases x with
  | tmp t => cases hx; exact hr t
  | const v =>
    simp only [absO] at hx
    cases hm : absC v with
    | none => simp [hm] at hx
    | some u => simp [hm] at hx; subst hx; exact absC_ok hm
  | global g => cases hx
  | func f => cases hx; exact .fn rfl rfl (fun j x v hx _ => by simp at hx) (fun j x v hx _ => by simp at hx)

/-- What an operation comes to. -/
def OpPost (C : CodeRel) (D : Nat → Prop) (ρ : Ren) (w : World) (V : Ids) (s s' : St) (v : AV) (res : Result Next) : Prop :=
  ∃ val w' D' ρ' V', (res = .ok (.value val) w' ∨ (res = .ok .skip w' ∧ val = undef)) ∧ R D' w' V' ρ' v val ∧ HRel C D' w' V' ρ' s'.h ∧ Ext D ρ w V D' ρ' w' V' ∧ s'.r = s.r ∧ s.nx ≤ s'.nx ∧
    (∀ i, V' i → V i ∨ (s.nx ≤ i ∧ i < s'.nx)) ∧ ∀ b, D' b → b < w'.heap.size

theorem OpPost.same (H : HRel C D w V ρ s.h) (db : ∀ b, D b → b < w.heap.size) {v : AV} {val : Value} {res : Result Next} (hr : res = .ok (.value val) w) (hv : R D w V ρ v val) : OpPost C D ρ w V s s v res :=
  ⟨val, w, D, ρ, V, .inl hr, hv, H, .refl D ρ w V, rfl, Nat.le_refl _, fun _ h => .inl h, db⟩

theorem run_sz {t : TypeId} {n : Nat} (hn : szO P t = some n) (w : World) : (sizeOf t).run P w = .ok n w := by
  unfold szO at hn
  cases hi : P.info? t with
  | none => simp [hi] at hn
  | some i => simp [hi] at hn; simp [sizeOf, typeInfo, hi, hn]
theorem run_g {t : TypeId} {g : Bool} (hg : gO P t = some g) (w : World) : (isAgg t).run P w = .ok g w := by
  unfold gO at hg
  cases hu : P.underlying t with
  | none => simp [hu] at hg
  | some d => simp only [isAgg, Sem.run_bind, run_underlying hu, Result.andThen_ok]; cases d <;> simp_all
theorem run_z {t : TypeId} {xs : List AV} (hz : zO P t = some xs) (w : World) : ∃ z : Value, (zeroValue t).run P w = .ok z w ∧ mapO absCell z.cells.toList = some xs := by
  unfold zO at hz
  cases hi : P.info? t with
  | none => simp [hi] at hz
  | some i =>
    simp only [hi] at hz
    cases hq : i.zero with
    | none => simp [hq] at hz
    | some z => simp only [hq] at hz; exact ⟨z, by simp [zeroValue, typeInfo, hi, hq], hz⟩
theorem run_slice_el {t e : TypeId} (he : elO P t = some e) : P.underlying t = some (.slice e) := by
  unfold elO at he
  split at he
  · cases he; assumption
  · cases he

theorem ofCells_ok {g : Bool} {cs : List AV} {vs : List Value} {v : AV} (hr : RL D w V ρ cs vs) (hv : ofCells g cs = some v) :
    (g = true ∧ R D w V ρ v (.agg vs.toArray)) ∨ (g = false ∧ ∃ u, vs = [u] ∧ R D w V ρ v u) := by
  cases g with
  | true => simp [ofCells] at hv; subst hv; exact .inl ⟨rfl, R.agg_mk hr⟩
  | false =>
    simp only [ofCells, Bool.false_eq_true, if_false] at hv
    split at hv
    · cases hv
      obtain ⟨u, us, rfl, h1, h2⟩ := hr.inv_cons
      have := h2.inv_nil
      subst this
      exact .inr ⟨rfl, u, rfl, h1⟩
    · cases hv

theorem run_loadVar_ok (H : HRel C D w V ρ h) {x : AV} {val : Value} (hx : R D w V ρ x val) {t : TypeId} {g : Bool} {n : Nat} (hg : gO P t = some g) (hn : szO P t = some n)
    {cs : List AV} (hr : rdH h x n = some cs) {v : AV} (hv : ofCells g cs = some v) : ∃ ad u, val = .pointer (some ad) ∧ (loadVar t ad).run P w = .ok u w ∧ R D w V ρ v u := by
  obtain ⟨ad, vs, rfl, h1, h2, h3⟩ := rdH_ok H hx hr
  rcases ofCells_ok h1 hv with ⟨rfl, hR⟩ | ⟨rfl, u, rfl, hR⟩
  · refine ⟨ad, _, rfl, ?_, hR⟩
    have hl := run_loadCells_list (P := P) w ad vs h3
    rw [h2] at hl
    simp [loadVar, run_g hg, run_sz hn, hl]
  · refine ⟨ad, u, rfl, ?_, hR⟩
    have h0 := h3 0 u rfl
    have : ad.add 0 = ad := by simp [Addr.add]
    rw [this] at h0
    simp [loadVar, run_g hg, h0]

/-! ### The operations that only look -/
theorem mov_ok (H : HRel C D w V ρ s.h) (db : ∀ b, D b → b < w.heap.size) (hr : Regs D w V ρ s a) {x : Operand} {y : AO} (hx : absO x = some y) :
    OpPost C D ρ w V s s (y.ev s) (.ok (.value (a.eval x)) w) := .same H db rfl (ev_ok hr hx)

theorem load_ok (H : HRel C D w V ρ s.h) (db : ∀ b, D b → b < w.heap.size) (hr : Regs D w V ρ s a) {o : Oper} {t : TypeId} {x : Operand} (ho : o.op = .load t x) {ao : AOp} (hc : compOp P (.load t x) = some ao) {v : AV}
    (he : opA s ao = some (v, s')) : OpPost C D ρ w V s s' v ((execOp a.eval o).run P w) := by
  simp only [compOp] at hc
  split at hc
  · rename_i g n y hg hn hy
    split at hc
    · cases hc
      simp only [opA] at he
      split at he
      · rename_i cs hrd
        cases hv : ofCells g cs with
        | none => simp [hv] at he
        | some u =>
          simp [hv] at he
          obtain ⟨rfl, rfl⟩ := he
          obtain ⟨ad, val, h1, h2, h3⟩ := run_loadVar_ok H (ev_ok hr hy) hg hn hrd hv
          exact .same H db (by simp [execOp, ho, Instr.loadAt, h1, Instr.sureAddr, h2]) h3
      · cases he
    · cases hc
  · cases hc

theorem pick_ok (H : HRel C D w V ρ s.h) (db : ∀ b, D b → b < w.heap.size) (hr : Regs D w V ρ s a) {o : Oper} {c x y : Operand} (ho : o.op = .pick c x y) {ao : AOp} (hc : compOp P (.pick c x y) = some ao) {v : AV}
    (he : opA s ao = some (v, s')) : OpPost C D ρ w V s s' v ((execOp a.eval o).run P w) := by
  simp only [compOp] at hc
  split at hc
  · rename_i c' x' y' h1 h2 h3
    cases hc
    simp only [opA] at he
    split at he
    · rename_i t ht
      cases he
      have hb := ev_ok hr h1
      rw [ht] at hb
      generalize hcv : a.eval c = cv at hb
      cases hb
      cases t
      · exact .same H db (val := a.eval y) (by simp [execOp, ho, hcv, asBool]) (by simpa using ev_ok hr h3)
      · exact .same H db (val := a.eval x) (by simp [execOp, ho, hcv, asBool]) (by simpa using ev_ok hr h2)
    · cases he
  · cases hc

theorem extr_ok (H : HRel C D w V ρ s.h) (db : ∀ b, D b → b < w.heap.size) (hr : Regs D w V ρ s a) {o : Oper} {x : Operand} {i : Nat} (ho : o.op = .extract x i) {ao : AOp} (hc : compOp P (.extract x i) = some ao) {v : AV}
    (he : opA s ao = some (v, s')) : OpPost C D ρ w V s s' v ((execOp a.eval o).run P w) := by
  simp only [compOp] at hc
  cases hx : absO x with
  | none => simp [hx] at hc
  | some y =>
    simp [hx] at hc; subst hc
    simp only [opA] at he
    split at he
    · rename_i vs hvs
      cases hi : vs[i]? with
      | none => simp [hi] at he
      | some u =>
        simp [hi] at he
        obtain ⟨rfl, rfl⟩ := he
        have hb := ev_ok hr hx
        rw [hvs] at hb
        obtain ⟨us, hus, hl⟩ := hb.tup_inv
        have hlt : i < us.toList.length := by rw [← hl.1]; exact (List.getElem?_eq_some_iff.1 hi).1
        have hq : us[i]? = some us[i] := Array.getElem?_eq_getElem (by simpa using hlt)
        exact .same H db (val := us[i]) (by simp [execOp, ho, hus, Instr.extract, hq]) (hl.2 i u _ hi (by rw [Array.getElem?_toList]; exact hq))
    · cases he

theorem nilck_ok (H : HRel C D w V ρ s.h) (db : ∀ b, D b → b < w.heap.size) (hr : Regs D w V ρ s a) {o : Oper} {x : Operand} (ho : o.op = .nilCheck x) {ao : AOp} (hc : compOp P (.nilCheck x) = some ao) {v : AV}
    (he : opA s ao = some (v, s')) : OpPost C D ρ w V s s' v ((execOp a.eval o).run P w) := by
  simp only [compOp] at hc
  cases hx : absO x with
  | none => simp [hx] at hc
  | some y =>
    simp [hx] at hc; subst hc
    have hb := ev_ok hr hx
    generalize hxv : a.eval x = xv at hb
    simp only [opA] at he
    generalize hyv : y.ev s = yv at hb he
    cases hb <;> simp at he <;> obtain ⟨rfl, rfl⟩ := he
    · rename_i id off ad hid ha; exact .same H db (by simp [execOp, ho, hxv]) (.ptr hid ha)
    · rename_i cs off b o' c hD hc' h1; exact .same H db (by simp [execOp, ho, hxv]) (.ip c hD hc' h1)
    · rename_i f first caps vf vc lf lc hf hc'; exact .same H db (by simp [execOp, ho, hxv]) (.fn lf lc hf hc')
    · rename_i id l hid hl; exact .same H db (by simp [execOp, ho, hxv]) (.yld hid hl)

theorem faddr_ok (H : HRel C D w V ρ s.h) (db : ∀ b, D b → b < w.heap.size) (hr : Regs D w V ρ s a) {o : Oper} {t : TypeId} {x : Operand} {f : Nat} (ho : o.op = .fieldAddr t x f) {ao : AOp} (hc : compOp P (.fieldAddr t x f) = some ao) {v : AV}
    (he : opA s ao = some (v, s')) : OpPost C D ρ w V s s' v ((execOp a.eval o).run P w) := by
  simp only [compOp] at hc
  split at hc
  · rename_i fs y hu hy
    split at hc
    · rename_i fd hfd
      split at hc
      · rename_i n hn
        split at hc
        · cases hc
        · rename_i hn0
          cases hc
          have hb := ev_ok hr hy
          generalize hxv : a.eval x = xv at hb
          simp only [opA] at he
          generalize hyv : y.ev s = yv at hb he
          have run : ∀ ad : Addr, xv = .pointer (some ad) → (execOp a.eval o).run P w = .ok (.value (.pointer (some (ad.add fd.offset)))) w := fun ad e => by
            simp [execOp, ho, hxv, e, Instr.fieldAt, run_underlying hu, hfd, Instr.sureAddr, fieldPlace, run_sz hn, hn0]
          cases hb <;> simp at he <;> obtain ⟨rfl, rfl⟩ := he
          · rename_i id off ad hid ha
            refine .same H db (run ad rfl) (.ptr hid fun b hb => ?_)
            rw [ha b hb, addr_add]
          · rename_i cs off b o' c hD hc' h1
            refine .same H db (run _ rfl) ?_
            rw [addr_add, Nat.add_assoc]
            exact .ip c hD hc' h1
      · cases hc
    · cases hc
  · cases hc

theorem natOf_ok {x : AV} {v : Value} (hR : R D w V ρ x v) {n : Nat} (hn : natOf x = some n) : ∃ k i, v = .int k i ∧ 0 ≤ i ∧ i.toNat = n := by
  unfold natOf at hn
  split at hn
  · split at hn
    · cases hn; cases hR; exact ⟨_, _, rfl, by assumption, rfl⟩
    · cases hn
  · cases hn

theorem iaA_ok (H : HRel C D w V ρ s.h) (db : ∀ b, D b → b < w.heap.size) (hr : Regs D w V ρ s a) {o : Oper} {t e : TypeId} {len : Nat} {x i : Operand} (ho : o.op = .indexAddr t x i) (hu : P.underlying t = some (.array len e)) {y j : AO} (hy : absO x = some y) (hj : absO i = some j)
    {sz : Nat} (hsz : szO P e = some sz) {v : AV} (he : opA s (.iaA len sz y j) = some (v, s')) : OpPost C D ρ w V s s' v ((execOp a.eval o).run P w) := by
  simp only [opA] at he
  split at he
  · rename_i n hn
    obtain ⟨k, q, hk, h0, hq⟩ := natOf_ok (ev_ok hr hj) hn
    split at he
    · rename_i hlt
      have hb := ev_ok hr hy
      generalize hxv : a.eval x = xv at hb
      generalize hyv : y.ev s = yv at hb he
      have hq2 : 0 ≤ q ∧ q < (len : Int) := ⟨h0, by omega⟩
      have run : ∀ ad : Addr, xv = .pointer (some ad) → (execOp a.eval o).run P w = .ok (.value (.pointer (some (ad.add (n * sz))))) w := fun ad e => by
        simp [execOp, ho, hxv, e, hk, Instr.indexAt, asIntOf, run_underlying hu, Instr.sureAddr, run_sz hsz, hq2, hq]
      cases hb <;> simp at he <;> obtain ⟨rfl, rfl⟩ := he
      · rename_i id off ad hid ha
        refine .same H db (run ad rfl) (.ptr hid fun b hb => ?_)
        rw [ha b hb, addr_add]
      · rename_i cs off b o' c hD hc' h1
        refine .same H db (run _ rfl) ?_
        rw [addr_add, Nat.add_assoc]
        exact .ip c hD hc' h1
    · cases he
  · cases he

theorem iaS_ok (H : HRel C D w V ρ s.h) (db : ∀ b, D b → b < w.heap.size) (hr : Regs D w V ρ s a) {o : Oper} {t e : TypeId} {x i : Operand} (ho : o.op = .indexAddr t x i) (hu : P.underlying t = some (.slice e)) {y j : AO} (hy : absO x = some y) (hj : absO i = some j)
    {sz : Nat} (hsz : szO P e = some sz) {v : AV} (he : opA s (.iaS sz y j) = some (v, s')) : OpPost C D ρ w V s s' v ((execOp a.eval o).run P w) := by
  simp only [opA] at he
  split at he
  · rename_i n hn
    obtain ⟨k, q, hk, h0, hq⟩ := natOf_ok (ev_ok hr hj) hn
    have hb := ev_ok hr hy
    generalize hxv : a.eval x = xv at hb
    generalize hyv : y.ev s = yv at hb he
    have run : ∀ (ad : Addr) (len cap : Nat), n < len → xv = .slice (some ad) len cap → (execOp a.eval o).run P w = .ok (.value (.pointer (some (ad.add (n * sz))))) w := fun ad len cap hl e => by
      have hq2 : 0 ≤ q ∧ q < (len : Int) := ⟨h0, by omega⟩
      simp [execOp, ho, hxv, e, hk, Instr.indexAt, asIntOf, run_underlying hu, run_sz hsz, hq2, hq]
    cases hb with
    | sl hid hn' hc' ha =>
      simp only [] at he
      split at he
      · rename_i hlt
        obtain ⟨hlt, hz⟩ := hlt
        cases he
        refine .same H db (run _ _ _ hlt rfl) (.ptr hid fun b hb => ?_)
        rcases ha b hb with h00 | ⟨h1, _⟩
        · omega
        · rw [h1, addr_add, ← hz]
      · cases he
    | imn _ _ => simp at he
    | @im _ _ els clip b o' sz' cap c hn' hcl hD hl hc' h1 =>
      simp only [] at he
      split at he
      · rename_i el hel
        split at he
        · rename_i hes
          cases he
          have hlt := (List.getElem?_eq_some_iff.1 hel).1
          have hmem : el ∈ els := List.mem_of_getElem? hel
          have hsz' : sz' = sz := by rw [← hl el hmem]; exact hes
          subst hsz'
          refine .same H db (run _ _ _ hlt rfl) ?_
          rw [addr_add]
          exact R.ip (off := 0) (o := o' + n * sz') (c n) hD (fun j hj => by rw [Nat.add_assoc]; exact hc' n j hlt (by rw [← hes]; exact hj)) (fun j x hx => h1 n j el x hel hx)
        · cases he
      · cases he
    | _ => simp at he
  · cases he
end
end Go.Proofs.Hz
