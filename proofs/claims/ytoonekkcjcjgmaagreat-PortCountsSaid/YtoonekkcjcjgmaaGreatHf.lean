/-
  Each operation: what the abstract evaluator says of it the machine does (second part: values alone).
  Conditions: none (lemmas over any program).
-/
import Derived.Test.YtoonekkcjcjgmaaGreatHc
import Derived.Test.YtoonekkcjcjgmaaGreatHe
import Derived.Laws.Entries
import Derived.Laws.IdiomCopy
import Derived.Laws.StructEq
import Derived.Laws.Tables
import Derived.Laws.BytesString
import Derived.Laws.Small
namespace Go.Proofs.Hz
open Go.RowKit

theorem mapO_spec {α β : Type} {f : α → Option β} : ∀ {as : List α} {bs : List β}, mapO f as = some bs → as.length = bs.length ∧ ∀ (j : Nat) (a : α) (b : β), as[j]? = some a → bs[j]? = some b → f a = some b
  | [], bs, h => by
    cases h; exact ⟨rfl, fun j a b ha _ => by simp at ha⟩
  | a :: as, bs, h => by
    unfold mapO at h
    split at h
    · cases h
    · rename_i b hb
      split at h
      · cases h
      · rename_i bs' hbs
        cases h
        obtain ⟨h1, h2⟩ := mapO_spec hbs
        refine ⟨by simp [h1], fun j x y hx hy => ?_⟩
        cases j with
        | zero => simp at hx hy; subst hx; subst hy; exact hb
        | succ j => exact h2 j x y (by simpa using hx) (by simpa using hy)


section
variable {G : Gl} {C : CodeRel} {P : Program} {D D' : Nat → Prop} {ρ ρ' : Ren} {w w' : World} {V V' : Ids} {h : T Blk}

theorem absCell_ok {v : Value} {x : AV} (hx : absCell v = some x) : R D w V ρ x v := by
  unfold absCell at hx
  split at hx <;> first | (cases hx; constructor; done) | (cases hx; done) | skip
  · cases hx; exact .str _ rfl
  · cases hx; exact .imn (fun _ => rfl) (fun _ => rfl)
  · split at hx
    · rename_i hs
      cases hx
      obtain ⟨h1, h2⟩ := hs
      exact .fn h1.symm h2.symm (fun j x v hx _ => by simp at hx) (fun j x v hx _ => by simp at hx)
    · cases hx
theorem absCells_ok {vs : List Value} {xs : List AV} (hx : mapO absCell vs = some xs) : RL D w V ρ xs vs := by
  obtain ⟨h1, h2⟩ := mapO_spec hx
  exact ⟨h1.symm, fun j x v hx hv => absCell_ok (h2 j v x hv hx)⟩
theorem absC_ok {v : Value} {x : AV} (hx : absC v = some x) : R D w V ρ x v := by
  unfold absC at hx
  split at hx
  · rename_i cs
    cases hm : mapO absCell cs.toList with
    | none => simp [hm] at hx
    | some l => simp [hm] at hx; subst hx; exact R.agg_mk (absCells_ok hm)
  · split at hx
    · rename_i hs
      cases hx
      exact .tup hs.symm (fun j x v hx _ => by simp at hx)
    · cases hx
  · exact absCell_ok hx

theorem absCellN_ok {v : Value} {x : AV} (hx : absCellN v = some x) : R D w V ρ x v := by
  unfold absCellN at hx
  split at hx
  · rename_i hs
    cases hx
    unfold isNilS at hs
    split at hs
    · exact .nils
    · cases hs
  · exact absCell_ok hx
theorem absCellZ_ok {t : TypeId} {v : Value} {x : AV} (hx : absCellZ P t v = some x) : R D w V ρ x v := by
  unfold absCellZ at hx
  split at hx
  · exact absCellN_ok hx
  · exact absCell_ok hx
theorem absCellsZ_ok {t : TypeId} {vs : List Value} {xs : List AV} (hx : mapO (absCellZ P t) vs = some xs) : RL D w V ρ xs vs := by
  obtain ⟨h1, h2⟩ := mapO_spec hx
  exact ⟨h1.symm, fun j x v hx hv => absCellZ_ok (h2 j v x hv hx)⟩

theorem GOk.ext (e : Ext D ρ w V D' ρ' w' V') (db : ∀ b, D b → b < w.heap.size) (h : GOk D w) : GOk D' w' := ⟨fun g x hx =>
  (h.tab g x hx).mono e.sub (fun b hb => e.frame b (db b hb) (.inl hb)) e.shape (fun _ h => h) (fun _ _ h _ => h.elim), Gl.fact_ext e.sub (fun b hb => e.frame b (db b hb) (.inl hb)) h.fact⟩
theorem GOk.sub (hs : ∀ b, D b → D' b) (h : GOk D w) : GOk D' w := ⟨fun g x hx => (h.tab g x hx).sub hs, Gl.fact_ext hs (fun _ _ => rfl) h.fact⟩

variable {s s' : St} {a : Act}

theorem ev_ok (hr : Regs D w V ρ s a) {x : Operand} {y : AO} (hx : absO x = some y) : R D w V ρ (y.ev s) (a.eval x) := by
  cases x with
  | tmp t => cases hx; exact hr.regs t
  | const v =>
    simp only [absO] at hx
    cases hm : absC v with
    | none => simp [hm] at hx
    | some u => simp [hm] at hx; subst hx; exact absC_ok hm
  | global g =>
    simp only [absO] at hx
    cases hm : Gl.tab g with
    | none => simp [hm] at hx
    | some u => simp [hm] at hx; subst hx; exact (hr.gl.tab g u hm).any
  | func f => cases hx; exact .fn rfl rfl (fun j x v hx _ => by simp at hx) (fun j x v hx _ => by simp at hx)

/-- What an operation comes to. -/
def OpPost (C : CodeRel) (D : Nat → Prop) (ρ : Ren) (w : World) (V : Ids) (s s' : St) (v : AV) (res : Result Next) : Prop :=
  ∃ val w' D' ρ' V', (res = .ok (.value val) w' ∨ (res = .ok .skip w' ∧ val = undef)) ∧ R D' w' V' ρ' v val ∧ HRel C D' w' V' ρ' s'.h ∧ Ext D ρ w V D' ρ' w' V' ∧ s'.r = s.r ∧ s.nx ≤ s'.nx ∧
    (∀ i, V' i → V i ∨ (s.nx ≤ i ∧ i < s'.nx)) ∧ ∀ b, D' b → b < w'.heap.size

theorem OpPost.same (H : HRel C D w V ρ s.h) (db : ∀ b, D b → b < w.heap.size) {v : AV} {val : Value} {res : Result Next} (hr : res = .ok (.value val) w) (hv : R D w V ρ v val) : OpPost C D ρ w V s s v res :=
  ⟨val, w, D, ρ, V, .inl hr, hv, H, .refl D ρ w V, rfl, Nat.le_refl _, fun _ h => .inl h, db⟩

theorem run_sz {t : TypeId} {n : Nat} (hn : szO P t = some n) (w : World) : (sizeOf t).run P w = .ok n w := by
  unfold szO at hn
  cases hi : P.info? t with
  | none => simp [hi] at hn
  | some i => simp [hi] at hn; simp [sizeOf, typeInfo, hi, hn]
theorem run_g {t : TypeId} {g : Bool} (hg : gO P t = some g) (w : World) : (isAgg t).run P w = .ok g w := by
  unfold gO at hg
  cases hu : P.underlying t with
  | none => simp [hu] at hg
  | some d => simp only [isAgg, Sem.run_bind, run_underlying hu, Result.andThen_ok]; cases d <;> simp_all
theorem run_z {t : TypeId} {xs : List AV} (hz : zO P t = some xs) (w : World) : ∃ z : Value, (zeroValue t).run P w = .ok z w ∧ mapO (absCellZ P t) z.cells.toList = some xs := by
  unfold zO at hz
  cases hi : P.info? t with
  | none => simp [hi] at hz
  | some i =>
    simp only [hi] at hz
    cases hq : i.zero with
    | none => simp [hq] at hz
    | some z => simp only [hq] at hz; exact ⟨z, by simp [zeroValue, typeInfo, hi, hq], hz⟩
theorem run_slice_el {t e : TypeId} (he : elO P t = some e) : P.underlying t = some (.slice e) := by
  unfold elO at he
  split at he
  · cases he; assumption
  · cases he

theorem ofCells_ok {g : Bool} {cs : List AV} {vs : List Value} {v : AV} (hr : RL D w V ρ cs vs) (hv : ofCells g cs = some v) :
    (g = true ∧ R D w V ρ v (.agg vs.toArray)) ∨ (g = false ∧ ∃ u, vs = [u] ∧ R D w V ρ v u) := by
  cases g with
  | true => simp [ofCells] at hv; subst hv; exact .inl ⟨rfl, R.agg_mk hr⟩
  | false =>
    simp only [ofCells, Bool.false_eq_true, if_false] at hv
    split at hv
    · cases hv
      obtain ⟨u, us, rfl, h1, h2⟩ := hr.inv_cons
      have := h2.inv_nil
      subst this
      exact .inr ⟨rfl, u, rfl, h1⟩
    · cases hv

theorem run_loadVar_ok (H : HRel C D w V ρ h) {x : AV} {val : Value} (hx : R D w V ρ x val) {t : TypeId} {g : Bool} {n : Nat} (hg : gO P t = some g) (hn : szO P t = some n)
    {cs : List AV} (hr : rdH h x n = some cs) {v : AV} (hv : ofCells g cs = some v) : ∃ ad u, val = .pointer (some ad) ∧ (loadVar t ad).run P w = .ok u w ∧ R D w V ρ v u := by
  obtain ⟨ad, vs, rfl, h1, h2, h3⟩ := rdH_ok H hx hr
  rcases ofCells_ok h1 hv with ⟨rfl, hR⟩ | ⟨rfl, u, rfl, hR⟩
  · refine ⟨ad, _, rfl, ?_, hR⟩
    have hl := run_loadCells_list (P := P) w ad vs h3
    rw [h2] at hl
    simp [loadVar, run_g hg, run_sz hn, hl]
  · refine ⟨ad, u, rfl, ?_, hR⟩
    have h0 := h3 0 u rfl
    have : ad.add 0 = ad := by simp [Addr.add]
    rw [this] at h0
    simp [loadVar, run_g hg, h0]

/-! ### The operations that only look -/
theorem mov_ok (H : HRel C D w V ρ s.h) (db : ∀ b, D b → b < w.heap.size) (hr : Regs D w V ρ s a) {x : Operand} {y : AO} (hx : absO x = some y) :
    OpPost C D ρ w V s s (y.ev s) (.ok (.value (a.eval x)) w) := .same H db rfl (ev_ok hr hx)

theorem load_ok (H : HRel C D w V ρ s.h) (db : ∀ b, D b → b < w.heap.size) (hr : Regs D w V ρ s a) {o : Oper} {t : TypeId} {x : Operand} (ho : o.op = .load t x) {ao : AOp} (hc : compOp P (.load t x) = some ao) {v : AV}
    (he : opA s ao = some (v, s')) : OpPost C D ρ w V s s' v ((execOp a.eval o).run P w) := by
  simp only [compOp] at hc
  split at hc
  · rename_i g n y hg hn hy
    split at hc
    · cases hc
      simp only [opA] at he
      split at he
      · rename_i cs hrd
        cases hv : ofCells g cs with
        | none => simp [hv] at he
        | some u =>
          simp [hv] at he
          obtain ⟨rfl, rfl⟩ := he
          obtain ⟨ad, val, h1, h2, h3⟩ := run_loadVar_ok H (ev_ok hr hy) hg hn hrd hv
          exact .same H db (by simp [execOp, ho, Instr.loadAt, h1, Instr.sureAddr, h2]) h3
      · cases he
    · cases hc
  · cases hc

theorem pick_ok (H : HRel C D w V ρ s.h) (db : ∀ b, D b → b < w.heap.size) (hr : Regs D w V ρ s a) {o : Oper} {c x y : Operand} (ho : o.op = .pick c x y) {ao : AOp} (hc : compOp P (.pick c x y) = some ao) {v : AV}
    (he : opA s ao = some (v, s')) : OpPost C D ρ w V s s' v ((execOp a.eval o).run P w) := by
  simp only [compOp] at hc
  split at hc
  · rename_i c' x' y' h1 h2 h3
    cases hc
    simp only [opA] at he
    split at he
    · rename_i t ht
      cases he
      have hb := ev_ok hr h1
      rw [ht] at hb
      generalize hcv : a.eval c = cv at hb
      cases hb
      cases t
      · exact .same H db (val := a.eval y) (by simp [execOp, ho, hcv, asBool]) (by simpa using ev_ok hr h3)
      · exact .same H db (val := a.eval x) (by simp [execOp, ho, hcv, asBool]) (by simpa using ev_ok hr h2)
    · cases he
  · cases hc

theorem extr_ok (H : HRel C D w V ρ s.h) (db : ∀ b, D b → b < w.heap.size) (hr : Regs D w V ρ s a) {o : Oper} {x : Operand} {i : Nat} (ho : o.op = .extract x i) {ao : AOp} (hc : compOp P (.extract x i) = some ao) {v : AV}
    (he : opA s ao = some (v, s')) : OpPost C D ρ w V s s' v ((execOp a.eval o).run P w) := by
  simp only [compOp] at hc
  cases hx : absO x with
  | none => simp [hx] at hc
  | some y =>
    simp [hx] at hc; subst hc
    simp only [opA] at he
    split at he
    · rename_i vs hvs
      cases hi : vs[i]? with
      | none => simp [hi] at he
      | some u =>
        simp [hi] at he
        obtain ⟨rfl, rfl⟩ := he
        have hb := ev_ok hr hx
        rw [hvs] at hb
        obtain ⟨us, hus, hl⟩ := hb.tup_inv
        have hlt : i < us.toList.length := by rw [← hl.1]; exact (List.getElem?_eq_some_iff.1 hi).1
        have hq : us[i]? = some us[i] := Array.getElem?_eq_getElem (by simpa using hlt)
        exact .same H db (val := us[i]) (by simp [execOp, ho, hus, Instr.extract, hq]) (hl.2 i u _ hi (by rw [Array.getElem?_toList]; exact hq))
    · cases he

theorem nilck_ok (H : HRel C D w V ρ s.h) (db : ∀ b, D b → b < w.heap.size) (hr : Regs D w V ρ s a) {o : Oper} {x : Operand} (ho : o.op = .nilCheck x) {ao : AOp} (hc : compOp P (.nilCheck x) = some ao) {v : AV}
    (he : opA s ao = some (v, s')) : OpPost C D ρ w V s s' v ((execOp a.eval o).run P w) := by
  simp only [compOp] at hc
  cases hx : absO x with
  | none => simp [hx] at hc
  | some y =>
    simp [hx] at hc; subst hc
    have hb := ev_ok hr hx
    generalize hxv : a.eval x = xv at hb
    simp only [opA] at he
    generalize hyv : y.ev s = yv at hb he
    cases hb <;> simp at he <;> obtain ⟨rfl, rfl⟩ := he
    · rename_i id off ad hid ha; exact .same H db (by simp [execOp, ho, hxv]) (.ptr hid ha)
    · rename_i cs off b o' c hD hc' h1; exact .same H db (by simp [execOp, ho, hxv]) (.ip c hD hc' h1)
    · rename_i f first caps vf vc lf lc hf hc'; exact .same H db (by simp [execOp, ho, hxv]) (.fn lf lc hf hc')
    · rename_i id l hid hl; exact .same H db (by simp [execOp, ho, hxv]) (.yld hid hl)

theorem faddr_ok (H : HRel C D w V ρ s.h) (db : ∀ b, D b → b < w.heap.size) (hr : Regs D w V ρ s a) {o : Oper} {t : TypeId} {x : Operand} {f : Nat} (ho : o.op = .fieldAddr t x f) {ao : AOp} (hc : compOp P (.fieldAddr t x f) = some ao) {v : AV}
    (he : opA s ao = some (v, s')) : OpPost C D ρ w V s s' v ((execOp a.eval o).run P w) := by
  simp only [compOp] at hc
  split at hc
  · rename_i fs y hu hy
    split at hc
    · rename_i fd hfd
      split at hc
      · rename_i n hn
        split at hc
        · cases hc
        · rename_i hn0
          cases hc
          have hb := ev_ok hr hy
          generalize hxv : a.eval x = xv at hb
          simp only [opA] at he
          generalize hyv : y.ev s = yv at hb he
          have run : ∀ ad : Addr, xv = .pointer (some ad) → (execOp a.eval o).run P w = .ok (.value (.pointer (some (ad.add fd.offset)))) w := fun ad e => by
            simp [execOp, ho, hxv, e, Instr.fieldAt, run_underlying hu, hfd, Instr.sureAddr, fieldPlace, run_sz hn, hn0]
          cases hb <;> simp at he <;> obtain ⟨rfl, rfl⟩ := he
          · rename_i id off ad hid ha
            refine .same H db (run ad rfl) (.ptr hid fun b hb => ?_)
            rw [ha b hb, addr_add]
          · rename_i cs off b o' c hD hc' h1
            refine .same H db (run _ rfl) ?_
            rw [addr_add, Nat.add_assoc]
            exact .ip c hD hc' h1
      · cases hc
    · cases hc
  · cases hc

theorem natOf_ok {x : AV} {v : Value} (hR : R D w V ρ x v) {n : Nat} (hn : natOf x = some n) : ∃ k i, v = .int k i ∧ 0 ≤ i ∧ i.toNat = n := by
  unfold natOf at hn
  split at hn
  · split at hn
    · cases hn; cases hR; exact ⟨_, _, rfl, by assumption, rfl⟩
    · cases hn
  · cases hn

theorem iaA_ok (H : HRel C D w V ρ s.h) (db : ∀ b, D b → b < w.heap.size) (hr : Regs D w V ρ s a) {o : Oper} {t e : TypeId} {len : Nat} {x i : Operand} (ho : o.op = .indexAddr t x i) (hu : P.underlying t = some (.array len e)) {y j : AO} (hy : absO x = some y) (hj : absO i = some j)
    {sz : Nat} (hsz : szO P e = some sz) {v : AV} (he : opA s (.iaA len sz y j) = some (v, s')) : OpPost C D ρ w V s s' v ((execOp a.eval o).run P w) := by
  simp only [opA] at he
  split at he
  · rename_i n hn
    obtain ⟨k, q, hk, h0, hq⟩ := natOf_ok (ev_ok hr hj) hn
    split at he
    · rename_i hlt
      have hb := ev_ok hr hy
      generalize hxv : a.eval x = xv at hb
      generalize hyv : y.ev s = yv at hb he
      have hq2 : 0 ≤ q ∧ q < (len : Int) := ⟨h0, by omega⟩
      have run : ∀ ad : Addr, xv = .pointer (some ad) → (execOp a.eval o).run P w = .ok (.value (.pointer (some (ad.add (n * sz))))) w := fun ad e => by
        simp [execOp, ho, hxv, e, hk, Instr.indexAt, asIntOf, run_underlying hu, Instr.sureAddr, run_sz hsz, hq2, hq]
      cases hb <;> simp at he <;> obtain ⟨rfl, rfl⟩ := he
      · rename_i id off ad hid ha
        refine .same H db (run ad rfl) (.ptr hid fun b hb => ?_)
        rw [ha b hb, addr_add]
      · rename_i cs off b o' c hD hc' h1
        refine .same H db (run _ rfl) ?_
        rw [addr_add, Nat.add_assoc]
        exact .ip c hD hc' h1
    · cases he
  · cases he

theorem iaS_ok (H : HRel C D w V ρ s.h) (db : ∀ b, D b → b < w.heap.size) (hr : Regs D w V ρ s a) {o : Oper} {t e : TypeId} {x i : Operand} (ho : o.op = .indexAddr t x i) (hu : P.underlying t = some (.slice e)) {y j : AO} (hy : absO x = some y) (hj : absO i = some j)
    {sz : Nat} (hsz : szO P e = some sz) {v : AV} (he : opA s (.iaS sz y j) = some (v, s')) : OpPost C D ρ w V s s' v ((execOp a.eval o).run P w) := by
  simp only [opA] at he
  split at he
  · rename_i n hn
    obtain ⟨k, q, hk, h0, hq⟩ := natOf_ok (ev_ok hr hj) hn
    have hb := ev_ok hr hy
    generalize hxv : a.eval x = xv at hb
    generalize hyv : y.ev s = yv at hb he
    have run : ∀ (ad : Addr) (len cap : Nat), n < len → xv = .slice (some ad) len cap → (execOp a.eval o).run P w = .ok (.value (.pointer (some (ad.add (n * sz))))) w := fun ad len cap hl e => by
      have hq2 : 0 ≤ q ∧ q < (len : Int) := ⟨h0, by omega⟩
      simp [execOp, ho, hxv, e, hk, Instr.indexAt, asIntOf, run_underlying hu, run_sz hsz, hq2, hq]
    cases hb with
    | sl hid hn' hc' ha =>
      simp only [] at he
      split at he
      · rename_i hlt
        obtain ⟨hlt, hz⟩ := hlt
        cases he
        refine .same H db (run _ _ _ hlt rfl) (.ptr hid fun b hb => ?_)
        rcases ha b hb with h00 | ⟨h1, _⟩
        · omega
        · rw [h1, addr_add, ← hz]
      · cases he
    | imn _ _ => simp at he
    | @im _ _ els clip b o' sz' cap c hn' hcl hD hl hc' h1 =>
      simp only [] at he
      split at he
      · rename_i el hel
        split at he
        · rename_i hes
          cases he
          have hlt := (List.getElem?_eq_some_iff.1 hel).1
          have hmem : el ∈ els := List.mem_of_getElem? hel
          have hsz' : sz' = sz := by rw [← hl el hmem]; exact hes
          subst hsz'
          refine .same H db (run _ _ _ hlt rfl) ?_
          rw [addr_add]
          exact R.ip (off := 0) (o := o' + n * sz') (c n) hD (fun j hj => by rw [Nat.add_assoc]; exact hc' n j hlt (by rw [← hes]; exact hj)) (fun j x hx => h1 n j el x hel hx)
        · cases he
      · cases he
    | _ => simp at he
  · cases he
end
end Go.Proofs.Hz
namespace Go.Proofs.Hz
open Go.RowKit

section
variable {G : Gl} {C : CodeRel} {P : Program} {D D' : Nat → Prop} {ρ ρ' : Ren} {w w' : World} {V V' : Ids} {h : T Blk} {s s' : St} {a : Act}

theorem intBin_ok {op : BinOp} {k : IntKind} {x y : Int} {v : AV} (hs : isSh op = false) (hv : intBin op k x y = some v) (t : TypeId) :
    ∃ u, (binOp op t (.int k x) (.int k y)).run P w = .ok u w ∧ R D w V ρ v u := by
  cases op <;> simp [isSh] at hs <;> simp only [intBin, bvBits] at hv
  all_goals first
    | (cases hv; refine ⟨_, ?_, R.int _ _⟩; simp [binOp, Op.intArith]; done)
    | (cases hv; refine ⟨_, ?_, R.bool _⟩; simp [binOp, Op.intCmp]; done)
    | (split at hv
       · cases hv
       · rename_i hy; cases hv; refine ⟨_, ?_, R.int _ _⟩; simp [binOp, Op.intDiv, hy]; done)
    | (simp only [Option.map_some, Option.some.injEq] at hv; subst hv; refine ⟨_, ?_, R.int _ _⟩; simp [binOp, Op.intBits]; done)

theorem shBin_ok {op : BinOp} {k k' : IntKind} {x y : Int} {v : AV} (hv : shBin op k x y = some v) (t : TypeId) :
    ∃ u, (binOp op t (.int k x) (.int k' y)).run P w = .ok u w ∧ R D w V ρ v u := by
  unfold shBin at hv
  split at hv
  · cases hv
  · rename_i hy
    cases op <;> simp at hv
    · subst hv; refine ⟨_, ?_, R.int _ _⟩; simp [binOp, Op.shift, hy]
    · subst hv; refine ⟨_, ?_, R.int _ _⟩; simp [binOp, Op.shift, hy]

theorem toList_data (s : ByteArray) : s.toList = s.data.toList := ByteArray.toList_eq s
theorem size_data (s : ByteArray) : s.size = s.data.toList.length := rfl

theorem strBin_ok {op : BinOp} {x y : ByteArray} {v : AV} (hv : strBin op x.data.toList y.data.toList = some v) (t : TypeId) :
    ∃ u, (binOp op t (.string x) (.string y)).run P w = .ok u w ∧ R D w V ρ v u := by
  cases op <;> simp only [strBin] at hv
  case add =>
    split at hv
    · rename_i hl
      cases hv
      have h1 : ¬ (((x.size + y.size : Nat) : Int) > IntKind.i64.max) := by
        rw [← size_data, ← size_data] at hl
        have : IntKind.i64.max = 9223372036854775807 := by decide
        rw [this]; omega
      exact ⟨.string (x ++ y), by simp only [binOp, Op.stringOp, if_neg h1, Sem.run_pure], .str _ (by rw [ByteArray.data_append, Array.toList_append])⟩
    · cases hv
  all_goals first
    | (cases hv; exact ⟨_, by simp only [binOp, Op.stringOp, Sem.run_pure, toList_data], .bool _⟩)
    | (cases hv; done)

theorem run_eqGuard_plain {op : BinOp} {t : TypeId} {x y : Operand} {a b : Value} (hn : ∀ c d, ¬ (a = .agg c ∧ b = .agg d)) (hi : ¬ (a = .nilIface ∧ b = .nilIface)) : (eqGuard op t x y a b).run P w = .ok () w := by
  unfold eqGuard
  cases op <;> first
    | rfl
    | (cases a <;> cases b <;> first
        | rfl
        | exact absurd ⟨rfl, rfl⟩ (hn _ _)
        | exact absurd ⟨rfl, rfl⟩ hi)

theorem bin_ok (H : HRel C D w V ρ s.h) (db : ∀ b, D b → b < w.heap.size) (hr : Regs D w V ρ s a) {o : Oper} {op : BinOp} {t ty : TypeId} {x y : Operand} (ho : o.op = .binOp op t x y ty) {x' y' : AO} (hx : absO x = some x') (hy : absO y = some y')
    {v : AV} (he : opA s (.bin op x' y') = some (v, s')) : OpPost C D ρ w V s s' v ((execOp a.eval o).run P w) := by
  simp only [opA] at he
  cases hv : binA op (x'.ev s) (y'.ev s) with
  | none => simp [hv] at he
  | some u =>
    simp [hv] at he
    obtain ⟨rfl, rfl⟩ := he
    have h1 := ev_ok hr hx
    have h2 := ev_ok hr hy
    generalize hxv : a.eval x = xv at h1
    generalize hyv : a.eval y = yv at h2
    generalize x'.ev s = xa at h1 hv
    generalize y'.ev s = ya at h2 hv
    have fin : ∀ val, (binOp op t xv yv).run P w = .ok val w → (eqGuard op t x y xv yv).run P w = .ok () w → R D w V ρ u val → OpPost C D ρ w V s s u ((execOp a.eval o).run P w) := fun val hb hg hR =>
      .same H db (by simp only [execOp, ho, hxv, hyv, Sem.run_bind, hg, Result.andThen_ok, hb, Sem.run_pure]) hR
    unfold binA at hv
    split at hv
    · rename_i k1 a1 k2 a2
      cases h1; cases h2
      have hg : (eqGuard op t x y (.int k1 a1) (.int k2 a2)).run P w = .ok () w := run_eqGuard_plain (by simp) (by simp)
      split at hv
      · obtain ⟨val, hb, hR⟩ := shBin_ok (P := P) (w := w) (D := D) (V := V) (ρ := ρ) hv t
        exact fin val hb hg hR
      · rename_i hs
        split at hv
        · rename_i hk; subst hk
          obtain ⟨val, hb, hR⟩ := intBin_ok (P := P) (w := w) (D := D) (V := V) (ρ := ρ) (by simpa using hs) hv t
          exact fin val hb hg hR
        · cases hv
    · cases h1 with
      | str sx hsx => cases h2 with
        | str sy hsy =>
          subst hsx; subst hsy
          obtain ⟨val, hb, hR⟩ := strBin_ok (P := P) (w := w) (D := D) (V := V) (ρ := ρ) hv t
          exact fin val hb (run_eqGuard_plain (by simp) (by simp)) hR
    · cases hv

theorem eqb_ok (H : HRel C D w V ρ s.h) (db : ∀ b, D b → b < w.heap.size) (hr : Regs D w V ρ s a) {o : Oper} {op : BinOp} {t ty : TypeId} {x y : Operand} (ho : o.op = .binOp op t x y ty) (hop : op = .eql ∨ op = .neq) (hu : P.underlying t = some .bool) {x' y' : AO} (hx : absO x = some x') (hy : absO y = some y')
    {v : AV} (he : opA s (.eqb (op == .neq) x' y') = some (v, s')) : OpPost C D ρ w V s s' v ((execOp a.eval o).run P w) := by
  simp only [opA] at he
  split at he
  · rename_i b1 b2 e1 e2
    cases he
    have h1 := ev_ok hr hx
    have h2 := ev_ok hr hy
    rw [e1] at h1; rw [e2] at h2
    generalize hxv : a.eval x = xv at h1
    generalize hyv : a.eval y = yv at h2
    cases h1; cases h2
    have hg : (eqGuard op t x y (.bool b1) (.bool b2)).run P w = .ok () w := run_eqGuard_plain (by simp) (by simp)
    have heq := run_equal_bool (P := P) w t b1 b2 hu
    rcases hop with rfl | rfl
    · exact .same H db (val := .bool (b1 == b2)) (by simp only [execOp, ho, hxv, hyv, Sem.run_bind, hg, Result.andThen_ok, binOp, heq, Sem.run_pure]) (.bool _)
    · exact .same H db (val := .bool (!(b1 == b2))) (by simp only [execOp, ho, hxv, hyv, Sem.run_bind, hg, Result.andThen_ok, binOp, heq, Sem.run_pure]) (.bool _)
  · cases he

theorem eqF_nn (d : Nat) {t : TypeId} {p q : Array TypeId} {r : Bool} (hu : P.underlying t = some (.func p q r)) : (Op.equalIn (d + 1) t .nilFunc .nilFunc).run P w = .ok true w := by
  simp only [Op.equalIn, Sem.run_bind, run_underlying hu, Result.andThen_ok]; rfl
theorem eqF_nf (d : Nat) {t : TypeId} {p q : Array TypeId} {r : Bool} (hu : P.underlying t = some (.func p q r)) (f : Fn) (x y : Array Value) : (Op.equalIn (d + 1) t .nilFunc (.func f x y)).run P w = .ok false w := by
  simp only [Op.equalIn, Sem.run_bind, run_underlying hu, Result.andThen_ok]; rfl
theorem eqF_fn (d : Nat) {t : TypeId} {p q : Array TypeId} {r : Bool} (hu : P.underlying t = some (.func p q r)) (f : Fn) (x y : Array Value) : (Op.equalIn (d + 1) t (.func f x y) .nilFunc).run P w = .ok false w := by
  simp only [Op.equalIn, Sem.run_bind, run_underlying hu, Result.andThen_ok]; rfl
theorem eqP_n (d : Nat) {t e : TypeId} (hu : P.underlying t = some (.pointer e)) (b : Option Addr) : (Op.equalIn (d + 1) t (.pointer none) (.pointer b)).run P w = .ok b.isNone w := by
  simp only [Op.equalIn, Sem.run_bind, run_underlying hu, Result.andThen_ok]; rfl
theorem eqP_s (d : Nat) {t e : TypeId} (hu : P.underlying t = some (.pointer e)) (b : Addr) : (Op.equalIn (d + 1) t (.pointer (some b)) (.pointer none)).run P w = .ok false w := by
  simp only [Op.equalIn, Sem.run_bind, run_underlying hu, Result.andThen_ok]; rfl
theorem eqI_nn (d : Nat) {t : TypeId} {m : Array (String × TypeId)} (hu : P.underlying t = some (.interface m)) : (Op.equalIn (d + 1) t .nilIface .nilIface).run P w = .ok true w := by
  simp only [Op.equalIn, Sem.run_bind, run_underlying hu, Result.andThen_ok]; rfl
theorem eqI_nf (d : Nat) {t : TypeId} {m : Array (String × TypeId)} (hu : P.underlying t = some (.interface m)) (u : TypeId) (v : Value) : (Op.equalIn (d + 1) t .nilIface (.iface u v)).run P w = .ok false w := by
  simp only [Op.equalIn, Sem.run_bind, run_underlying hu, Result.andThen_ok]; rfl
theorem eqI_fn (d : Nat) {t : TypeId} {m : Array (String × TypeId)} (hu : P.underlying t = some (.interface m)) (u : TypeId) (v : Value) : (Op.equalIn (d + 1) t (.iface u v) .nilIface).run P w = .ok false w := by
  simp only [Op.equalIn, Sem.run_bind, run_underlying hu, Result.andThen_ok]; rfl

theorem eqn_ok (H : HRel C D w V ρ s.h) (db : ∀ b, D b → b < w.heap.size) (hr : Regs D w V ρ s a) {o : Oper} {op : BinOp} {t ty : TypeId} {x y : Operand} {k : Nat} (ho : o.op = .binOp op t x y ty) (hop : op = .eql ∨ op = .neq)
    (hu : (k = 0 ∧ ∃ p q r, P.underlying t = some (.func p q r)) ∨ (k = 1 ∧ ∃ e, P.underlying t = some (.pointer e)) ∨ (k = 2 ∧ (isNilC x || isNilC y) = true ∧ ∃ m, P.underlying t = some (.interface m))) {x' y' : AO} (hx : absO x = some x') (hy : absO y = some y')
    {v : AV} (he : opA s (.eqn k (op == .neq) x' y') = some (v, s')) : OpPost C D ρ w V s s' v ((execOp a.eval o).run P w) := by
  simp only [opA] at he
  split at he
  · rename_i b1 b2 e1 e2
    split at he
    · rename_i hone
      cases he
      have h1 := ev_ok hr hx
      have h2 := ev_ok hr hy
      generalize hxv : a.eval x = xv at h1
      generalize hyv : a.eval y = yv at h2
      generalize x'.ev s = xa at h1 e1
      generalize y'.ev s = ya at h2 e2
      have fin : (eqGuard op t x y xv yv).run P w = .ok () w → (Op.equal t xv yv).run P w = .ok (b1 && b2) w → (∀ op, op = .eql ∨ op = .neq → (binOp op t xv yv) = (if op == .neq then (do pure (.bool (!(← Op.equal t xv yv)))) else do pure (.bool (← Op.equal t xv yv)))) → OpPost C D ρ w V s s (.bool (if (op == .neq) = true then !(b1 && b2) else b1 && b2)) ((execOp a.eval o).run P w) := fun hg heq hb => by
        rcases hop with rfl | rfl
        · exact .same H db (val := .bool (b1 && b2)) (by simp only [execOp, ho, hxv, hyv, Sem.run_bind, hg, Result.andThen_ok, hb .eql (.inl rfl)]; simp [heq]) (.bool _)
        · exact .same H db (val := .bool (!(b1 && b2))) (by simp only [execOp, ho, hxv, hyv, Sem.run_bind, hg, Result.andThen_ok, hb .neq (.inr rfl)]; simp [heq]) (.bool _)
      rcases hu with ⟨rfl, p, q, r, hu⟩ | ⟨rfl, e, hu⟩ | ⟨rfl, hc, m, hu⟩
      · cases xa <;> simp only [isNilA] at e1 <;> cases e1 <;> cases ya <;> simp only [isNilA] at e2 <;> cases e2 <;> simp at hone <;> cases h1 <;> cases h2
        all_goals (refine fin (run_eqGuard_plain (by simp) (by simp)) ?_ ?_)
        all_goals first
          | exact eqF_nn 9999 hu
          | exact eqF_nf 9999 hu _ _ _
          | exact eqF_fn 9999 hu _ _ _
          | exact eqP_n 9999 hu _
          | exact eqP_s 9999 hu _
          | exact eqI_nn 9999 hu
          | exact eqI_nf 9999 hu _ _
          | exact eqI_fn 9999 hu _ _
          | (intro op hop'; rcases hop' with rfl | rfl <;> rfl)
      · cases xa <;> simp only [isNilA] at e1 <;> cases e1 <;> cases ya <;> simp only [isNilA] at e2 <;> cases e2 <;> simp at hone <;> cases h1 <;> cases h2
        all_goals (refine fin (run_eqGuard_plain (by simp) (by simp)) ?_ ?_)
        all_goals first
          | exact eqF_nn 9999 hu
          | exact eqF_nf 9999 hu _ _ _
          | exact eqF_fn 9999 hu _ _ _
          | exact eqP_n 9999 hu _
          | exact eqP_s 9999 hu _
          | exact eqI_nn 9999 hu
          | exact eqI_nf 9999 hu _ _
          | exact eqI_fn 9999 hu _ _
          | (intro op hop'; rcases hop' with rfl | rfl <;> rfl)
      · have hg0 : (eqGuard op t x y .nilIface .nilIface).run P w = .ok () w := by
          unfold eqGuard
          rcases hop with rfl | rfl <;> cases x <;> cases y <;> first | rfl | (simp [isNilC] at hc; done)
        cases xa <;> simp only [isNilA] at e1 <;> cases e1 <;> cases ya <;> simp only [isNilA] at e2 <;> cases e2 <;> simp at hone <;> cases h1 <;> cases h2
        · refine fin hg0 (eqI_nn 9999 hu) ?_
          intro op hop'; rcases hop' with rfl | rfl <;> rfl
        all_goals (refine fin (run_eqGuard_plain (by simp) (by simp)) ?_ ?_)
        all_goals first
          | exact eqF_nn 9999 hu
          | exact eqF_nf 9999 hu _ _ _
          | exact eqF_fn 9999 hu _ _ _
          | exact eqP_n 9999 hu _
          | exact eqP_s 9999 hu _
          | exact eqI_nn 9999 hu
          | exact eqI_nf 9999 hu _ _
          | exact eqI_fn 9999 hu _ _
          | (intro op hop'; rcases hop' with rfl | rfl <;> rfl)
    · cases he
  · cases he

theorem eqS_nn (d : Nat) {t e : TypeId} (hu : P.underlying t = some (.slice e)) (n c : Nat) (b : Option Addr) (m k : Nat) : (Op.equalIn (d + 1) t (.slice none n c) (.slice b m k)).run P w = .ok b.isNone w := by
  simp only [Op.equalIn, Sem.run_bind, run_underlying hu, Result.andThen_ok]; rfl
theorem eqS_sn (d : Nat) {t e : TypeId} (hu : P.underlying t = some (.slice e)) (a : Addr) (n c m k : Nat) : (Op.equalIn (d + 1) t (.slice (some a) n c) (.slice none m k)).run P w = .ok false w := by
  simp only [Op.equalIn, Sem.run_bind, run_underlying hu, Result.andThen_ok]; rfl
/-- A row held against nil. -/
theorem eqs_ok (H : HRel C D w V ρ s.h) (db : ∀ b, D b → b < w.heap.size) (hr : Regs D w V ρ s a) {o : Oper} {op : BinOp} {t ty e : TypeId} {x y : Operand} (ho : o.op = .binOp op t x y ty) (hop : op = .eql ∨ op = .neq)
    (hu : P.underlying t = some (.slice e)) (hn : isNilT y = true) {x' : AO} (hx : absO x = some x')
    {v : AV} (he : opA s (.eqn 3 (op == .neq) x' (.c .nils)) = some (v, s')) : OpPost C D ρ w V s s' v ((execOp a.eval o).run P w) := by
  have hy : a.eval y = .slice none 0 0 := by
    unfold isNilT at hn
    split at hn
    · rfl
    · cases hn
  simp only [opA] at he
  split at he
  · rename_i b1 b2 e1 e2
    cases e2
    split at he
    · cases he
      have h1 := ev_ok hr hx
      generalize hxv : a.eval x = xv at h1
      generalize x'.ev s = xa at h1 e1
      have fin : (Op.equal t xv (.slice none 0 0)).run P w = .ok (b1 && true) w → (eqGuard op t x y xv (.slice none 0 0)).run P w = .ok () w → (∀ op, op = .eql ∨ op = .neq → (binOp op t xv (.slice none 0 0)) = (if op == .neq then (do pure (.bool (!(← Op.equal t xv (.slice none 0 0))))) else do pure (.bool (← Op.equal t xv (.slice none 0 0))))) → OpPost C D ρ w V s s (.bool (if (op == .neq) = true then !(b1 && true) else b1 && true)) ((execOp a.eval o).run P w) := fun heq hg hb => by
        rcases hop with rfl | rfl
        · exact .same H db (val := .bool (b1 && true)) (by simp only [execOp, ho, hxv, hy, Sem.run_bind, hg, Result.andThen_ok, hb .eql (.inl rfl)]; simp [heq]) (.bool _)
        · exact .same H db (val := .bool (!(b1 && true))) (by simp only [execOp, ho, hxv, hy, Sem.run_bind, hg, Result.andThen_ok, hb .neq (.inr rfl)]; simp [heq]) (.bool _)
      unfold isNilA at e1
      split at e1 <;> first | (cases e1; done) | skip
      all_goals first | (rename_i hk; cases hk; done) | skip
      · cases e1
        cases h1
        refine fin (eqS_nn 9999 hu _ _ _ _ _) (run_eqGuard_plain (by simp) (by simp)) ?_
        intro op hop'; rcases hop' with rfl | rfl <;> rfl
      · cases e1
        cases h1
        refine fin (eqS_sn 9999 hu _ _ _ _ _) (run_eqGuard_plain (by simp) (by simp)) ?_
        intro op hop'; rcases hop' with rfl | rfl <;> rfl
      · cases e1
        cases h1
        refine fin (eqS_sn 9999 hu _ _ _ _ _) (run_eqGuard_plain (by simp) (by simp)) ?_
        intro op hop'; rcases hop' with rfl | rfl <;> rfl
    · cases he
  · cases he

theorem un_ok (H : HRel C D w V ρ s.h) (db : ∀ b, D b → b < w.heap.size) (hr : Regs D w V ρ s a) {o : Oper} {op : UnOp} {t : TypeId} {x : Operand} (ho : o.op = .unOp op t x) {x' : AO} (hx : absO x = some x')
    {v : AV} (he : opA s (.un op x') = some (v, s')) : OpPost C D ρ w V s s' v ((execOp a.eval o).run P w) := by
  simp only [opA] at he
  cases hv : unA op (x'.ev s) with
  | none => simp [hv] at he
  | some u =>
    simp [hv] at he
    obtain ⟨rfl, rfl⟩ := he
    have h1 := ev_ok hr hx
    generalize hxv : a.eval x = xv at h1
    generalize x'.ev s = xa at h1 hv
    unfold unA at hv
    split at hv
    · cases hv; cases h1; exact .same H db (by simp [execOp, ho, hxv, Op.unary]) (.bool _)
    · cases hv; cases h1; exact .same H db (by simp [execOp, ho, hxv, Op.unary, Op.intArith]) (.int _ _)
    · rename_i k n
      simp [bvBits] at hv; subst hv; cases h1
      exact .same H db (by simp [execOp, ho, hxv, Op.unary, Op.intBits]) (.int _ _)
    · cases hv

theorem conv_ok (H : HRel C D w V ρ s.h) (db : ∀ b, D b → b < w.heap.size) (hr : Regs D w V ρ s a) {o : Oper} {src dst : TypeId} {k k0 : IntKind} {x : Operand} (ho : o.op = .convert src dst x) (h1 : P.underlying src = some (.int k0)) (h2 : P.underlying dst = some (.int k)) {x' : AO} (hx : absO x = some x')
    {v : AV} (he : opA s (.conv k x') = some (v, s')) : OpPost C D ρ w V s s' v ((execOp a.eval o).run P w) := by
  simp only [opA] at he
  split at he
  · rename_i k' n e1
    cases he
    have h := ev_ok hr hx
    rw [e1] at h
    generalize hxv : a.eval x = xv at h
    cases h
    exact .same H db (by simp [execOp, ho, hxv, convert, run_underlying h1, run_underlying h2, Conv.intToInt]) (.int _ _)
  · cases he

theorem mvs_ok (H : HRel C D w V ρ s.h) (db : ∀ b, D b → b < w.heap.size) (hr : Regs D w V ρ s a) {o : Oper} {src dst : TypeId} {x : Operand} (ho : o.op = .convert src dst x) (h1 : P.underlying src = some .string) (h2 : P.underlying dst = some .string) {x' : AO} (hx : absO x = some x')
    {v : AV} (he : opA s (.mvs x') = some (v, s')) : OpPost C D ρ w V s s' v ((execOp a.eval o).run P w) := by
  simp only [opA] at he
  split at he
  · rename_i l e1
    cases he
    have h := ev_ok hr hx
    rw [e1] at h
    generalize hxv : a.eval x = xv at h
    cases h with
    | str sx hsx => exact .same H db (val := .string sx) (by simp [execOp, ho, hxv, convert, run_underlying h1, run_underlying h2]) (.str sx hsx)
  · cases he

theorem evs_ok (hr : Regs D w V ρ s a) {xs : List Operand} {ys : List AO} (hx : mapO absO xs = some ys) : RL D w V ρ (ys.map (AO.ev s)) (xs.map a.eval) := by
  obtain ⟨h1, h2⟩ := mapO_spec hx
  refine ⟨by simp [h1], fun j x v hx hv => ?_⟩
  rw [List.getElem?_map] at hx hv
  cases hy : ys[j]? with
  | none => simp [hy] at hx
  | some y =>
    cases hz : xs[j]? with
    | none => simp [hz] at hv
    | some z =>
      simp [hy] at hx; simp [hz] at hv
      subst hx; subst hv
      exact ev_ok hr (h2 j z y hz hy)

theorem fn_of_RL {f : Nat} {first caps : List AV} {vf vc : Array Value} (h1 : RL D w V ρ first vf.toList) (h2 : RL D w V ρ caps vc.toList) : R D w V ρ (.fn f first caps) (.func (.func f) vf vc) :=
  .fn (by simpa using h1.1) (by simpa using h2.1) (fun j x v hx hv => h1.2 j x v hx (by simpa using hv)) (fun j x v hx hv => h2.2 j x v hx (by simpa using hv))

theorem mkfn_ok (H : HRel C D w V ρ s.h) (db : ∀ b, D b → b < w.heap.size) (hr : Regs D w V ρ s a) {o : Oper} {f : Nat} {fs cs : Array Operand} (ho : o.op = .makeFunc (.func f) fs cs) {fs' cs' : List AO} (h1 : mapO absO fs.toList = some fs') (h2 : mapO absO cs.toList = some cs') :
    OpPost C D ρ w V s s (.fn f (fs'.map (AO.ev s)) (cs'.map (AO.ev s))) ((execOp a.eval o).run P w) :=
  .same H db (val := .func (.func f) (fs.map a.eval) (cs.map a.eval)) (by simp [execOp, ho, Instr.makeFunc]) (fn_of_RL (by simpa using evs_ok hr h1) (by simpa using evs_ok hr h2))

theorem part_ok {t : TypeId} {g : Bool} {n off : Nat} (hg : gO P t = some g) (hn : szO P t = some n) {cs l : List AV} {vs : Array Value} (hr : RL D w V ρ cs vs.toList) (hl : rdAt cs off n = some l) {v : AV} (hv : ofCells g l = some v) (h1 : g = false → n = 1) :
    ∃ u, (part t vs off).run P w = .ok u w ∧ R D w V ρ v u := by
  obtain ⟨hle, rfl, hlen⟩ := rdAt_spec hl
  have hsz : cs.length = vs.size := by simpa using hr.1
  rcases ofCells_ok ((hr.drop off).take n) hv with ⟨rfl, hR⟩ | ⟨rfl, u, hu, hR⟩
  · refine ⟨_, ?_, hR⟩
    have : (List.take n (List.drop off vs.toList)).toArray = vs.extract off (off + n) := by
      apply Array.ext'
      rw [Array.toList_extract, List.extract_eq_take_drop]
      simp
    simp [part, run_g hg, run_sz hn, this]
  · refine ⟨u, ?_, hR⟩
    have : vs[off]? = some u := by
      have h2 : (List.take n (List.drop off vs.toList))[0]? = some u := by rw [hu]; rfl
      rw [List.getElem?_take, h1 rfl, if_pos (by omega), List.getElem?_drop, Nat.add_zero, Array.getElem?_toList] at h2
      exact h2
    simp [part, run_g hg, this]

theorem fld_ok (H : HRel C D w V ρ s.h) (db : ∀ b, D b → b < w.heap.size) (hr : Regs D w V ρ s a) {o : Oper} {t : TypeId} {x : Operand} {f : Nat} (ho : o.op = .field t x f) {ao : AOp} (hc : compOp P (.field t x f) = some ao) {v : AV}
    (he : opA s ao = some (v, s')) : OpPost C D ρ w V s s' v ((execOp a.eval o).run P w) := by
  simp only [compOp] at hc
  split at hc
  · rename_i fs y hu hy
    split at hc
    · rename_i fd hfd
      split at hc
      · rename_i g n hg hn
        split at hc
        · rename_i hgn
          cases hc
          simp only [opA] at he
          split at he
          · rename_i cs hcs
            split at he
            · rename_i l hl
              cases hv : ofCells g l with
              | none => simp [hv] at he
              | some u =>
                simp [hv] at he
                obtain ⟨rfl, rfl⟩ := he
                have hb := ev_ok hr hy
                rw [hcs] at hb
                obtain ⟨vs, hvs, hR⟩ := hb.agg_inv
                obtain ⟨val, h1, h2⟩ := part_ok (P := P) hg hn hR hl hv hgn
                exact .same H db (by simp [execOp, ho, hvs, Instr.field, run_underlying hu, hfd, asAgg, h1]) h2
            · cases he
          · cases he
        · cases hc
      · cases hc
    · cases hc
  · cases hc

theorem ixA_ok (H : HRel C D w V ρ s.h) (db : ∀ b, D b → b < w.heap.size) (hr : Regs D w V ρ s a) {o : Oper} {t e : TypeId} {len : Nat} {x i : Operand} (ho : o.op = .index t x i) (hu : P.underlying t = some (.array len e)) {y j : AO} (hy : absO x = some y) (hj : absO i = some j)
    {g : Bool} {sz : Nat} (hg : gO P e = some g) (hsz : szO P e = some sz) (hgn : g = false → sz = 1) {v : AV} (he : opA s (.ixA g len sz y j) = some (v, s')) : OpPost C D ρ w V s s' v ((execOp a.eval o).run P w) := by
  simp only [opA] at he
  split at he
  · rename_i n cs hn hcs
    obtain ⟨k, q, hk, h0, hq⟩ := natOf_ok (ev_ok hr hj) hn
    split at he
    · rename_i hlt
      split at he
      · rename_i l hl
        cases hv : ofCells g l with
        | none => simp [hv] at he
        | some u =>
          simp [hv] at he
          obtain ⟨rfl, rfl⟩ := he
          have hb := ev_ok hr hy
          rw [hcs] at hb
          obtain ⟨vs, hvs, hR⟩ := hb.agg_inv
          obtain ⟨val, h1, h2⟩ := part_ok (P := P) hg hsz hR hl hv hgn
          have hq2 : 0 ≤ q ∧ q < (len : Int) := ⟨h0, by omega⟩
          exact .same H db (by simp [execOp, ho, hvs, hk, Instr.index, asIntOf, run_underlying hu, hq2, run_sz hsz, hq, h1]) h2
      · cases he
    · cases he
  · cases he

theorem ixS_ok (H : HRel C D w V ρ s.h) (db : ∀ b, D b → b < w.heap.size) (hr : Regs D w V ρ s a) {o : Oper} {t : TypeId} {x i : Operand} (ho : o.op = .index t x i) (hu : P.underlying t = some .string) {y j : AO} (hy : absO x = some y) (hj : absO i = some j)
    {v : AV} (he : opA s (.ixS y j) = some (v, s')) : OpPost C D ρ w V s s' v ((execOp a.eval o).run P w) := by
  simp only [opA] at he
  split at he
  · rename_i n b hn hb
    obtain ⟨k, q, hk, h0, hq⟩ := natOf_ok (ev_ok hr hj) hn
    cases hc : b[n]? with
    | none => simp [hc] at he
    | some c =>
      simp [hc] at he
      obtain ⟨rfl, rfl⟩ := he
      have h1 := ev_ok hr hy
      rw [hb] at h1
      generalize hxv : a.eval x = xv at h1
      cases h1 with
      | str sx hsx =>
        subst hsx
        have hlt : n < sx.size := by rw [size_data]; exact (List.getElem?_eq_some_iff.1 hc).1
        have hidx : sx[n] = c := by
          have := hc
          rw [List.getElem?_eq_getElem (by rw [← size_data]; exact hlt)] at this
          exact Option.some.inj this
        have hq3 : (if 0 ≤ q then sx[q.toNat]? else none) = some c := by
          rw [if_pos h0, hq, getElem?_pos sx n hlt, hidx]
        exact .same H db (by simp only [execOp, ho, hxv, hk, Instr.index, asIntOf, Sem.run_bind, Sem.run_pure, Result.andThen_ok, run_underlying hu, hq3]) (.int _ _)
  · cases he

theorem len_ok (H : HRel C D w V ρ s.h) {k : Nat} {t : TypeId} {xv : Value} {x' : AO} (hR : R D w V ρ (x'.ev s) xv) {args : Array Value} {ts : Array TypeId} {ty : TypeId} (ht : ts[0]? = some t) (hrest : args[0]? = some xv)
    (hu : (k = 0 ∧ ∃ e, P.underlying t = some (.slice e)) ∨ (k = 1 ∧ P.underlying t = some .string) ∨ (k = 2 ∧ ∃ k e, P.underlying t = some (.map k e))) {v : AV} (he : opA s (.len k x') = some (v, s')) :
    ∃ u, s' = s ∧ (Builtin.len_ ts ty args).run P w = .ok u w ∧ R D w V ρ v u := by
  simp only [opA] at he
  split at he
  · rename_i els cl e1
    cases he
    rcases hu with ⟨_, e, hu⟩ | ⟨hk, hu⟩ | ⟨hk, k, e, hu⟩ <;> first | cases hk | skip
    rw [e1] at hR
    cases hR with
    | imn hc ha => exact ⟨goInt 0, rfl, by simp [Builtin.len_, ht, hrest, run_underlying hu], .int _ _⟩
    | im c hn hcl hD hl hc h1 => exact ⟨goInt els.length, rfl, by simp [Builtin.len_, ht, hrest, run_underlying hu], .int _ _⟩
  · rename_i id off n sz c e1
    cases he
    rcases hu with ⟨_, e, hu⟩ | ⟨hk, hu⟩ | ⟨hk, k, e, hu⟩ <;> first | cases hk | skip
    rw [e1] at hR
    cases hR; exact ⟨goInt n, rfl, by simp [Builtin.len_, ht, hrest, run_underlying hu], .int _ _⟩
  · rename_i e1
    cases he
    rcases hu with ⟨_, e, hu⟩ | ⟨hk, hu⟩ | ⟨hk, k, e, hu⟩ <;> first | cases hk | skip
    rw [e1] at hR
    cases hR; exact ⟨goInt 0, rfl, by simp [Builtin.len_, ht, hrest, run_underlying hu], .int _ _⟩
  · rename_i b e1
    cases he
    rcases hu with ⟨hk, e, hu⟩ | ⟨_, hu⟩ | ⟨hk, k, e, hu⟩ <;> first | cases hk | skip
    rw [e1] at hR
    cases hR with
    | str sx hsx => subst hsx; exact ⟨goInt sx.size, rfl, by simp [Builtin.len_, ht, hrest, run_underlying hu], by rw [← size_data]; exact .int _ _⟩
  · rename_i id e1
    split at he
    · rename_i es hg
      cases he
      rcases hu with ⟨hk, e, hu⟩ | ⟨hk, hu⟩ | ⟨_, k, e, hu⟩ <;> first | cases hk | skip
      rw [e1] at hR
      cases hR with
      | mp hid hr2 =>
        obtain ⟨b, hb, hB⟩ := H.bk id _ hg
        obtain ⟨_, ents, clock, h1, h2, _⟩ := hB
        have := hr2 b hb; subst this
        refine ⟨goInt ents.size, rfl, by simp [Builtin.len_, ht, hrest, run_underlying hu, getObj, Sem.run, h1], ?_⟩
        rw [h2]; exact .int _ _
    · cases he
  · cases he
end
end Go.Proofs.Hz
