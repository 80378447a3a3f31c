/-
  All operations together: what the abstract evaluator says of one the machine does.
  Conditions: none (lemmas over any program).
-/
import Derived.Test.YtpidaficnfaedaaHzL
namespace Go.Proofs.Hz
open Go.RowKit

section
variable {C : CodeRel} {P : Program} {D D' : Nat → Prop} {ρ ρ' : Ren} {w w' : World} {V V' : Ids} {h h' : T Blk} {s s' : St} {a : Act}

theorem BPost.op {o : Oper} {c : Call} {b : Builtin} {args : Array Value} {v : AV} (ho : o.op = .call c) (hb : c.callee = .builtin b) (hargs : c.args.map a.eval = args) {f : Array TypeId → TypeId → Array Value → Sem Value}
    (hf : ∀ ts ty cs args, builtin b ts ty cs args = (do pure (.value (← f ts ty args)))) (hp : BPost C D ρ w V s s' v ((f c.argTypes o.type args).run P w)) : OpPost C D ρ w V s s' v ((execOp a.eval o).run P w) := by
  obtain ⟨val, w', D', ρ', V', h1, h2, h3, h4, h5, h6, h7, h8⟩ := hp
  refine ⟨val, w', D', ρ', V', .inl ?_, h2, h3, h4, h5, h6, h7, h8⟩
  simp [execOp, ho, resolve, hb, invoke, hf, hargs, h1]

theorem args2 {c : Call} {x y : AO} {as : List AO} (hr : Regs D w V ρ s a) (has : mapO absO c.args.toList = some as) (h2 : as = [x, y]) : ∃ u v, c.args.map a.eval = #[u, v] ∧ R D w V ρ (x.ev s) u ∧ R D w V ρ (y.ev s) v := by
  have hR := evs_ok hr has
  subst h2
  simp only [List.map_cons, List.map_nil] at hR
  obtain ⟨u, us, e1, r1, r2⟩ := hR.inv_cons
  obtain ⟨v, vs, e2, r3, r4⟩ := r2.inv_cons
  have e3 := r4.inv_nil
  subst e3
  refine ⟨u, v, ?_, r1, r3⟩
  apply Array.ext'
  simpa [e2] using e1
theorem args1 {c : Call} {x : AO} {as : List AO} (hr : Regs D w V ρ s a) (has : mapO absO c.args.toList = some as) (h2 : as = [x]) : ∃ u, c.args.map a.eval = #[u] ∧ R D w V ρ (x.ev s) u := by
  have hR := evs_ok hr has
  subst h2
  simp only [List.map_cons, List.map_nil] at hR
  obtain ⟨u, us, e1, r1, r2⟩ := hR.inv_cons
  have e3 := r2.inv_nil
  subst e3
  refine ⟨u, ?_, r1⟩
  apply Array.ext'
  simpa using e1

theorem builtin_ok (H : HRel C D w V ρ s.h) (db : ∀ b, D b → b < w.heap.size) (hr : Regs D w V ρ s a) (hf : ¬ V s.nx) {o : Oper} {c : Call} {b : Builtin} (ho : o.op = .call c) (hb : c.callee = .builtin b) {as : List AO} (has : mapO absO c.args.toList = some as) {ao : AOp} (hc : compBuiltin P b c.argTypes as = some ao) {v : AV}
    (he : opA s ao = some (v, s')) : OpPost C D ρ w V s s' v ((execOp a.eval o).run P w) := by
  unfold compBuiltin at hc
  split at hc
  · rename_i _ x y ot t h0
    split at hc
    · rename_i u h1
      obtain ⟨xv, yv, e, r1, r2⟩ := args2 hr has rfl
      exact BPost.op ho hb e (fun _ _ _ _ => rfl) (app_ok H db hf hc h0 h1 r1 r2 he)
    · cases hc
  · rename_i _ x y ot t h0
    split at hc
    · rename_i el hel
      cases hsz : szO P el with
      | none => simp [hsz] at hc
      | some sz =>
        simp [hsz] at hc; subst hc
        obtain ⟨xv, yv, e, r1, r2⟩ := args2 hr has rfl
        obtain ⟨u, w', h', rfl, p1, p2, p3, p4⟩ := cpy_ok (ty := o.type) H db hel hsz r1 r2 h0 he
        exact BPost.op ho hb e (fun _ _ _ _ => rfl) ⟨u, w', D, ρ, V, p1, p2, p3, p4, rfl, Nat.le_refl _, fun _ h => .inl h, fun b hb => Nat.lt_of_lt_of_le (db b hb) p4.size⟩
    · cases hc
  · rename_i _ x ot t h0
    obtain ⟨xv, e, r1⟩ := args1 hr has rfl
    unfold compLen at hc
    split at hc
    · rename_i el hu
      cases hc
      obtain ⟨u, rfl, p1, p2⟩ := len_ok (ty := o.type) (args := #[xv]) H r1 h0 rfl (.inl ⟨rfl, el, hu⟩) he
      exact BPost.op ho hb e (fun _ _ _ _ => rfl) (.same H db p1 p2)
    · rename_i hu
      cases hc
      obtain ⟨u, rfl, p1, p2⟩ := len_ok (ty := o.type) (args := #[xv]) H r1 h0 rfl (.inr (.inl ⟨rfl, hu⟩)) he
      exact BPost.op ho hb e (fun _ _ _ _ => rfl) (.same H db p1 p2)
    · rename_i k el hu
      cases hc
      obtain ⟨u, rfl, p1, p2⟩ := len_ok (ty := o.type) (args := #[xv]) H r1 h0 rfl (.inr (.inr ⟨rfl, k, el, hu⟩)) he
      exact BPost.op ho hb e (fun _ _ _ _ => rfl) (.same H db p1 p2)
    · rename_i n el hu
      cases hc
      simp only [opA] at he
      cases he
      refine BPost.op ho hb e (fun _ _ _ _ => rfl) (.same H db (val := goInt n) ?_ (.int _ _))
      simp [Builtin.len_, h0, run_underlying hu]
    · cases hc
  · rename_i _ x ot t h0
    split at hc
    · rename_i el hu
      cases hc
      obtain ⟨xv, e, r1⟩ := args1 hr has rfl
      obtain ⟨u, rfl, p1, p2⟩ := cap_ok (ty := o.type) (args := #[xv]) r1 h0 rfl hu he
      exact BPost.op ho hb e (fun _ _ _ _ => rfl) (.same H db p1 p2)
    · cases hc
  · cases hc
    obtain ⟨xv, yv, e, r1, r2⟩ := args2 hr has rfl
    obtain ⟨u, rfl, p1, p2⟩ := mxi_ok (P := P) (w := w) (ts := c.argTypes) (ty := o.type) r1 r2 he
    exact BPost.op ho hb e (fun _ _ _ _ => rfl) (.same H db p1 p2)
  · cases hc
    obtain ⟨xv, yv, e, r1, r2⟩ := args2 hr has rfl
    obtain ⟨u, rfl, p1, p2⟩ := mni_ok (P := P) (w := w) (ts := c.argTypes) (ty := o.type) r1 r2 he
    exact BPost.op ho hb e (fun _ _ _ _ => rfl) (.same H db p1 p2)
  · rename_i _ x y ot t h0
    split at hc
    · rename_i kk kt et hkt
      cases hc
      obtain ⟨xv, yv, e, r1, r2⟩ := args2 hr has rfl
      obtain ⟨w', h', rfl, rfl, p1, p3, p4⟩ := del_ok (ty := o.type) H db hkt r1 r2 h0 he
      exact BPost.op ho hb e (fun _ _ _ _ => rfl) ⟨undef, w', D, ρ, V, p1, undef_ok, p3, p4, rfl, Nat.le_refl _, fun _ h => .inl h, fun b hb => Nat.lt_of_lt_of_le (db b hb) p4.size⟩
    · cases hc
  · cases hc

theorem op_ok (H : HRel C D w V ρ s.h) (db : ∀ b, D b → b < w.heap.size) (hr : Regs D w V ρ s a) (hf : ¬ V s.nx) {o : Oper} {ao : AOp} (hc : compOp P o.op = some ao) {v : AV}
    (he : opA s ao = some (v, s')) : OpPost C D ρ w V s s' v ((execOp a.eval o).run P w) := by
  cases ho : o.op with
  | move x =>
    rw [ho] at hc
    simp only [compOp] at hc
    cases hx : absO x with
    | none => simp [hx] at hc
    | some y =>
      simp [hx] at hc; subst hc
      simp only [opA] at he
      cases he
      have : (execOp a.eval o).run P w = .ok (.value (a.eval x)) w := by simp [execOp, ho]
      rw [this]; exact mov_ok H db hr hx
  | assign x =>
    rw [ho] at hc
    simp only [compOp] at hc
    cases hx : absO x with
    | none => simp [hx] at hc
    | some y =>
      simp [hx] at hc; subst hc
      simp only [opA] at he
      cases he
      have : (execOp a.eval o).run P w = .ok (.value (a.eval x)) w := by simp [execOp, ho]
      rw [this]; exact mov_ok H db hr hx
  | pick c x y => rw [ho] at hc; exact pick_ok H db hr ho hc he
  | alloc t =>
    rw [ho] at hc
    simp only [compOp] at hc
    cases hz : zO P t with
    | none => simp [hz] at hc
    | some z =>
      simp [hz] at hc; subst hc
      simp only [opA] at he
      cases he
      exact alloc_ok H db hf ho hz
  | box t x =>
    rw [ho] at hc
    simp only [compOp] at hc
    cases hx : absO x with
    | none => simp [hx] at hc
    | some y =>
      simp [hx] at hc; subst hc
      simp only [opA] at he
      split at he
      · cases he; exact box_ok H db hr hf ho hx
      · cases he
  | build t ps => rw [ho] at hc; exact build_ok H db hr ho hc he
  | buildSlice t n ps => rw [ho] at hc; exact bsl_ok H db hr hf ho hc he
  | insert t m k x =>
    rw [ho] at hc
    simp only [compOp] at hc
    split at hc
    · rename_i kk kt et m' k' x' hkt hm hk hx; cases hc; exact mapup_ok H db hr (.inr ho) hkt hm hk hx he
    · cases hc
  | load t x => rw [ho] at hc; exact load_ok H db hr ho hc he
  | store t x y => rw [ho] at hc; exact store_ok H db hr ho hc he
  | ready g => rw [ho] at hc; cases hc
  | waits g => rw [ho] at hc; cases hc
  | nilCheck x => rw [ho] at hc; exact nilck_ok H db hr ho hc he
  | binOp op t x y ty =>
    rw [ho] at hc
    simp only [compOp, compBin] at hc
    split at hc
    · rename_i x' y' hx hy
      split at hc
      · rename_i hop
        split at hc
        · cases hc; exact bin_ok H db hr ho hx hy he
        · cases hc; exact bin_ok H db hr ho hx hy he
        · rename_i hu; cases hc; exact eqb_ok H db hr ho hop hu hx hy he
        · rename_i fs hu
          cases hp : plainT P 12 t with
          | none => simp [hp] at hc
          | some ks => simp [hp] at hc; subst hc; exact eqa_ok H db hr ho hop hp (by simp [gO, hu]) hx hy he
        · rename_i n e hu
          cases hp : plainT P 12 t with
          | none => simp [hp] at hc
          | some ks => simp [hp] at hc; subst hc; exact eqa_ok H db hr ho hop hp (by simp [gO, hu]) hx hy he
        · rename_i p q r hu; cases hc; exact eqn_ok H db hr ho hop (.inl ⟨rfl, p, q, r, hu⟩) hx hy he
        · rename_i e hu; cases hc; exact eqn_ok H db hr ho hop (.inr (.inl ⟨rfl, e, hu⟩)) hx hy he
        · rename_i m hu
          split at hc
          · rename_i hn; cases hc; exact eqn_ok H db hr ho hop (.inr (.inr ⟨rfl, hn, m, hu⟩)) hx hy he
          · cases hc
        · cases hc
      · cases hc; exact bin_ok H db hr ho hx hy he
    · cases hc
  | unOp op t x =>
    rw [ho] at hc
    simp only [compOp] at hc
    cases hx : absO x with
    | none => simp [hx] at hc
    | some y => simp [hx] at hc; subst hc; exact un_ok H db hr ho hx he
  | convert src dst x =>
    rw [ho] at hc
    simp only [compOp, compConv] at hc
    split at hc
    · rename_i k k' x' h1 h2 hx; cases hc; exact conv_ok H db hr ho h1 h2 hx he
    · rename_i x' h1 h2 hx; cases hc; exact mvs_ok H db hr ho h1 h2 hx he
    · rename_i e x' h1 h2 hx
      split at hc
      · rename_i h3; cases hc; exact b2s_ok H db hr ho h1 h2 h3 hx he
      · cases hc
    · cases hc
  | sliceToArrayPointer t x =>
    rw [ho] at hc
    simp only [compOp] at hc
    split at hc
    · rename_i n e x' hu hx; cases hc; exact a2p_ok H db hr ho hu hx he
    · cases hc
  | makeInterface t x => rw [ho] at hc; cases hc
  | makeFunc fn fs cs =>
    rw [ho] at hc
    cases fn with
    | func f =>
      simp only [compOp] at hc
      split at hc
      · rename_i fs' cs' h1 h2
        cases hc
        simp only [opA] at he
        cases he
        exact mkfn_ok H db hr ho h1 h2
      · cases hc
    | _ => cases hc
  | makeMap t r => rw [ho] at hc; exact mkmap_ok H db hf ho hc he
  | makeChan t x => rw [ho] at hc; cases hc
  | makeSlice t l c => rw [ho] at hc; exact mksl_ok H db hr hf ho hc he
  | slice t x lo hi mx =>
    rw [ho] at hc
    simp only [compOp, compSlice] at hc
    split at hc
    · rename_i x' lo' hi' mx' hx h1 h2 h3
      split at hc
      · rename_i n e hu
        split at hc
        · rename_i sz hsz; cases hc; exact slA_ok H db hr ho hu hsz hx h1 h2 h3 he
        · cases hc
      · rename_i e hu
        split at hc
        · rename_i sz hsz; cases hc; exact slS_ok H db hr ho hu hsz hx h1 h2 h3 he
        · cases hc
      · rename_i hu
        split at hc
        · rename_i hm
          cases hc
          cases mx with
          | none => exact slT_ok H db hr ho hu hx h1 h2 he
          | some m => simp at hm
        · cases hc
      · cases hc
    · cases hc
  | fieldAddr t x f => rw [ho] at hc; exact faddr_ok H db hr ho hc he
  | field t x f => rw [ho] at hc; exact fld_ok H db hr ho hc he
  | indexAddr t x i =>
    rw [ho] at hc
    simp only [compOp] at hc
    split at hc
    · rename_i len e x' i' hu hx hi
      cases hsz : szO P e with
      | none => simp [hsz] at hc
      | some sz => simp [hsz] at hc; subst hc; exact iaA_ok H db hr ho hu hx hi hsz he
    · rename_i e x' i' hu hx hi
      cases hsz : szO P e with
      | none => simp [hsz] at hc
      | some sz => simp [hsz] at hc; subst hc; exact iaS_ok H db hr ho hu hx hi hsz he
    · cases hc
  | index t x i =>
    rw [ho] at hc
    simp only [compOp] at hc
    split at hc
    · rename_i len e x' i' hu hx hi
      split at hc
      · rename_i g sz hg hsz
        split at hc
        · rename_i hgn; cases hc; exact ixA_ok H db hr ho hu hx hi hg hsz hgn he
        · cases hc
      · cases hc
    · rename_i x' i' hu hx hi; cases hc; exact ixS_ok H db hr ho hu hx hi he
    · cases hc
  | lookup t x i ok => rw [ho] at hc; exact look_ok H db hr ho hc he
  | mapUpdate t m k x =>
    rw [ho] at hc
    simp only [compOp] at hc
    split at hc
    · rename_i kk kt et m' k' x' hkt hm hk hx; cases hc; exact mapup_ok H db hr (.inl ho) hkt hm hk hx he
    · cases hc
  | mapEntry t m k => rw [ho] at hc; cases hc
  | entryStore t m k x => rw [ho] at hc; cases hc
  | range t x => rw [ho] at hc; cases hc
  | next x b => rw [ho] at hc; cases hc
  | entry x => rw [ho] at hc; cases hc
  | typeAssert x t u ok => rw [ho] at hc; cases hc
  | extract x i => rw [ho] at hc; exact extr_ok H db hr ho hc he
  | call c =>
    rw [ho] at hc
    simp only [compOp] at hc
    split at hc
    · rename_i as has
      split at hc
      · rename_i b hb; exact builtin_ok H db hr hf ho hb has hc he
      · rename_i f hb
        cases hx : absO f with
        | none => simp [hx] at hc
        | some y => simp [hx] at hc; subst hc; simp [opA] at he
      · cases hc
    · cases hc
  | go c => rw [ho] at hc; cases hc
  | defer c => rw [ho] at hc; cases hc
  | panic x => rw [ho] at hc; cases hc
  | send x y => rw [ho] at hc; cases hc
  | recv t x ok => rw [ho] at hc; cases hc
  | select cs b => rw [ho] at hc; cases hc
end
end Go.Proofs.Hz
