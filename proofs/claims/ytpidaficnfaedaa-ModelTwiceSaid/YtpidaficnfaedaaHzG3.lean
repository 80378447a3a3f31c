/-
  Each operation: what the abstract evaluator says of it the machine does (fourth part: slices cut, structs built, maps read).
  Conditions: none (lemmas over any program).
-/
import Derived.Test.YtpidaficnfaedaaHzG2
namespace Go.Proofs.Hz
open Go.RowKit

section
variable {C : CodeRel} {P : Program} {D D' : Nat → Prop} {ρ ρ' : Ren} {w w' : World} {V V' : Ids} {h : T Blk} {s s' : St} {a : Act}

theorem slA_ok (H : HRel C D w V ρ s.h) (db : ∀ b, D b → b < w.heap.size) (hr : Regs D w V ρ s a) {o : Oper} {t e : TypeId} {n sz : Nat} {x : Operand} {lo hi mx : Option Operand} (ho : o.op = .slice t x lo hi mx) (hu : P.underlying t = some (.array n e)) (hsz : szO P e = some sz)
    {x' : AO} {lo' hi' mx' : Option AO} (hx : absO x = some x') (h1 : absOO lo = some lo') (h2 : absOO hi = some hi') (h3 : absOO mx = some mx') {v : AV} (he : opA s (.slA n sz x' lo' hi' mx') = some (v, s')) : OpPost C D ρ w V s s' v ((execOp a.eval o).run P w) := by
  simp only [opA] at he
  split at he
  · rename_i l h' m id off hb e1
    split at he
    · rename_i cs fz hg
      split at he
      · rename_i hc
        cases he
        obtain ⟨hrun, c1, c2, c3, c4⟩ := run_bounds (P := P) (w := w) hr h1 h2 h3 (Nat.le_refl n) (Nat.le_refl n) hb false
        have hR := ev_ok hr hx
        rw [e1] at hR
        generalize hxv : a.eval x = xv at hR
        cases hR with
        | ptr hid ha =>
          rename_i ad
          obtain ⟨b, hb', hB⟩ := H.bk id _ hg
          have := ha b hb'; subst this
          obtain ⟨_, _, real, ty, mk, k1, _, k2, _⟩ := hB
          have hm : (if mx'.isSome = true then m else n) = m := by
            split
            · rfl
            · rename_i hn; exact (c4 (by simpa using hn)).symm
          rw [hm] at hrun
          refine .same H db (val := .slice (some (if m = l then ⟨b, off, none⟩ else ⟨b, off + l * sz, none⟩)) (h' - l) (m - l)) ?_ (.sl hid (by omega) (fun k hk => (Option.some.inj hk)) fun c hc' => ?_)
          · simp [execOp, ho, hxv, Instr.sliceAt, run_underlying hu, Instr.sureAddr, hrun, run_sz hsz, addr_add]
          · rw [hb'] at hc'; cases hc'
            by_cases hml : m = l
            · exact .inl (by omega)
            · refine .inr ⟨by rw [if_neg hml], real, ty, mk, k1, ?_⟩
              have : l * sz + (m - l) * sz ≤ n * sz := by rw [← Nat.add_mul]; exact Nat.mul_le_mul_right _ (by omega)
              omega
      · cases he
    · cases he
  · cases he

theorem slS_ok (H : HRel C D w V ρ s.h) (db : ∀ b, D b → b < w.heap.size) (hr : Regs D w V ρ s a) {o : Oper} {t e : TypeId} {sz : Nat} {x : Operand} {lo hi mx : Option Operand} (ho : o.op = .slice t x lo hi mx) (hu : P.underlying t = some (.slice e)) (hsz : szO P e = some sz)
    {x' : AO} {lo' hi' mx' : Option AO} (hx : absO x = some x') (h1 : absOO lo = some lo') (h2 : absOO hi = some hi') (h3 : absOO mx = some mx') {v : AV} (he : opA s (.slS sz x' lo' hi' mx') = some (v, s')) : OpPost C D ρ w V s s' v ((execOp a.eval o).run P w) := by
  simp only [opA] at he
  split at he
  · rename_i els cl e1
    split at he
    · rename_i l h' m hb
      split at he
      · rename_i hall
        cases he
        have hR := ev_ok hr hx
        rw [e1] at hR
        generalize hxv : a.eval x = xv at hR
        have hall' : ∀ e ∈ els, e.length = sz := fun e he => by simpa using List.all_eq_true.1 hall e he
        -- the machine's slice: its address, its capacity
        have run : ∀ (ad : Option Addr) (cap : Nat), xv = .slice ad els.length cap → els.length ≤ cap → ∃ m', (m' = if mx'.isSome = true then m else cap) ∧ m' ≤ cap ∧ l ≤ h' ∧ h' ≤ m' ∧ h' ≤ els.length ∧
            (execOp a.eval o).run P w = .ok (.value (.slice (if m' = l then ad else ad.map (·.add (l * sz))) (h' - l) (m' - l))) w := by
          intro ad cap hxe hle
          obtain ⟨hrun, c1, c2, c3, c4⟩ := run_bounds (P := P) (w := w) hr h1 h2 h3 hle hle hb true
          refine ⟨_, rfl, ?_, c1, ?_, by omega, ?_⟩
          · split <;> omega
          · split <;> omega
          · simp [execOp, ho, hxv, hxe, Instr.sliceAt, Instr.slice, run_underlying hu, hrun, run_sz hsz]
        have clipOk : ∀ (cap m' : Nat), (cl = true → cap = els.length) → (m' = if mx'.isSome = true then m else cap) → h' ≤ els.length → (if mx'.isSome = true then m == h' else cl && h' == els.length) = true → m' - l = h' - l := by
          intro cap m' hcl hm' hle hq
          subst hm'
          split at hq
          · rename_i hs; rw [if_pos hs]; simp at hq; omega
          · rename_i hs; rw [if_neg hs]; simp at hq; have := hcl hq.1; omega
        cases hR with
        | imn hc ha =>
          rename_i ad cap
          obtain ⟨m', hm', q1, q2, q3, q4, hrun⟩ := run ad cap rfl (Nat.zero_le _)
          have h0 : h' = 0 := by simpa using q4
          subst h0
          have hl0 : l = 0 := by omega
          subst hl0
          have hz : (List.take (0 - 0) (List.drop 0 ([] : List (List AV)))) = [] := rfl
          rw [hz]
          refine .same H db hrun ?_
          simp only [Nat.sub_zero]
          refine .imn (fun hq => ?_) (fun hn => ?_)
          · have := clipOk cap m' (fun h => hc h) hm' (Nat.zero_le _) hq; omega
          · split at hn
            · omega
            · have : cap = 0 := ha (by simpa using hn)
              omega
        | @im _ _ els clip b o' sz' cap c hn' hcl hD hl hc' hh1 =>
          obtain ⟨m', hm', q1, q2, q3, q4, hrun⟩ := run _ cap rfl hn'
          by_cases h0 : h' - l = 0
          · have hz : List.take (h' - l) (List.drop l els) = [] := by rw [h0]; rfl
            rw [hz]
            rw [h0] at hrun
            refine .same H db hrun (.imn (fun hq => ?_) (fun hn => ?_))
            · have := clipOk cap m' hcl hm' q4 hq; omega
            · split at hn <;> simp at hn
          · have hml : ¬ m' = l := by omega
            rw [if_neg hml] at hrun
            have hlen : (List.take (h' - l) (List.drop l els)).length = h' - l := by simp; omega
            have hne : els ≠ [] := fun e => by subst e; simp at q4; omega
            have hsz' : sz' = sz := by
              obtain ⟨e0, he0⟩ := List.exists_mem_of_ne_nil els hne
              rw [← hl e0 he0]; exact hall' e0 he0
            subst hsz'
            refine .same H db (val := .slice (some ⟨b, o' + l * sz', none⟩) (h' - l) (m' - l)) (by simpa [addr_add] using hrun) ?_
            have key : R D w V ρ (.im (List.take (h' - l) (List.drop l els)) (if mx'.isSome = true then m == h' else cl && h' == els.length)) (.slice (some ⟨b, o' + l * sz', none⟩) (List.take (h' - l) (List.drop l els)).length (m' - l)) := by
              refine .im (fun i j => c (l + i) j) (by rw [hlen]; omega) (fun hq => by rw [hlen]; exact clipOk cap m' hcl hm' q4 hq) hD (sz := sz') ?_ ?_ ?_
              · intro e he
                exact hl e (List.mem_of_mem_drop (List.mem_of_mem_take he))
              · intro i j hi hj
                rw [hlen] at hi
                have := hc' (l + i) j (by omega) hj
                rw [show o' + l * sz' + (i * sz' + j) = o' + ((l + i) * sz' + j) by rw [Nat.add_mul]; omega]
                exact this
              · intro i j e x hei hx
                rw [List.getElem?_take] at hei
                split at hei
                · rw [List.getElem?_drop] at hei; exact hh1 (l + i) j e x hei hx
                · cases hei
            rw [hlen] at key
            exact key
      · cases he
    · cases he
  · rename_i id off n z c e1
    split at he
    · rename_i hz
      subst hz
      split at he
      · rename_i l h' m hb
        cases he
        have hR := ev_ok hr hx
        rw [e1] at hR
        generalize hxv : a.eval x = xv at hR
        cases hR with
        | sl hid hn hc ha =>
          rename_i ad cap
          have hck : c.getD n ≤ cap := by
            cases c with
            | none => exact hn
            | some k => have := hc k rfl; simp; omega
          obtain ⟨hrun, c1, c2, c3, c4⟩ := run_bounds (P := P) (w := w) hr h1 h2 h3 hck hn hb true
          generalize hm' : (if mx'.isSome = true then m else cap) = m' at hrun
          have hmle : m' ≤ cap := by rw [← hm']; split <;> omega
          have hhle : h' ≤ m' := by rw [← hm']; split <;> omega
          refine .same H db (val := .slice (some (if m' = l then ad else ad.add (l * z))) (h' - l) (m' - l)) ?_ (.sl hid (by omega) (fun k hk => ?_) fun b hb' => ?_)
          · simp only [execOp, ho, hxv, Instr.sliceAt, Instr.slice, run_underlying hu, Sem.run_bind, Result.andThen_ok, hrun, run_sz hsz, Sem.run_pure]
            split <;> rfl
          · split at hk
            · rename_i hs; cases hk; rw [← hm', if_pos hs]
            · rename_i hs
              rw [← hm', if_neg hs]
              cases c with
              | none => cases hk
              | some k0 => simp at hk; have := hc k0 rfl; omega
          · by_cases hml : m' = l
            · exact .inl (by omega)
            · rcases ha b hb' with h0 | ⟨e2, real, ty, mk, k1, k2⟩
              · exact .inl (by omega)
              · refine .inr ⟨by rw [if_neg hml, e2, addr_add], real, ty, mk, k1, ?_⟩
                have : l * z + (m' - l) * z ≤ cap * z := by rw [← Nat.add_mul]; exact Nat.mul_le_mul_right _ (by omega)
                omega
      · cases he
    · cases he
  · cases he

theorem slT_ok (H : HRel C D w V ρ s.h) (db : ∀ b, D b → b < w.heap.size) (hr : Regs D w V ρ s a) {o : Oper} {t : TypeId} {x : Operand} {lo hi : Option Operand} (ho : o.op = .slice t x lo hi none) (hu : P.underlying t = some .string)
    {x' : AO} {lo' hi' : Option AO} (hx : absO x = some x') (h1 : absOO lo = some lo') (h2 : absOO hi = some hi') {v : AV} (he : opA s (.slT x' lo' hi') = some (v, s')) : OpPost C D ρ w V s s' v ((execOp a.eval o).run P w) := by
  simp only [opA] at he
  split at he
  · rename_i b e1
    split at he
    · rename_i l h' m hb
      cases he
      have hR := ev_ok hr hx
      rw [e1] at hR
      generalize hxv : a.eval x = xv at hR
      cases hR with
      | str sx hsx =>
        subst hsx
        obtain ⟨hrun, c1, c2, c3, c4⟩ := run_bounds (P := P) (w := w) hr h1 h2 (mx := none) (mx' := none) rfl (Nat.le_refl _) (Nat.le_refl _) hb false
        rw [← size_data] at hrun
        refine .same H db (val := .string (sx.extract l h')) ?_ (.str _ ?_)
        · simp only [execOp, ho, hxv, Instr.sliceAt, Instr.slice, run_underlying hu, Sem.run_bind, Result.andThen_ok, Option.map_none] at hrun ⊢
          simp [hrun]
        · rw [ByteArray.data_extract, Array.toList_extract, List.extract_eq_take_drop]
    · cases he
  · cases he

theorem a2p_ok (H : HRel C D w V ρ s.h) (db : ∀ b, D b → b < w.heap.size) (hr : Regs D w V ρ s a) {o : Oper} {t e : TypeId} {n : Nat} {x : Operand} (ho : o.op = .sliceToArrayPointer t x) (hu : P.underlying t = some (.array n e)) {x' : AO} (hx : absO x = some x')
    {v : AV} (he : opA s (.a2p n x') = some (v, s')) : OpPost C D ρ w V s s' v ((execOp a.eval o).run P w) := by
  simp only [opA] at he
  split at he
  · rename_i id off k sz c e1
    split at he
    · rename_i hc
      cases he
      have hR := ev_ok hr hx
      rw [e1] at hR
      generalize hxv : a.eval x = xv at hR
      cases hR with
      | sl hid hn hc' ha =>
        rename_i ad cap
        refine .same H db (val := .pointer (some ad)) ?_ (.ptr hid fun b hb => ?_)
        · simp [execOp, ho, hxv, Instr.arrayAt, run_underlying hu, show ¬ k < n by omega]
        · rcases ha b hb with h0 | ⟨h1, _⟩
          · omega
          · exact h1
    · cases he
  · cases he

theorem cap_ok {t e : TypeId} {xv : Value} {x' : AO} (hR : R D w V ρ (x'.ev s) xv) {args : Array Value} {ts : Array TypeId} {ty : TypeId} (ht : ts[0]? = some t) (hrest : args[0]? = some xv) (hu : P.underlying t = some (.slice e)) {v : AV} (he : opA s (.cap x') = some (v, s')) :
    ∃ u, s' = s ∧ (Builtin.cap_ ts ty args).run P w = .ok u w ∧ R D w V ρ v u := by
  simp only [opA] at he
  split at he
  · rename_i els e1
    cases he
    rw [e1] at hR
    cases hR with
    | imn hc ha => have := hc rfl; subst this; exact ⟨goInt 0, rfl, by simp [Builtin.cap_, ht, hrest, run_underlying hu], .int _ _⟩
    | im c hn hcl hD hl hc h1 => have := hcl rfl; subst this; exact ⟨goInt els.length, rfl, by simp [Builtin.cap_, ht, hrest, run_underlying hu], .int _ _⟩
  · rename_i id off n sz c e1
    cases he
    rw [e1] at hR
    cases hR with
    | sl hid hn hc ha => have := hc c rfl; subst this; exact ⟨goInt _, rfl, by simp [Builtin.cap_, ht, hrest, run_underlying hu], .int _ _⟩
  · cases he

theorem mxi_ok {xv yv : Value} {x' y' : AO} (h1 : R D w V ρ (x'.ev s) xv) (h2 : R D w V ρ (y'.ev s) yv) {ts : Array TypeId} {ty : TypeId} {v : AV} (he : opA s (.mxi x' y') = some (v, s')) :
    ∃ u, s' = s ∧ (Builtin.max_ ts ty #[xv, yv]).run P w = .ok u w ∧ R D w V ρ v u := by
  simp only [opA] at he
  split at he
  · rename_i k p k' q e1 e2
    cases he
    rw [e1] at h1; rw [e2] at h2
    cases h1; cases h2
    exact ⟨.int k (if q > p then q else p), rfl, by simp [Builtin.max_, Builtin.max2], .int _ _⟩
  · cases he
theorem mni_ok {xv yv : Value} {x' y' : AO} (h1 : R D w V ρ (x'.ev s) xv) (h2 : R D w V ρ (y'.ev s) yv) {ts : Array TypeId} {ty : TypeId} {v : AV} (he : opA s (.mni x' y') = some (v, s')) :
    ∃ u, s' = s ∧ (Builtin.min_ ts ty #[xv, yv]).run P w = .ok u w ∧ R D w V ρ v u := by
  simp only [opA] at he
  split at he
  · rename_i k p k' q e1 e2
    cases he
    rw [e1] at h1; rw [e2] at h2
    cases h1; cases h2
    exact ⟨.int k (if q < p then q else p), rfl, by simp [Builtin.min_, Builtin.min2], .int _ _⟩
  · cases he

/-! ### Building -/
theorem foldl_splice (vs : List Value) : ∀ (off j : Nat) (cs : Array Value), off + j + vs.length ≤ cs.size →
    ((vs.zipIdx j).foldl (fun cs (p : Value × Nat) => cs.setIfInBounds (off + p.2) p.1) cs).toList = cs.toList.take (off + j) ++ vs ++ cs.toList.drop (off + j + vs.length) := by
  induction vs with
  | nil => intro off j cs _; simp
  | cons v vs ih =>
    intro off j cs h
    simp only [List.length_cons] at h
    simp only [List.zipIdx_cons, List.foldl_cons]
    rw [ih off (j + 1) _ (by simp; omega)]
    simp only [Array.toList_setIfInBounds, List.length_cons]
    have hlt : off + j < cs.toList.length := by rw [Array.length_toList]; omega
    rw [show off + (j + 1) = off + j + 1 by omega]
    rw [List.take_add_one, List.take_set_of_le (Nat.le_refl _), List.getElem?_set_self hlt, List.drop_set_of_lt (by omega)]
    simp [show off + j + 1 + vs.length = off + j + (vs.length + 1) by omega]
end
end Go.Proofs.Hz
