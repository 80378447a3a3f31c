/-
  Each operation: what the abstract evaluator says of it the machine does (sixth part: stores, maps, append, copy).
  Conditions: none (lemmas over any program).
-/
import Derived.Test.YtoonekkcjcjgmaaGreatHg
namespace Go.Proofs.Hz
open Go.RowKit

section
variable {G : Gl} {C : CodeRel} {P : Program} {D D' : Nat → Prop} {ρ ρ' : Ren} {w w' : World} {V V' : Ids} {h : T Blk} {s s' : St} {a : Act}

theorem fill_ok (hr : Regs D w V ρ s a) {f place : Nat → Option (Nat × Nat)} (hf : ∀ i, f i = place i) : ∀ (ps : List (Nat × Operand)) (ps' : List (Nat × Nat × AO)), compParts f ps = some ps' →
    ∀ (cs cs' : List AV) (vs : Array Value), RL D w V ρ cs vs.toList → fillA cs (evp s ps') = some cs' → ∃ vs', Instr.fill place vs (ps.map fun p => (p.1, a.eval p.2)) = some vs' ∧ RL D w V ρ cs' vs'.toList := by
  intro ps
  induction ps with
  | nil =>
    intro ps' hp cs cs' vs hv he
    cases hp; cases he
    exact ⟨vs, rfl, hv⟩
  | cons p ps ih =>
    intro ps' hp cs cs' vs hv he
    unfold compParts mapO at hp
    split at hp
    · cases hp
    · rename_i q hq
      split at hp
      · cases hp
      · rename_i qs hqs
        cases hp
        split at hq
        · rename_i off n x h1 h2
          cases hq
          simp only [evp, List.map_cons, fillA] at he
          split at he
          · rename_i hc
            obtain ⟨hc1, hc2⟩ := hc
            have hR := (ev_ok hr h2).cells
            have hsz : (a.eval p.2).cells.size = n := by have := hR.1; simp at this; omega
            have hcs : cs.length = vs.size := by simpa using hv.1
            have hpl : place p.1 = some (off, n) := by rw [← hf]; exact h1
            have hfold : ((a.eval p.2).cells.zipIdx.foldl (fun cs (x : Value × Nat) => cs.setIfInBounds (off + x.2) x.1) vs).toList = vs.toList.take off ++ (a.eval p.2).cells.toList ++ vs.toList.drop (off + (a.eval p.2).cells.toList.length) := by
              rw [← Array.foldl_toList, Array.toList_zipIdx]
              have := foldl_splice (a.eval p.2).cells.toList off 0 vs (by simp; omega)
              simpa using this
            have hv' := hv.splice hR off
            rw [← hfold] at hv'
            obtain ⟨vs', e1, e2⟩ := ih qs hqs _ cs' _ hv' he
            refine ⟨vs', ?_, e2⟩
            simp only [List.map_cons, Instr.fill, hpl]
            rw [if_neg (by simp; omega)]
            exact e1
          · cases he
        · cases hq

theorem mapM_places {fs : List Field} (hall : ∀ f ∈ fs, (P.info? f.type).isSome = true) :
    ∃ places : List (Nat × Nat), fs.mapM (fun (f : Field) => (P.info? f.type).map fun i => (f.offset, i.size)) = some places ∧ ∀ i : Nat, places[i]? = (match (fs[i]? : Option Field) with | some f => (szO P f.type).map fun n => (f.offset, n) | none => none) := by
  induction fs with
  | nil => exact ⟨[], rfl, fun i => by simp⟩
  | cons f fs ih =>
    obtain ⟨pl, h1, h2⟩ := ih (fun g hg => hall g (List.mem_cons_of_mem _ hg))
    obtain ⟨i, hi⟩ := Option.isSome_iff_exists.1 (hall f (List.mem_cons_self ..))
    refine ⟨(f.offset, i.size) :: pl, by simp [List.mapM_cons, hi, h1], fun j => ?_⟩
    cases j with
    | zero => simp [szO, hi]
    | succ j => simpa using h2 j

theorem build_ok (H : HRel C D w V ρ s.h) (db : ∀ b, D b → b < w.heap.size) (hr : Regs D w V ρ s a) {o : Oper} {t : TypeId} {ps : Array (Nat × Operand)} (ho : o.op = .build t ps) {ao : AOp} (hc : compOp P (.build t ps) = some ao) {v : AV}
    (he : opA s ao = some (v, s')) : OpPost C D ρ w V s s' v ((execOp a.eval o).run P w) := by
  simp only [compOp] at hc
  have fin : ∀ {z : List AV} {ps' : List (Nat × Nat × AO)} {place : Nat → Option (Nat × Nat)} {f : Nat → Option (Nat × Nat)}, (∀ i, f i = place i) → zO P t = some z → compParts f ps.toList = some ps' →
      (∀ (zc : Value) (cells : Array Value), (zeroValue t).run P w = .ok zc w → mapO (absCellZ P t) zc.cells.toList = some z → Instr.fill place zc.cells (ps.toList.map fun p => (p.1, a.eval p.2)) = some cells → P.built t (ps.toList.map fun p => (p.1, a.eval p.2)) = some cells) →
      opA s (.build z ps') = some (v, s') → OpPost C D ρ w V s s' v ((execOp a.eval o).run P w) := by
    intro z ps' place f hf hz hp hb he
    simp only [opA] at he
    cases hfi : fillA z (evp s ps') with
    | none => simp [hfi] at he
    | some cs =>
      simp [hfi] at he
      obtain ⟨rfl, rfl⟩ := he
      obtain ⟨zc, hz1, hz2⟩ := run_z hz w
      obtain ⟨vs', e1, e2⟩ := fill_ok hr hf _ _ hp _ _ zc.cells (absCellsZ_ok hz2) hfi
      have hbuilt := hb zc vs' hz1 hz2 e1
      refine .same H db (val := .agg vs') ?_ (by simpa using R.agg_mk e2)
      have : (ps.map fun (x : Nat × Operand) => (x.1, a.eval x.2)).toList = ps.toList.map fun p => (p.1, a.eval p.2) := by simp
      rw [← this] at hbuilt
      simp only [execOp, ho, Sem.run_bind, run_build w t _ _ hbuilt, Result.andThen_ok, Sem.run_pure]
  split at hc
  · rename_i z fs hz hu
    split at hc
    · rename_i hall
      cases hp : compParts (fieldPl P fs) ps.toList with
      | none => simp [hp] at hc
      | some ps' =>
        simp [hp] at hc; subst hc
        obtain ⟨pl, h1, h2⟩ := mapM_places (P := P) (fs := fs.toList) (fun f hf => by
          have := Array.all_eq_true'.1 hall f (by simpa using hf)
          exact this)
        refine fin (place := (pl.toArray[·]?)) (fun i => ?_) hz hp (fun zc cells hz1 hz2 hfl => ?_) he
        · simp only [fieldPl, List.getElem?_toArray, h2 i, Array.getElem?_toList]
          cases fs[i]? <;> rfl
        · unfold zO at hz
          cases hi : P.info? t with
          | none => simp [hi] at hz
          | some it =>
            simp only [hi] at hz
            cases hq : it.zero with
            | none => simp [hq] at hz
            | some z0 =>
              have hz0 : z0 = zc := by
                simp [zeroValue, typeInfo, hi, hq] at hz1; exact hz1
              subst hz0
              simp only [Program.built, hi, hu, hq, h1]
              exact hfl
    · cases hc
  · rename_i z n e hz hu
    split at hc
    · rename_i sz hsz
      cases hp : compParts (fun i => some (i * sz, sz)) ps.toList with
      | none => simp [hp] at hc
      | some ps' =>
        simp [hp] at hc; subst hc
        refine fin (place := fun i => some (i * sz, sz)) (fun i => rfl) hz hp (fun zc cells hz1 hz2 hfl => ?_) he
        unfold zO at hz
        cases hi : P.info? t with
        | none => simp [hi] at hz
        | some it =>
          simp only [hi] at hz
          cases hq : it.zero with
          | none => simp [hq] at hz
          | some z0 =>
            have hz0 : z0 = zc := by
              simp [zeroValue, typeInfo, hi, hq] at hz1; exact hz1
            subst hz0
            unfold szO at hsz
            cases hie : P.info? e with
            | none => simp [hie] at hsz
            | some ie =>
              simp [hie] at hsz
              simp only [Program.built, hi, hu, hq, hie, hsz]
              exact hfl
    · cases hc
  · cases hc

/-! ### Memory that is made -/
theorem noMark_zero (n : Nat) : noMark (0, 0) n := fun j _ h => by simp at h

theorem new_ok (H : HRel C D w V ρ s.h) (db : ∀ b, D b → b < w.heap.size) (hf : ¬ V s.nx) {cs : List AV} {vs : List Value} {real : Array Value} (hR : RL D w V ρ cs vs) (hle : cs.length ≤ real.size) (hreal : ∀ (j : Nat) (v : Value), vs[j]? = some v → real[j]? = some v) (ty : TypeId) :
    HRel C D (w.alloc (.cells real ty)) (V.add s.nx) (ρ.set s.nx (some w.heap.size)) (s.new (.cells cs false ty)).h ∧ Ext D ρ w V D (ρ.set s.nx (some w.heap.size)) (w.alloc (.cells real ty)) (V.add s.nx) := by
  have e : Ext D ρ w V D (ρ.set s.nx (some w.heap.size)) (w.alloc (.cells real ty)) (V.add s.nx) := Ext.add hf _
  refine ⟨H.add db hf _ _ ⟨(fun h => by cases h), (fun _ hd => Nat.lt_irrefl _ (db _ hd)), real, (0, 0), heap_alloc_new' w _, noMark_zero _, hle, fun j x hx => ?_⟩, e⟩
  have hlt : j < vs.length := by rw [← hR.1]; exact (List.getElem?_eq_some_iff.1 hx).1
  have hv := List.getElem?_eq_getElem hlt
  exact ⟨vs[j], hreal j _ hv, (hR.2 j x _ hx hv).ext e db⟩

theorem OpPost.made (H : HRel C D w V ρ s.h) (db : ∀ b, D b → b < w.heap.size) (hf : ¬ V s.nx) {cs : List AV} {vs : List Value} {real : Array Value} (hR : RL D w V ρ cs vs) (hle : cs.length ≤ real.size) (hreal : ∀ (j : Nat) (v : Value), vs[j]? = some v → real[j]? = some v) (ty : TypeId) {v : AV} {val : Value} {w0 : World} (hw0 : Ext D ρ w0 V D ρ w V)
    {res : Result Next} (hres : res = .ok (.value val) (w.alloc (.cells real ty)))
    (hv : R D (w.alloc (.cells real ty)) (V.add s.nx) (ρ.set s.nx (some w.heap.size)) v val) : OpPost C D ρ w0 V s (s.new (.cells cs false ty)) v res := by
  obtain ⟨h1, h2⟩ := new_ok (C := C) (s := s) H db hf hR hle hreal ty
  refine ⟨val, _, D, _, _, .inl hres, hv, h1, hw0.trans h2, rfl, Nat.le_succ _, fun i hi => ?_, fun b hb => ?_⟩
  · rcases hi with hi | hi
    · exact .inl hi
    · subst hi; exact .inr ⟨Nat.le_refl _, Nat.lt_succ_self _⟩
  · have := db b hb; simp; omega

theorem R.newPtr (w' : World) : R D w' (V.add s.nx) (ρ.set s.nx (some w.heap.size)) (.ptr s.nx 0) (.pointer (some ⟨w.heap.size, 0, none⟩)) :=
  .ptr (.inr rfl) fun b hb => by rw [Ren.set_same] at hb; cases hb; rfl

theorem alloc_ok (H : HRel C D w V ρ s.h) (db : ∀ b, D b → b < w.heap.size) (hf : ¬ V s.nx) {o : Oper} {t : TypeId} (ho : o.op = .alloc t) {z : List AV} (hz : zO P t = some z) :
    OpPost C D ρ w V s (s.new (.cells z false t)) (.ptr s.nx 0) ((execOp a.eval o).run P w) := by
  obtain ⟨zc, hz1, hz2⟩ := run_z hz w
  refine .made H db hf (absCellsZ_ok hz2) (real := zc.cells) ?_ (fun j v hv => by simpa using hv) t (.refl _ _ _ _) (val := .pointer (some ⟨w.heap.size, 0, none⟩)) ?_ (R.newPtr _)
  · have := (absCellsZ_ok (D := D) (w := w) (V := V) (ρ := ρ) hz2).1; simp at this; omega
  · simp [execOp, ho, Instr.alloc, hz1, newVar, newRow]

theorem box_ok (H : HRel C D w V ρ s.h) (db : ∀ b, D b → b < w.heap.size) (hr : Regs D w V ρ s a) (hf : ¬ V s.nx) {o : Oper} {t : TypeId} {x : Operand} (ho : o.op = .box t x) {x' : AO} (hx : absO x = some x') :
    OpPost C D ρ w V s (s.new (.cells (x'.ev s).cells false t)) (.ptr s.nx 0) ((execOp a.eval o).run P w) := by
  have hR := (ev_ok hr hx).cells
  refine .made H db hf hR (real := (a.eval x).cells) ?_ (fun j v hv => by simpa using hv) t (.refl _ _ _ _) (val := .pointer (some ⟨w.heap.size, 0, none⟩)) ?_ (R.newPtr _)
  · have := hR.1; simp at this; omega
  · simp [execOp, ho, Instr.box, newVar, newRow]

theorem R.newSl {w' : World} {n c sz : Nat} {k : Option Nat} {real : Array Value} {ty : TypeId} (hw : w'.heap[w.heap.size]? = some (.cells real ty)) (hn : n ≤ c) (hk : ∀ m, k = some m → c = m) (hsz : c * sz ≤ real.size) :
    R D w' (V.add s.nx) (ρ.set s.nx (some w.heap.size)) (.sl s.nx 0 n sz k) (.slice (some ⟨w.heap.size, 0, none⟩) n c) :=
  .sl (.inr rfl) hn hk fun b hb => by rw [Ren.set_same] at hb; cases hb; exact .inr ⟨rfl, real, ty, (0, 0), hw, by omega⟩

theorem zeros_range (zero : Array Value) (n : Nat) (hz : 0 < zero.size) : ((Array.range (n * zero.size)).map fun i => zero[i % zero.size]!).toList = (List.replicate n zero.toList).flatten := by
  induction n with
  | zero => simp
  | succ n ih =>
    rw [Nat.succ_mul]
    apply List.ext_getElem?
    intro i
    rw [List.replicate_succ', List.flatten_append, ← ih]
    simp only [Array.toList_map, Array.toList_range, List.flatten_cons, List.flatten_nil, List.append_nil]
    by_cases hi : i < n * zero.size
    · rw [List.getElem?_append_left (by simpa using hi)]
      simp [hi, show i < n * zero.size + zero.size by omega]
    · rw [List.getElem?_append_right (by simp; omega)]
      simp only [List.length_map, List.length_range]
      by_cases h2 : i < n * zero.size + zero.size
      · have hm : i % zero.size = i - n * zero.size := by
          have : i = (i - n * zero.size) + n * zero.size := by omega
          rw [this, Nat.add_mul_mod_self_right]
          simp only [Nat.add_sub_cancel]
          exact Nat.mod_eq_of_lt (by omega)
        simp only [List.getElem?_map, List.getElem?_range h2, Option.map_some, hm, Array.getElem?_toList]
        have : i - n * zero.size < zero.size := by omega
        simp [this]
      · rw [List.getElem?_eq_none (by simp; omega), List.getElem?_eq_none (by simp; omega)]

theorem RL.replicate {cs : List AV} {vs : List Value} (hR : RL D w V ρ cs vs) : ∀ n, RL D w V ρ (List.replicate n cs).flatten (List.replicate n vs).flatten
  | 0 => .nil
  | n + 1 => by rw [List.replicate_succ, List.replicate_succ, List.flatten_cons, List.flatten_cons]; exact hR.append (RL.replicate hR n)

theorem bsl_ok (H : HRel C D w V ρ s.h) (db : ∀ b, D b → b < w.heap.size) (hr : Regs D w V ρ s a) (hf : ¬ V s.nx) {o : Oper} {t : TypeId} {len : Nat} {ps : Array (Nat × Operand)} (ho : o.op = .buildSlice t len ps) {ao : AOp} (hc : compOp P (.buildSlice t len ps) = some ao) {v : AV}
    (he : opA s ao = some (v, s')) : OpPost C D ρ w V s s' v ((execOp a.eval o).run P w) := by
  simp only [compOp] at hc
  split at hc
  · rename_i e hel
    split at hc
    · rename_i sz z hsz hz
      split at hc
      · rename_i hcond
        obtain ⟨c1, c2, c3⟩ := hcond
        cases hp : compParts (fun i => some (i * sz, sz)) ps.toList with
        | none => simp [hp] at hc
        | some ps' =>
          simp [hp] at hc; subst hc
          simp only [opA] at he
          split at he
          · cases he
          · split at he
            · rename_i cs hcs
              split at he
              · rename_i hone
                cases he
                have hu := run_slice_el hel
                obtain ⟨zc, hz1, hz2⟩ := run_z hz w
                have hzl := (absCellsZ_ok (D := D) (w := w) (V := V) (ρ := ρ) hz2).1
                have hzs : zc.cells.size = sz := by simp at hzl; omega
                have hlen : (List.replicate len z).flatten.length = len * sz := by simp [List.length_flatten, c2]
                have hdiv : (List.replicate len z).flatten.length / sz = len := by rw [hlen]; exact Nat.mul_div_cancel _ c3
                have hcells : RL D w V ρ (List.replicate len z).flatten ((Array.range (len * sz)).map fun i => zc.cells[i % zc.cells.size]!).toList := by
                  rw [← hzs, zeros_range _ _ (by omega)]
                  exact RL.replicate (absCellsZ_ok hz2) len
                obtain ⟨vs', e1, e2⟩ := fill_ok (place := fun i => some (i * sz, sz)) hr (fun i => rfl) _ _ hp _ _ _ hcells hcs
                have hfillen : cs.length = len * sz := by
                  have : ∀ (l : List (Nat × Nat × AV)) (c c' : List AV), fillA c l = some c' → c'.length = c.length := by
                    intro l
                    induction l with
                    | nil => intro c c' h; cases h; rfl
                    | cons p l ih =>
                      intro c c' h
                      obtain ⟨off, n, x⟩ := p
                      unfold fillA at h
                      split at h
                      · rename_i hh
                        rw [ih _ _ h]
                        unfold splice
                        simp
                        omega
                      · cases h
                  rw [this _ _ _ hcs, hlen]
                have hvs : vs'.size = len * sz := by have := e2.1; simp at this; omega
                rw [hdiv]
                refine .made H db hf e2 (real := vs') (by omega) (fun j v hv => by simpa using hv) e (.refl _ _ _ _) (val := .slice (some ⟨w.heap.size, 0, none⟩) len len) ?_ (R.newSl (heap_alloc_new' w _) (Nat.le_refl _) (fun m hm => Option.some.inj hm) (by omega))
                have hne : ¬ len * sz > 16777216 := by omega
                have hpl : (ps.map fun (x : Nat × Operand) => (x.1, a.eval x.2)).toList = ps.toList.map fun p => (p.1, a.eval p.2) := by simp
                by_cases h0 : len * sz = 0
                · have hcl : ((Array.range (len * sz)).map fun i => (#[] : Array Value)[i % (#[] : Array Value).size]!) = ((Array.range (len * sz)).map fun i => zc.cells[i % zc.cells.size]!) := by rw [h0]; simp
                  rw [← hcl] at e1
                  simp only [execOp, ho, Instr.buildSlice, Sem.run_bind, run_underlying hu, Result.andThen_ok, run_sz hsz, Sem.run_ite, Sem.run_pure, h0, if_true, hpl]
                  rw [h0] at e1
                  simp only [e1, newRow, Sem.run_bind, run_newObj, Result.andThen_ok, Sem.run_pure]
                  rfl
                · simp only [execOp, ho, Instr.buildSlice, Sem.run_bind, run_underlying hu, Result.andThen_ok, run_sz hsz, Sem.run_ite, if_neg hne, Sem.run_pure, h0, if_false, hpl, hz1]
                  simp only [e1, newRow, Sem.run_bind, run_newObj, Result.andThen_ok, Sem.run_pure]
                  rfl
              · cases he
            · cases he
      · cases hc
    · cases hc
  · cases hc
end
end Go.Proofs.Hz
namespace Go.Proofs.Hz
open Go.RowKit

section
variable {G : Gl} {C : CodeRel} {P : Program} {D D' : Nat → Prop} {ρ ρ' : Ren} {w w' : World} {V V' : Ids} {h h' : T Blk} {s s' : St} {a : Act}

theorem setCells_meta (b : Nat) : ∀ (vs : List Value) (o : Nat) (w : World), (w.setCells b o vs).os = w.os ∧ (w.setCells b o vs).tape = w.tape ∧ (w.setCells b o vs).output = w.output ∧ (w.setCells b o vs).heap.size = w.heap.size
  | [], _, _ => ⟨rfl, rfl, rfl, rfl⟩
  | v :: vs, o, w => by
    obtain ⟨h1, h2, h3, h4⟩ := setCells_meta b vs (o + 1) (w.setCell ⟨b, o, none⟩ v)
    exact ⟨h1, h2, h3, by rw [World.setCells, h4]; simp⟩
theorem setCells_other (b : Nat) {c : Nat} (hc : c ≠ b) : ∀ (vs : List Value) (o : Nat) (w : World), (w.setCells b o vs).heap[c]? = w.heap[c]?
  | [], _, _ => rfl
  | v :: vs, o, w => by rw [World.setCells, setCells_other b hc vs, heap_setCell_other _ _ _ _ hc]
theorem heap_setCell_at (w : World) (b o : Nat) (v : Value) {real : Array Value} {ty : TypeId} {mk : Nat × Nat} (hb : w.heap[b]? = some (.cells real ty mk)) :
    (w.setCell ⟨b, o, none⟩ v).heap[b]? = some (.cells (real.setIfInBounds o v) ty mk) := by
  simp [World.setCell, Array.getElem?_modify, hb]
theorem setCells_at (b : Nat) {ty : TypeId} {mk : Nat × Nat} : ∀ (vs : List Value) (o : Nat) (w : World) (real : Array Value), w.heap[b]? = some (.cells real ty mk) → o + vs.length ≤ real.size →
    ∃ real', (w.setCells b o vs).heap[b]? = some (.cells real' ty mk) ∧ real'.toList = real.toList.take o ++ vs ++ real.toList.drop (o + vs.length)
  | [], o, w, real, hb, hle => ⟨real, hb, by simp⟩
  | v :: vs, o, w, real, hb, hle => by
    simp only [List.length_cons] at hle
    obtain ⟨real', h1, h2⟩ := setCells_at b vs (o + 1) (w.setCell ⟨b, o, none⟩ v) _ (heap_setCell_at w b o v hb) (by simp; omega)
    refine ⟨real', by rw [World.setCells]; exact h1, ?_⟩
    rw [h2]
    have hlt : o < real.toList.length := by rw [Array.length_toList]; omega
    simp only [Array.toList_setIfInBounds, List.length_cons]
    rw [List.take_add_one, List.take_set_of_le (Nat.le_refl _), List.getElem?_set_self hlt, List.drop_set_of_lt (by omega)]
    simp [show o + 1 + vs.length = o + (vs.length + 1) by omega]

theorem run_storeCells_ok {b off : Nat} {real : Array Value} {ty : TypeId} {mk : Nat × Nat} (hb : w.heap[b]? = some (.cells real ty mk)) (hm : noMark mk real.size) {vs : List Value} (hle : off + vs.length ≤ real.size) (h1 : ∀ v ∈ vs, v.oneCell' = true) :
    (storeCells ⟨b, off, none⟩ vs).run P w = .ok () (w.setCells b off vs) := by
  have := run_storeCells_cells (P := P) b off vs 0 w (fun j hj => by
      have : off + j < real.size := by omega
      simp [World.cell?, hb, this]) (fun j hj => by
      have := hm (off + j) (by omega)
      simp only [World.frozen?, hb, Nat.add_zero]
      simp
      intro h
      exact Nat.le_of_not_lt fun h2 => this ⟨h, h2⟩) h1
  simpa using this

/-- A write into one of the call's own blocks. -/
theorem write_ok (H : HRel C D w V ρ h) (db : ∀ b, D b → b < w.heap.size) {id off : Nat} {xs : List AV} (hw : wrH h id off xs = some h') {vs : List Value} (hR : RL D w V ρ xs vs) :
    ∃ b, ρ id = some b ∧ (storeCells ⟨b, off, none⟩ vs).run P w = .ok () (w.setCells b off vs) ∧ HRel C D (w.setCells b off vs) V ρ h' ∧ Ext D ρ w V D ρ (w.setCells b off vs) V := by
  unfold wrH at hw
  split at hw
  · rename_i cs ty hg
    split at hw
    · rename_i hc
      cases hw
      obtain ⟨hc1, hc2⟩ := hc
      obtain ⟨b, hb, hB⟩ := H.bk id _ hg
      obtain ⟨_, hnd, real, mk, k1, k2, k3, k4⟩ := hB
      have hnD := hnd rfl
      have hvl : vs.length = xs.length := hR.1.symm
      obtain ⟨m1, m2, m3, m4⟩ := setCells_meta b vs off w
      obtain ⟨real', q1, q2⟩ := setCells_at b vs off w real k1 (by omega)
      have hsz : real'.size = real.size := by
        have := congrArg List.length q2
        simp at this
        omega
      have e : Ext D ρ w V D ρ (w.setCells b off vs) V := Ext.upd hb hnD m1 m2 m3 m4 (fun c hc => setCells_other b hc vs off w) (fun r t m hr => by
        rw [k1] at hr; cases hr; exact ⟨real', _, q1, hsz⟩) (fun r hr => by rw [k1] at hr; cases hr)
      refine ⟨b, hb, run_storeCells_ok k1 k2 (by omega) (hR.one hc2), H.upd db hb e (fun c hc => setCells_other b hc vs off w) _ ?_, e⟩
      refine ⟨(fun h => by cases h), (fun _ => hnD), real', mk, q1, by rw [hsz]; exact k2, ?_, fun j x hx => ?_⟩
      · unfold splice; simp; omega
      · unfold splice at hx
        have hget : ∀ v, real'[j]? = some v ↔ real'.toList[j]? = some v := fun v => by rw [Array.getElem?_toList]
        by_cases hj1 : j < off
        · rw [List.append_assoc, List.getElem?_append_left (by simp; omega), List.getElem?_take, if_pos hj1] at hx
          obtain ⟨v, hv, hr⟩ := k4 j x hx
          refine ⟨v, ?_, hr.ext e db⟩
          rw [hget, q2, List.append_assoc, List.getElem?_append_left (by simp; have := (Array.getElem?_eq_some_iff.1 hv).1; omega), List.getElem?_take, if_pos hj1, Array.getElem?_toList]
          exact hv
        · by_cases hj2 : j < off + xs.length
          · rw [List.append_assoc, List.getElem?_append_right (by simp; omega), List.getElem?_append_left (by simp; omega)] at hx
            have htl : (List.take off cs).length = off := by simp; omega
            rw [htl] at hx
            have hlt : j - off < vs.length := by omega
            refine ⟨vs[j - off], ?_, (hR.2 _ x _ hx (List.getElem?_eq_getElem hlt)).ext e db⟩
            rw [hget, q2, List.append_assoc, List.getElem?_append_right (by simp; omega)]
            have htl2 : (List.take off real.toList).length = off := by simp; omega
            rw [htl2, List.getElem?_append_left hlt, List.getElem?_eq_getElem hlt]
          · rw [List.getElem?_append_right (by simp; omega), List.getElem?_drop] at hx
            have hll : (List.take off cs ++ xs).length = off + xs.length := by simp; omega
            rw [hll, show off + xs.length + (j - (off + xs.length)) = j by omega] at hx
            obtain ⟨v, hv, hr⟩ := k4 j x hx
            refine ⟨v, ?_, hr.ext e db⟩
            have hll2 : (List.take off real.toList ++ vs).length = off + vs.length := by simp; omega
            rw [hget, q2, List.getElem?_append_right (by rw [hll2]; omega), hll2, List.getElem?_drop, show off + vs.length + (j - (off + vs.length)) = j by omega, Array.getElem?_toList]
            exact hv
    · cases hw
  · cases hw

theorem undef_ok : R D w V ρ (.tup []) undef := R.tup_mk (vs := []) .nil

theorem store_ok (H : HRel C D w V ρ s.h) (db : ∀ b, D b → b < w.heap.size) (hr : Regs D w V ρ s a) {o : Oper} {t : TypeId} {x y : Operand} (ho : o.op = .store t x y) {ao : AOp} (hc : compOp P (.store t x y) = some ao) {v : AV}
    (he : opA s ao = some (v, s')) : OpPost C D ρ w V s s' v ((execOp a.eval o).run P w) := by
  simp only [compOp] at hc
  split at hc
  · rename_i n x' y' hn hx hy
    cases hc
    simp only [opA] at he
    split at he
    · rename_i hlen
      have hRx := ev_ok hr hx
      have hRy := (ev_ok hr hy).cells
      generalize hxv : a.eval x = xv at hRx
      generalize hxa : x'.ev s = xa at hRx he
      unfold wrA at he
      split at he
      · rename_i id off
        cases hw : wrH s.h id off (y'.ev s).cells with
        | none => simp [hw] at he
        | some h' =>
          simp [hw] at he
          obtain ⟨rfl, rfl⟩ := he
          cases hRx with
          | ptr hid ha =>
            rename_i ad
            obtain ⟨b, hb, hrun, H', e⟩ := write_ok (P := P) H db hw hRy
            have := ha b hb; subst this
            refine ⟨undef, _, D, ρ, V, .inr ⟨?_, rfl⟩, undef_ok, H', e, rfl, Nat.le_refl _, fun i hi => .inl hi, fun c hc => Nat.lt_of_lt_of_le (db c hc) e.size⟩
            have hsz : (a.eval y).cells.size = n := by have := hRy.1; simp at this; omega
            simp [execOp, ho, hxv, Instr.storeAt, Instr.sureAddr, storeVar, run_sz hn, hsz, hrun]
      · simp at he
    · cases he
  · cases hc

theorem elems_ok (H : HRel C D w V ρ h) {x : AV} {v : Value} (hR : R D w V ρ x v) {sz n : Nat} {xs : List AV} (he : elemsOf h sz x = some (n, xs)) :
    ∃ vs, (Builtin.lenOf v).run P w = .ok n w ∧ RL D w V ρ xs vs ∧ xs.length = n * sz ∧ ∀ m, m ≤ n → (Builtin.firstCells sz m v).run P w = .ok (vs.take (m * sz)).toArray w := by
  unfold elemsOf at he
  split at he
  · rename_i els cl
    split at he
    · rename_i hall
      cases he
      have hall' : ∀ e ∈ els, e.length = sz := fun e he => by simpa using List.all_eq_true.1 hall e he
      have hfl : els.flatten.length = els.length * sz := by
        clear hall hR
        induction els with
        | nil => simp
        | cons e els ih => rw [List.flatten_cons, List.length_append, hall' e (List.mem_cons_self ..), ih (fun e he => hall' e (List.mem_cons_of_mem _ he)), List.length_cons, Nat.succ_mul]; omega
      cases hR with
      | imn hc ha =>
        rename_i ad cap
        refine ⟨[], by simp [Builtin.lenOf], .nil, by simp, fun m hm => ?_⟩
        have hm0 : m = 0 := by simpa using hm
        subst hm0
        cases ad with
        | none => simp [Builtin.firstCells]
        | some ad => simp [Builtin.firstCells, loadCells, loadCellsFrom]
      | @im _ _ _ _ b o' sz' cap c hn' hcl hD hl hc' h1 =>
        by_cases hne : els = []
        · subst hne
          refine ⟨[], by simp [Builtin.lenOf], .nil, by simp, fun m hm => ?_⟩
          have hm0 : m = 0 := by simpa using hm
          subst hm0
          simp [Builtin.firstCells, loadCells, loadCellsFrom]
        · have hsz' : sz' = sz := by
            obtain ⟨e0, he0⟩ := List.exists_mem_of_ne_nil els hne
            rw [← hl e0 he0]; exact hall' e0 he0
          subst hsz'
          have flat : ∀ (k : Nat) (l : List (List AV)), (∀ e ∈ l, e.length = sz') → ∀ (i : Nat) (x : AV), l.flatten[i]? = some x → ∃ e, l[i / sz']? = some e ∧ e[i % sz']? = some x := by
            intro k l hl i x hx
            induction l generalizing i with
            | nil => simp at hx
            | cons e l ih =>
              have hle := hl e (List.mem_cons_self ..)
              rw [List.flatten_cons] at hx
              have hs0 : 0 < sz' := by
                refine Nat.pos_of_ne_zero fun h0 => ?_
                have hz : (e ++ l.flatten) = [] := by
                  have : ∀ e' ∈ e :: l, e' = [] := fun e' he' => List.length_eq_zero_iff.1 (by rw [hl e' he', h0])
                  rw [← List.flatten_cons]
                  exact List.flatten_eq_nil_iff.2 this
                rw [hz] at hx; simp at hx
              by_cases hi : i < sz'
              · rw [List.getElem?_append_left (by omega)] at hx
                exact ⟨e, by rw [Nat.div_eq_of_lt hi]; rfl, by rw [Nat.mod_eq_of_lt hi]; exact hx⟩
              · rw [List.getElem?_append_right (by omega), hle] at hx
                obtain ⟨e', h1, h2⟩ := ih (fun e he => hl e (List.mem_cons_of_mem _ he)) (i - sz') hx
                refine ⟨e', ?_, ?_⟩
                · have : i / sz' = (i - sz') / sz' + 1 := by
                    rw [← Nat.add_div_right _ hs0, Nat.sub_add_cancel (by omega)]
                  rw [this]; exact h1
                · have : i % sz' = (i - sz') % sz' := by
                    rw [← Nat.mod_eq_sub_mod (by omega)]
                  rw [this]; exact h2
          obtain ⟨vs, r1, r2⟩ := choose_row (A := fun j u => w.cell? ⟨b, o' + j, none⟩ = some u) els.flatten (D := D) (w := w) (V := V) (ρ := ρ) (fun j x hx => by
            obtain ⟨e, e1, e2⟩ := flat 0 els hall' j x hx
            have hlt := (List.getElem?_eq_some_iff.1 e1).1
            have hlt2 := (List.getElem?_eq_some_iff.1 e2).1
            rw [hall' e (List.mem_of_getElem? e1)] at hlt2
            refine ⟨c (j / sz') (j % sz'), ?_, (h1 _ _ _ _ e1 e2).any⟩
            have := hc' _ _ hlt hlt2
            rw [Nat.div_add_mod'] at this
            exact this)
          refine ⟨vs, by simp [Builtin.lenOf], r1, hfl, fun m hm => ?_⟩
          have hvl : vs.length = els.length * sz' := by rw [← r1.1, hfl]
          have hml : (vs.take (m * sz')).length = m * sz' := by
            rw [List.length_take]
            have : m * sz' ≤ els.length * sz' := Nat.mul_le_mul_right _ hm
            omega
          have hl2 := run_loadCells_list (P := P) w ⟨b, o', none⟩ (vs.take (m * sz')) (fun j v hv => by
            rw [addr_add]
            rw [List.getElem?_take] at hv
            split at hv
            · exact r2 j v hv
            · cases hv)
          rw [hml] at hl2
          simp [Builtin.firstCells, hl2]
    · cases he
  · rename_i id off k z c
    split at he
    · rename_i hz
      subst hz
      split at he
      · rename_i cs fz ty hg
        cases hrd : rdAt cs off (k * z) with
        | none => simp [hrd] at he
        | some l =>
          simp [hrd] at he
          obtain ⟨rfl, rfl⟩ := he
          obtain ⟨hle, rfl, hll⟩ := rdAt_spec hrd
          obtain ⟨b, hb, hB⟩ := H.bk id _ hg
          cases hR with
          | sl hid hn hc ha =>
            rename_i ad cap
            obtain ⟨vs, r1, r2⟩ := choose_row (A := fun j u => w.cell? ⟨b, off + j, none⟩ = some u) ((cs.drop off).take (k * z)) (D := D) (w := w) (V := V) (ρ := ρ) (fun j y hy => by
              rw [List.getElem?_take] at hy
              split at hy
              · rw [List.getElem?_drop] at hy; exact hB.cell hy
              · cases hy)
            refine ⟨vs, by simp [Builtin.lenOf], r1, hll, fun m hm => ?_⟩
            have hvl : vs.length = k * z := by rw [← r1.1, hll]
            have hml : (vs.take (m * z)).length = m * z := by
              rw [List.length_take]
              have : m * z ≤ k * z := Nat.mul_le_mul_right _ hm
              omega
            by_cases h0 : m * z = 0
            · simp [Builtin.firstCells, loadCells, loadCellsFrom, h0]
            · have had : ad = ⟨b, off, none⟩ := by
                rcases ha b hb with hc0 | ⟨e, _⟩
                · have : m = 0 := by omega
                  subst this; simp at h0
                · exact e
              subst had
              have hl2 := run_loadCells_list (P := P) w ⟨b, off, none⟩ (vs.take (m * z)) (fun j v hv => by
                rw [addr_add]
                rw [List.getElem?_take] at hv
                split at hv
                · exact r2 j v hv
                · cases hv)
              rw [hml] at hl2
              simp [Builtin.firstCells, hl2]
      · cases he
    · cases he
  · rename_i b
    split at he
    · rename_i hz
      subst hz
      cases he
      cases hR with
      | str sx hsx =>
        subst hsx
        refine ⟨sx.data.toList.map fun b => Value.int .u8 b.toNat, rfl, ⟨by simp, fun j x v hx hv => ?_⟩, by simp, fun m hm => ?_⟩
        · rw [List.getElem?_map] at hx hv
          cases hq : sx.data.toList[j]? with
          | none => simp [hq] at hx
          | some q => simp [hq] at hx hv; subst hx; subst hv; exact .int _ _
        · simp only [Builtin.firstCells, Sem.run_pure, Nat.mul_one]
          congr 1
          apply Array.ext'
          simp [ByteArray.data_extract, Array.toList_extract, List.extract_eq_take_drop]
    · cases he
  · cases he
end
end Go.Proofs.Hz
