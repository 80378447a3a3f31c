/-
  Code: what the abstract evaluator says of it the machine does.
  Conditions: none (lemmas over any program).
-/
import Derived.Test.YtoonekkcjcjgmaaGreatHs
import Derived.RangeFuncNested
namespace Go.Proofs.Hz
open Go.RowKit

/-- Marked, or as it was. -/
def MarkRel (g g' : T Blk) : Prop := ∀ id, g'.get id = g.get id ∨ ∃ cs fz ty, g.get id = some (.cells cs fz ty) ∧ g'.get id = some (.cells cs true ty)
theorem MarkRel.refl (g : T Blk) : MarkRel g g := fun _ => .inl rfl
theorem MarkRel.trans {a b c : T Blk} (h : MarkRel a b) (k : MarkRel b c) : MarkRel a c := fun id => by
  rcases k id with hk | ⟨cs, fz, ty, h1, h2⟩
  · rcases h id with hh | ⟨cs, fz, ty, h1, h2⟩
    · exact .inl (hk.trans hh)
    · exact .inr ⟨cs, fz, ty, h1, hk.trans h2⟩
  · rcases h id with hh | ⟨cs', fz', ty', h3, h4⟩
    · exact .inr ⟨cs, fz, ty, hh.symm.trans h1, h2⟩
    · rw [h4] at h1; cases h1; exact .inr ⟨cs, fz', ty, h3, h2⟩
theorem MarkRel.put {g : T Blk} {id ty : Nat} {cs : List AV} {fz : Bool} (h : g.get id = some (.cells cs fz ty)) : MarkRel g (g.put id (some (.cells cs true ty))) := fun j => by
  rw [T.get_put]
  by_cases e : id = j
  · subst e; exact .inr ⟨cs, fz, ty, h, by rw [if_pos rfl]⟩
  · rw [if_neg e]; exact .inl rfl
theorem MarkRel.cells {g g' : T Blk} (h : MarkRel g g') {id ty : Nat} {cs : List AV} {fz : Bool} (hg : g.get id = some (.cells cs fz ty)) : ∃ fz', g'.get id = some (.cells cs fz' ty) ∧ (fz = true → fz' = true) := by
  rcases h id with h | ⟨cs', fz', ty', h1, h2⟩
  · exact ⟨fz, h.trans hg, fun h => h⟩
  · rw [hg] at h1; cases h1; exact ⟨true, h2, fun _ => rfl⟩

/-- The slices that 'frz' tells lie in blocks of M. -/
def FzIn (M : Nat → Prop) (h : T Blk) : Nat → AV → Prop
  | 0, _ => True
  | n + 1, v => match v with
    | .sl id off k sz _ => M id ∧ ∀ cs fz ty l, h.get id = some (.cells cs fz ty) → rdAt cs off (k * sz) = some l → ∀ x ∈ l, FzIn M h n x
    | .agg cs => ∀ x ∈ cs, FzIn M h n x
    | .tup cs => ∀ x ∈ cs, FzIn M h n x
    | .fn _ a b => (∀ x ∈ a, FzIn M h n x) ∧ ∀ x ∈ b, FzIn M h n x
    | _ => True

theorem fzIn_all (h : T Blk) : ∀ (n : Nat) (v : AV), FzIn (fun _ => True) h n v
  | 0, _ => trivial
  | n + 1, v => by
    cases v <;> simp only [FzIn]
    · exact ⟨trivial, fun _ _ _ _ _ _ x _ => fzIn_all h n x⟩
    · exact ⟨fun x _ => fzIn_all h n x, fun x _ => fzIn_all h n x⟩
    · exact fun x _ => fzIn_all h n x
    · exact fun x _ => fzIn_all h n x
theorem fzIn_none (M : Nat → Prop) (h : T Blk) : ∀ (n : Nat) (v : AV), AV.hasSl n v = false → FzIn M h n v
  | 0, _, _ => trivial
  | n + 1, v, hs => by
    cases v <;> simp only [AV.hasSl, List.any_eq_false, Bool.or_eq_false_iff, Bool.true_eq_false] at hs <;> simp only [FzIn]
    · exact ⟨fun x hx => fzIn_none M h n x (by simpa using hs.1 x hx), fun x hx => fzIn_none M h n x (by simpa using hs.2 x hx)⟩
    · exact fun x hx => fzIn_none M h n x (by simpa using hs x hx)
    · exact fun x hx => fzIn_none M h n x (by simpa using hs x hx)

def Mk (g : T Blk) (id : Nat) : Prop := ∃ cs ty, g.get id = some (.cells cs true ty)
theorem Mk.mono {g g' : T Blk} (h : MarkRel g g') {id : Nat} (hm : Mk g id) : Mk g' id := by
  obtain ⟨cs, ty, hcs⟩ := hm
  obtain ⟨fz', h1, h2⟩ := h.cells hcs
  have := h2 rfl
  subst this
  exact ⟨cs, ty, h1⟩
theorem rdAt_sub {cs l : List AV} {off n : Nat} (e : rdAt cs off n = some l) : ∀ x ∈ l, x ∈ cs := by
  unfold rdAt at e
  split at e
  · cases e; exact fun x hx => List.mem_of_mem_drop (List.mem_of_mem_take hx)
  · cases e

theorem fzL_in {h : T Blk} {n : Nat} (hf : ∀ (g g' : T Blk) (v : AV), MarkRel h g → fzs n g v = some g' → MarkRel g g' ∧ ∀ M : Nat → Prop, (∀ id, Mk g' id → M id) → FzIn M h n v) :
    ∀ {l : List AV} {g g' : T Blk}, MarkRel h g → fzL (fzs n) g l = some g' → MarkRel g g' ∧ ∀ M : Nat → Prop, (∀ id, Mk g' id → M id) → ∀ x ∈ l, FzIn M h n x
  | [], g, g', hg, e => by cases e; exact ⟨.refl _, fun _ _ x hx => by cases hx⟩
  | x :: xs, g, g', hg, e => by
    unfold fzL at e
    split at e
    · rename_i g1 h1
      obtain ⟨h2, h3⟩ := hf g g1 x hg h1
      obtain ⟨h4, h5⟩ := fzL_in hf (hg.trans h2) e
      refine ⟨h2.trans h4, fun M hM y hy => ?_⟩
      rcases List.mem_cons.1 hy with rfl | hy
      · exact h3 M fun id hid => hM id (hid.mono h4)
      · exact h5 M hM y hy
    · cases e
theorem fzs_in {h : T Blk} : ∀ (n : Nat) (g g' : T Blk) (v : AV), MarkRel h g → fzs n g v = some g' → MarkRel g g' ∧ ∀ M : Nat → Prop, (∀ id, Mk g' id → M id) → FzIn M h n v
  | 0, _, _, _, _, e => by cases e
  | n + 1, g, g', v, hg, e => by
    have ih : ∀ {l : List AV} {g g' : T Blk}, MarkRel h g → fzL (fzs n) g l = some g' → MarkRel g g' ∧ ∀ M : Nat → Prop, (∀ id, Mk g' id → M id) → ∀ x ∈ l, FzIn M h n x := fun hg e => fzL_in (fun g g' v => fzs_in n g g' v) hg e
    cases v <;> simp only [fzs] at e
    case sl id off k sz c =>
      split at e
      · rename_i cs fz ty hc
        have hp := MarkRel.put hc
        obtain ⟨h1, h2⟩ := ih (hg.trans hp) e
        refine ⟨hp.trans h1, fun M hM => ?_⟩
        simp only [FzIn]
        refine ⟨hM id (Mk.mono h1 ⟨cs, ty, by rw [T.get_put, if_pos rfl]⟩), fun cs' fz' ty' l hcs hl x hx => h2 M hM x ?_⟩
        obtain ⟨fz2, h3, _⟩ := hg.cells hcs
        rw [hc] at h3; cases h3
        exact rdAt_sub hl x hx
      · cases e
    case agg cs => obtain ⟨h1, h2⟩ := ih hg e; exact ⟨h1, fun M hM => by simp only [FzIn]; exact h2 M hM⟩
    case tup cs => obtain ⟨h1, h2⟩ := ih hg e; exact ⟨h1, fun M hM => by simp only [FzIn]; exact h2 M hM⟩
    case fn f a c =>
      split at e
      · rename_i g1 ha
        obtain ⟨h1, h2⟩ := ih hg ha
        obtain ⟨h3, h4⟩ := ih (hg.trans h1) e
        exact ⟨h1.trans h3, fun M hM => by simp only [FzIn]; exact ⟨h2 M fun id hid => hM id (hid.mono h3), h4 M hM⟩⟩
      · cases e
    all_goals (cases e; exact ⟨.refl _, fun _ _ => by simp only [FzIn]⟩)

section
variable {C : CodeRel} {D D' : Nat → Prop} {ρ ρ' : Ren} {w w' : World} {V V' : Ids} {h h' : T Blk}

/-- The blocks of D, and the call's own ones of M. -/
def Dom (D : Nat → Prop) (ρ : Ren) (M : Nat → Prop) (b : Nat) : Prop := D b ∨ ∃ id, M id ∧ ρ id = some b

theorem R.dom {M : Nat → Prop} {x : AV} {v : Value} (hx : R D w V ρ x v) : R (Dom D ρ M) w V ρ x v := hx.sub fun _ h => .inl h

theorem HRel.mark (H : HRel C D w V ρ h) (hm : MarkRel h h') : HRel C (Dom D ρ (Mk h')) w V ρ h' where
  lo := fun id hid => by
    rcases hm id with h1 | ⟨cs, fz, ty, h1, _⟩
    · rw [h1]; exact H.lo id hid
    · rw [H.lo id hid] at h1; cases h1
  dom := fun id b hb => by
    obtain ⟨k, hk⟩ := H.dom id b hb
    rcases hm id with h1 | ⟨cs, fz, ty, _, h1⟩
    · exact ⟨k, h1.trans hk⟩
    · exact ⟨_, h1⟩
  inj := H.inj
  bk := fun id k hk => by
    have own : ∀ b, ρ id = some b → Dom D ρ (Mk h') b → ¬ Mk h' id → D b := fun b hb hd hn => hd.elim (fun h => h) fun ⟨j, hj, hjb⟩ => absurd (H.inj j id b hjb hb ▸ hj) hn
    rcases hm id with h1 | ⟨cs, fz, ty, h1, h2⟩
    · obtain ⟨b, hb, hB⟩ := H.bk id k (h1.symm.trans hk)
      refine ⟨b, hb, ?_⟩
      cases k with
      | cells cs fz ty =>
        obtain ⟨h3, h4, real, mk, h5, h6, h7, h8⟩ := hB
        refine ⟨fun hf => .inl (h3 hf), fun hf hd => h4 hf (own b hb hd fun ⟨cs', ty', hc⟩ => ?_), real, mk, h5, h6, h7, fun j x hx => let ⟨v, hv, hr⟩ := h8 j x hx; ⟨v, hv, hr.dom⟩⟩
        rw [hk, hf] at hc; cases hc
      | map es =>
        obtain ⟨h3, ents, clock, h4, h5, h6⟩ := hB
        exact ⟨fun hd => h3 (own b hb hd fun ⟨cs', ty', hc⟩ => by rw [hk] at hc; cases hc), ents, clock, h4, h5, fun j x hx => let ⟨v, hv, hr, hr2⟩ := h6 j x hx; ⟨v, hv, hr.dom, hr2.dom⟩⟩
      | loop l =>
        obtain ⟨h3, r, h4, h5⟩ := hB
        exact ⟨fun hd => h3 (own b hb hd fun ⟨cs', ty', hc⟩ => by rw [hk] at hc; cases hc), r, h4, ⟨h5.st, h5.pend, h5.size, fun t => (h5.tmps t).dom, h5.ps, h5.lt, h5.asg, h5.body⟩⟩
      | own => exact hB.elim
    · rw [h2] at hk; cases hk
      obtain ⟨b, hb, hB⟩ := H.bk id _ h1
      obtain ⟨h3, h4, real, mk, h5, h6, h7, h8⟩ := hB
      exact ⟨b, hb, fun _ => .inr ⟨id, ⟨cs, ty, h2⟩, hb⟩, fun hf => by (cases hf), real, mk, h5, h6, h7, fun j x hx => let ⟨v, hv, hr⟩ := h8 j x hx; ⟨v, hv, hr.dom⟩⟩

theorem chunk_len (sz : Nat) : ∀ (k : Nat) (l : List AV), (chunk sz k l).length = k
  | 0, _ => rfl
  | k + 1, l => by simp [chunk, chunk_len sz k]
theorem chunk_get (sz : Nat) : ∀ (k : Nat) (l : List AV) (i : Nat) (e : List AV), (chunk sz k l)[i]? = some e → e = (l.drop (i * sz)).take sz
  | 0, _, i, e, h => by simp [chunk] at h
  | k + 1, l, i, e, h => by
    unfold chunk at h
    cases i with
    | zero => simp at h; simp [h]
    | succ i =>
      have := chunk_get sz k (l.drop sz) i e (by simpa using h)
      rw [this, List.drop_drop]
      congr 2
      rw [Nat.succ_mul]; omega

/-- What 'frz' tells is so, under no names at all. -/
theorem frz_ok (H : HRel C D w V ρ h) {M : Nat → Prop} : ∀ {n : Nat} {v u : AV} {val : Value}, FzIn M h n v → frz h n v = some u → R D w V ρ v val → R (Dom D ρ M) w Ids.none Ren.none u val
  | 0, _, _, _, _, e, _ => by cases e
  | n + 1, v, u, val, hin, e, hR => by
    have row : ∀ {l r : List AV} {vs : List Value}, (∀ x ∈ l, FzIn M h n x) → mapO (frz h n) l = some r → RL D w V ρ l vs → RL (Dom D ρ M) w Ids.none Ren.none r vs := fun {l r vs} hl hr hvs => by
      obtain ⟨h1, h2⟩ := mapO_spec hr
      refine ⟨h1.symm.trans hvs.1, fun j x y hx hy => ?_⟩
      have hlt : j < l.length := by rw [h1]; exact (List.getElem?_eq_some_iff.1 hx).1
      have hlj := List.getElem?_eq_getElem hlt
      exact frz_ok H (hl _ (List.getElem_mem hlt)) (h2 j _ x hlj hx) (hvs.2 j _ y hlj hy)
    cases hR with
    | bool b => cases e; exact .bool b
    | int k m => cases e; exact .int k m
    | str s hs => cases e; exact .str s hs
    | nilp => cases e; exact .nilp
    | ptr _ _ => cases e
    | ip c hD hc h1 => cases e; exact .ip c (.inl hD) hc fun j x hx => (h1 j x hx).sub fun _ h => .inl h
    | imn hc ha => cases e; exact .imn hc ha
    | im c hn hcl hD hl hc h1 => cases e; exact .im c hn hcl (.inl hD) hl hc fun i j e' x he hx => (h1 i j e' x he hx).sub fun _ h => .inl h
    | yld _ _ => cases e
    | nilf => cases e; exact .nilf
    | nilm => cases e; exact .nilm
    | mp _ _ => cases e
    | nili => cases e; exact .nili
    | ifv => cases e; exact .ifv
    | ifc hx =>
      rename_i t x v
      cases x <;> first
        | (cases e; cases hx; exact .ifc (.int _ _))
        | (cases e; exact .ifv)
    | nils => cases e; exact .imn (fun _ => rfl) (fun _ => rfl)
    | agg hl hx =>
      rename_i cs vs
      simp only [frz, Option.map_eq_some_iff] at e
      obtain ⟨r, hr, rfl⟩ := e
      simp only [FzIn] at hin
      have := row (vs := vs.toList) hin hr ⟨by simpa using hl, fun j x y hx' hy => hx j x y hx' (by simpa using hy)⟩
      exact .agg (by simpa using this.1) fun j x y hx' hy => this.2 j x y hx' (by simpa using hy)
    | tup hl hx =>
      rename_i cs vs
      simp only [frz, Option.map_eq_some_iff] at e
      obtain ⟨r, hr, rfl⟩ := e
      simp only [FzIn] at hin
      have := row (vs := vs.toList) hin hr ⟨by simpa using hl, fun j x y hx' hy => hx j x y hx' (by simpa using hy)⟩
      exact .tup (by simpa using this.1) fun j x y hx' hy => this.2 j x y hx' (by simpa using hy)
    | fn lf lc hf hc =>
      rename_i f a c vf vc
      simp only [frz] at e
      split at e
      · rename_i a' c' ha hc'
        cases e
        simp only [FzIn] at hin
        have r1 := row (vs := vf.toList) hin.1 ha ⟨by simpa using lf, fun j x y hx' hy => hf j x y hx' (by simpa using hy)⟩
        have r2 := row (vs := vc.toList) hin.2 hc' ⟨by simpa using lc, fun j x y hx' hy => hc j x y hx' (by simpa using hy)⟩
        exact .fn (by simpa using r1.1) (by simpa using r2.1) (fun j x y hx' hy => r1.2 j x y hx' (by simpa using hy)) fun j x y hx' hy => r2.2 j x y hx' (by simpa using hy)
      · cases e
    | sl hid hn hc ha =>
      rename_i id off k sz c ad cap
      simp only [frz] at e
      split at e
      · rename_i cs fz ty hg
        split at e
        · rename_i l hl
          split at e
          · rename_i r hr
            cases e
            simp only [FzIn] at hin
            obtain ⟨b, hb, hB⟩ := H.bk id _ hg
            have hcap : (c == some k) = true → cap = k := fun hq => hc k (by simpa using hq)
            by_cases hk : k = 0
            · subst hk
              simp only [chunk]
              exact .imn (fun hq => hcap hq) (fun hq => by cases hq)
            · rcases ha b hb with h0 | ⟨rfl, _⟩
              · omega
              · obtain ⟨hle, rfl, hll⟩ := rdAt_spec hl
                obtain ⟨vs, h1, h2⟩ := choose_row (A := fun j u => w.cell? ⟨b, off + j, none⟩ = some u) ((cs.drop off).take (k * sz)) (D := D) (w := w) (V := V) (ρ := ρ) (fun j y hy => by
                  rw [List.getElem?_take] at hy
                  split at hy
                  · rw [List.getElem?_drop] at hy; exact hB.cell hy
                  · cases hy)
                have h3 := row (fun x hx => hin.2 cs fz ty _ hg hl x hx) hr h1
                have hvl : vs.length = k * sz := by rw [← h1.1, hll]
                have hrl : r.length = k * sz := by rw [h3.1, hvl]
                have he : ∀ (i : Nat) (e : List AV), (chunk sz k r)[i]? = some e → i < k ∧ e = (r.drop (i * sz)).take sz ∧ e.length = sz := fun i e he => by
                  have hi : i < k := by
                    have := (List.getElem?_eq_some_iff.1 he).1
                    rwa [chunk_len] at this
                  have h4 := chunk_get sz k r i e he
                  have h5 : (i + 1) * sz ≤ k * sz := Nat.mul_le_mul_right _ hi
                  rw [Nat.succ_mul] at h5
                  exact ⟨hi, h4, by rw [h4]; simp; omega⟩
                have key : R (Dom D ρ M) w Ids.none Ren.none (.im (chunk sz k r) (c == some k)) (.slice (some ⟨b, off, none⟩) (chunk sz k r).length cap) := by
                  refine .im (b := b) (o := off) (sz := sz) (fun i j => vs.getD (i * sz + j) undef) (by rw [chunk_len]; exact hn) (fun hq => by rw [chunk_len]; exact hcap hq) (.inr ⟨id, hin.1, hb⟩) (fun e hme => ?_) (fun i j hi hj => ?_) fun i j e x hei hxj => ?_
                  · obtain ⟨i, hi⟩ := List.mem_iff_getElem?.1 hme
                    exact (he i e hi).2.2
                  · rw [chunk_len] at hi
                    have h5 : (i + 1) * sz ≤ k * sz := Nat.mul_le_mul_right _ hi
                    rw [Nat.succ_mul] at h5
                    have hlt : i * sz + j < vs.length := by omega
                    rw [h2 _ _ (List.getElem?_eq_getElem hlt)]
                    simp [List.getD_eq_getElem?_getD, hlt]
                  · obtain ⟨hi, rfl, hel⟩ := he i e hei
                    rw [List.getElem?_take] at hxj
                    split at hxj
                    · rename_i hj
                      rw [List.getElem?_drop] at hxj
                      have hlt : i * sz + j < vs.length := by
                        have := (List.getElem?_eq_some_iff.1 hxj).1
                        omega
                      refine h3.2 _ x _ hxj ?_
                      simp [List.getD_eq_getElem?_getD, hlt]
                    · cases hxj
                rw [chunk_len] at key
                exact key
          · cases e
        · cases e
      · cases e
end
end Go.Proofs.Hz
namespace Go.Proofs.Hz
open Go.RowKit

theorem wpIn_loop_count {F : Fence} {n : Nat} {P : Program} {c : Code} {Q : Exit → Act → World → Prop} (I : Nat → Act → World → Prop) (zero : ∀ a w, ¬ I 0 a w)
    (round : ∀ k a w, I (k + 1) a w → c.wpIn F n P (Exit.then (fun a' w' => I k a' w') Q) a w) : ∀ k a w, I k a w → (Code.loop c).wpIn F n P Q a w := by
  intro k a w hI b it cs hro hb hr
  have key : ∀ k a w, I k a w → ∃ e a' w', Q e a' w' ∧ ArrivesIn (Machine.fenced P F) P (lone (b.atR a (.code c :: .inLoop c :: it)) cs w) b it cs e a' w' := by
    intro k
    induction k with
    | zero => intro a w h; exact absurd h (zero a w)
    | succ k ih =>
      intro a w hI
      obtain ⟨e, a1, w1, hq, harr⟩ := round k a w hI b (.inLoop c :: it) cs hro hb hr
      by_cases hn : e = .normal
      · subst hn
        obtain ⟨e2, a2, w2, hq2, harr2⟩ := ih a1 w1 hq
        exact ⟨e2, a2, w2, hq2, .of_steps (StepsIn.trans harr (.one (fenced_calm hb hr rfl) stepR_inLoop)) harr2⟩
      · have hq' : Q e a1 w1 := by cases e <;> first | exact absurd rfl hn | exact hq
        exact ⟨e, a1, w1, hq', .pass (x := .inLoop c) rfl (fun _ _ => .inl hn) harr⟩
  obtain ⟨e, a', w', hq, harr⟩ := key k a w hI
  exact ⟨e, a', w', hq, .of_steps (.one (fenced_calm hb hr rfl) stepR_loop) harr⟩

/-- Code within a scope. -/
def InScope (F : Fence) (n : Nat) (P : Program) (body c : Code) (Q : Exit → Act → World → Prop) (a : Act) (w : World) : Prop :=
  ∀ (b : Frame) (k : List Item) (cs : List Frame), b.roundOf = F.round → F.fn b.fn → F.room (cs.length + 1 + n) →
    ∃ e a' w', Q e a' w' ∧ ArrivesIn (Machine.fenced P F) P (lone (b.atR a (.code c :: .inScope body :: k)) cs w) b k cs e a' w'
theorem stepR_scope {P : Program} {b : Frame} {a : Act} {k : List Item} {cs : List Frame} {w : World} {c : Code} :
    step P (lone (b.atR a (.code (.scope c) :: k)) cs w) = .next (lone (b.atR a (.code c :: .inScope c :: k)) cs w) :=
  step_lone_go (by simp [stepG, stepG.exec, Frame.atR])
theorem stepR_inScope {P : Program} {b : Frame} {a : Act} {k : List Item} {cs : List Frame} {w : World} {c : Code} :
    step P (lone (b.atR a (.inScope c :: k)) cs w) = .next (lone (b.atR a k) cs w) :=
  step_lone_go (by simp [stepG, stepG.exec, Frame.atR])
theorem inScope_of {F : Fence} {n : Nat} {P : Program} {body c : Code} {Q : Exit → Act → World → Prop} {a : Act} {w : World}
    (h : c.wpIn F n P (fun e a w => match e with
      | .goto l => match findLabel body l with
        | some rest => InScope F n P body rest Q a w
        | none => Q (.goto l) a w
      | e => Q e a w) a w) : InScope F n P body c Q a w := by
  intro b k cs hro hb hr
  obtain ⟨e, a1, w1, hq, harr⟩ := h b (.inScope body :: k) cs hro hb hr
  cases e with
  | normal => exact ⟨.normal, a1, w1, hq, StepsIn.trans harr (.one (fenced_calm hb hr rfl) stepR_inScope)⟩
  | exit id => exact ⟨.exit id, a1, w1, hq, fun k' hk => harr.1 k' (by simpa [exitTo] using hk), fun h1 hk => harr.2 h1 (by simpa [exitTo] using hk)⟩
  | goto l =>
    simp only at hq
    cases hf : findLabel body l with
    | some rest =>
      rw [hf] at hq
      obtain ⟨e2, a2, w2, hq2, harr2⟩ := hq b k cs hro hb hr
      exact ⟨e2, a2, w2, hq2, .of_steps (harr.1 _ (by simp [gotoIn, hf])) harr2⟩
    | none =>
      rw [hf] at hq
      exact ⟨.goto l, a1, w1, hq, fun k' hk => harr.1 k' (by simpa [gotoIn, hf] using hk), fun h1 hk => harr.2 h1 (by simpa [gotoIn, hf] using hk)⟩
  | ret => exact ⟨.ret, a1, w1, hq, harr⟩
  | panic chain => exact ⟨.panic chain, a1, w1, hq, harr⟩
  | outgrown => exact ⟨.outgrown, a1, w1, hq, harr⟩
theorem wpIn_scope {F : Fence} {n : Nat} {P : Program} {body : Code} {Q : Exit → Act → World → Prop} {a : Act} {w : World} (h : InScope F n P body body Q a w) : (Code.scope body).wpIn F n P Q a w := by
  intro b k cs hro hb hr
  obtain ⟨e, a1, w1, hq, harr⟩ := h b k cs hro hb hr
  exact ⟨e, a1, w1, hq, .of_steps (.one (fenced_calm hb hr rfl) stepR_scope) harr⟩

theorem findL_ok {G : Gl} {P : Program} {pu : Nat → Nat} {nt : Nat} : ∀ {c : Code} {ac : AC}, compC P pu nt c = some ac → ∀ l, (findLabel c l = none → findL ac l = none) ∧ ∀ rest, findLabel c l = some rest → ∃ ar, findL ac l = some ar ∧ compC P pu nt rest = some ar := by
  intro c
  induction c with
  | seq x y ihx ihy =>
    intro ac hc l
    simp only [compC] at hc
    split at hc
    · rename_i ax ay hx hy
      cases hc
      simp only [findLabel, findL]
      cases hf : findLabel x l with
      | some rx =>
        obtain ⟨ar, h1, h2⟩ := (ihx hx l).2 rx hf
        refine ⟨fun h => (by cases h), fun rest h => ?_⟩
        cases h
        exact ⟨.seq ar ay, by rw [h1], by simp [compC, h2, hy]⟩
      | none =>
        have h1 := (ihx hx l).1 hf
        rw [h1]
        exact ihy hy l
    · cases hc
  | label j =>
    intro ac hc l
    cases hc
    simp only [findLabel, findL]
    by_cases h : j = l
    · subst h; simp [compC]
    · simp [h]
  | _ =>
    intro ac hc l
    refine ⟨fun _ => ?_, fun rest h => (by cases h)⟩
    simp only [compC] at hc
    first
      | (cases hc; rfl)
      | (simp only [Option.map_eq_some_iff] at hc; obtain ⟨_, _, rfl⟩ := hc; rfl)
      | ((repeat' split at hc) <;> first | (cases hc; rfl) | (cases hc) | skip
         all_goals first | (unfold compDrw at hc; (repeat' split at hc) <;> first | (cases hc; rfl) | cases hc) | (simp only [Option.map_eq_some_iff] at hc; obtain ⟨_, _, rfl⟩ := hc; rfl))

section
variable {G : Gl} {P : Program} {D D' : Nat → Prop} {ρ ρ' : Ren} {w w' : World} {V V' : Ids} {s s' s1 : St} {a : Act} {rd : Option Nat} {m nt : Nat} {Q : Exit → Act → World → Prop}
  {F : Nat → Option AFn} {KK : Nat → List AV → Option AV} {pu : Nat → Nat}

theorem SRel.drawn (h : SRel (C0 P pu) D w V ρ nt s a) (k : Nat) : SRel (C0 P pu) D { w with drawn := k } V ρ nt s a ∧ Ext D ρ w V D ρ { w with drawn := k } V := by
  have e : Ext D ρ w V D ρ { w with drawn := k } V := ⟨fun _ h => h, rfl, rfl, rfl, Nat.le_refl _, fun _ h => h, fun _ _ _ => rfl, fun _ real _ mk h => ⟨real, mk, h, rfl⟩, fun _ r h => ⟨r, h, rfl⟩, fun _ _ _ h => h, fun id _ h => .inl ⟨id, h⟩, fun _ h => .inl h⟩
  refine ⟨⟨h.size, regs_ext e h.db h.regs, ⟨h.heap.lo, h.heap.dom, h.heap.inj, fun id k hk => ?_⟩, h.top, h.db⟩, e⟩
  obtain ⟨b, hb, hB⟩ := h.heap.bk id k hk
  exact ⟨b, hb, hB.ext e h.db rfl (fun h => h)⟩

theorem drawn_ok {n : Nat} (hC : CallOk P pu (callF F KK (exA F KK n))) (hX : ExOk P pu (exA F KK n)) {id : Nat} {ops : Array Oper} {ac : AC} (hc : compDrw P pu nt ops = some ac) (h : SRel (C0 P pu) D w V ρ nt s a) {e : AE} (he : exA F KK (n + 1) ac s = some (e, s1))
    (hQ : ∀ D' ρ' w' V' a', Mv P pu nt D ρ w V s a D' ρ' w' V' s1 a' → Q e.toExit a' w') : (Code.region id ops true).wpIn (FW rd) m P Q a w := by
  unfold compDrw at hc
  split at hc
  · cases hc
  · rename_i as has
    split at hc
    · cases hc
    · rename_i l hl
      split at hc
      · rename_i hok
        cases hc
        simp only [Bool.and_eq_true] at hok
        obtain ⟨hmode, hok⟩ := hok
        simp only [okDrw, Bool.and_eq_true, decide_eq_true_eq, List.all_eq_true, List.any_eq_true, List.mem_range, beq_iff_eq] at hok
        obtain ⟨h1, h2, h3, h4, h5, h6⟩ := hok
        simp only [exA] at he
        split at he
        · rename_i s2 hd
          cases he
          refine wpIn_region_draw fun t => ?_
          simp only [Region.schedule, hmode, if_true]
          refine wpAnyIn_sound ops.size t _ _ _ ?_
          obtain ⟨hS, hE⟩ := h.drawn (w.drawn + 1)
          have hLo : ∀ y ∈ l, ∃ o, ops[y.i]? = some o ∧ compOper P nt ops o = some y.o := fun y hy => by
            obtain ⟨q1, q2⟩ := mapO_spec hl
            obtain ⟨j, hj⟩ := List.mem_iff_getElem?.1 hy
            have hlt : j < (planL (masks ops.toList []) (as.map (kindA pu))).length := by rw [q1]; exact (List.getElem?_eq_some_iff.1 hj).1
            have := q2 j _ y (List.getElem?_eq_getElem hlt) hj
            unfold mkDr at this
            split at this
            · rename_i o ho
              simp only [Option.map_eq_some_iff] at this
              obtain ⟨ao, hao, rfl⟩ := this
              exact ⟨o, ho, hao⟩
            · cases this
          have hS2 : SRel (C0 P pu) D { w with drawn := w.drawn + 1 } V ρ nt { s with nx := s.nx + ops.size } a := ⟨hS.size, ⟨fun t => hS.regs.regs t, hS.regs.gl⟩, hS.heap, fun i hi => by have := h.top i hi; show i < s.nx + ops.size; omega, hS.db⟩
          refine drw_any (nx0 := s.nx) (exA_frame n) hC hX (masks_spec (acc := []) (fun j x hx => by simp at hx) (fun j o ho => by simpa using ho)) h4 ops.size l _ D ρ _ V { s with nx := s.nx + ops.size } a [s.h] h5 (by simp) ⟨okPairs_spec h1, fun l1 y l2 e hk => by simpa using okBack_spec h2 l1 y l2 e hk, okOnce_spec h3⟩ hLo (fun i => ?_) (fun j o ho hj => ?_) hS2 (fun y hy hv => ?_) (Nat.le_refl _) ⟨s.h, [], rfl, fun _ _ h => h⟩ hd fun D' ρ' w' V' a' q1 q2 q3 q4 q5 => ?_
          · constructor
            · intro hi
              have hlt : i < ops.size := by simpa using (getD_true.1 hi).1
              exact h6 i hlt
            · rintro ⟨y, hy, rfl⟩
              obtain ⟨o, ho, _⟩ := hLo y hy
              have hlt : y.i < ops.size := (Array.getElem?_eq_some_iff.1 ho).1
              rw [getD_true]
              simp [hlt]
          · have hlt : j < ops.size := (Array.getElem?_eq_some_iff.1 ho).1
            simp [hlt] at hj
          · have := h.top _ hv
            omega
          · exact hQ D' ρ' w' V' a' ⟨q1, hE.trans q2, by simp only at q3; omega, q4, fun n0 _ m => by rw [q5]; exact m.ext h.heap (hE.trans q2)⟩
        · cases he
      · cases hc

/-- The abstract code of functions is the code's. -/
def FOk [Gl] (P : Program) (pu : Nat → Nat) (F : Nat → Option AFn) : Prop := ∀ f af, F f = some af → compF P pu f = some af
/-- What is known of calls that work for themselves. -/
def KOk1 [Gl] (P : Program) (f : Nat) (k : List AV → Option AV) : Prop :=
  ∀ {args : List AV} {r : AV} {D : Nat → Prop} {w : World} {vals : List Value}, k args = some r → (∀ b, D b → b < w.heap.size) → GOk D w → RL D w Ids.none Ren.none args vals → IsFn P f ∧
    ∀ n, CallsIn (FW none) n P f vals.toArray w fun e w' => ∃ val D', e = .returned val ∧ R D' w' Ids.none Ren.none r val ∧ Ext D Ren.none w Ids.none D' Ren.none w' Ids.none ∧ ∀ b, D' b → b < w'.heap.size
def KOk [Gl] (P : Program) (KK : Nat → List AV → Option AV) : Prop := ∀ f, KOk1 P f (KK f)

theorem HRel.more {C : CodeRel} {h : T Blk} (H : HRel C D w V ρ h) (db : ∀ b, D b → b < w.heap.size) (e : Ext D ρ w V D ρ w' V) (hsame : ∀ id b, ρ id = some b → w'.heap[b]? = w.heap[b]?) : HRel C D w' V ρ h :=
  ⟨H.lo, H.dom, H.inj, fun id k hk => let ⟨b, h1, h2⟩ := H.bk id k hk; ⟨b, h1, h2.ext e db (hsame id b h1) (fun h => h)⟩⟩
theorem Ext.allocU (o : Obj) : Ext D ρ w V D ρ (w.alloc o) V where
  ids := fun _ hi => hi
  os := rfl
  tape := rfl
  output := rfl
  size := by simp
  sub := fun _ hb => hb
  frame := fun b hb _ => heap_alloc_old' w o b hb
  shape := fun b real ty mk hb => ⟨real, mk, by rw [heap_alloc_old' w o b (Array.getElem?_eq_some_iff.1 hb).1]; exact hb, rfl⟩
  loops := fun b r hb => ⟨r, by rw [heap_alloc_old' w o b (Array.getElem?_eq_some_iff.1 hb).1]; exact hb, rfl⟩
  ren := fun j b hj hb => hb
  new := fun j b hb => .inl ⟨j, hb⟩
  dnew := fun b hb => .inl hb

/-- A loop over a function is entered. -/
theorem enter_ok (h : SRel (C0 P pu) D w V ρ nt s a) (hrd : RdOk w rd) {ps : Array Tmp} {x y : Code} {ax ay : AC} (hx : compC P pu nt x = some ax) (hy : compC P pu nt y = some ay) (hps : ps.toList.all (fun p => decide (p < nt)) = true) (fn : FuncId) :
    ∃ l mark w1, (Instr.enterLoop fn a.tmps ps x y (FW rd).round).run P w = .ok (l, mark) w1 ∧ Ext D ρ w V D (ρ.set s.nx (some l)) w1 (V.add s.nx) ∧
      HRel (C0 P pu) D w1 (V.add s.nx) (ρ.set s.nx (some l)) (s.new (.loop { st := 0, pend := none, r := s.r, ps := ps.toList, asg := ax, body := ay, nt := nt })).h ∧ ¬ D l ∧ w.heap.size ≤ l ∧ (∀ b, D b → b < w1.heap.size) ∧
      ∀ n0, n0 ≤ w.heap.size → MarkL D w n0 a.defers → MarkL D w1 n0 (mark ++ a.defers) := by
  have hf : ¬ V s.nx := fun hv => Nat.lt_irrefl _ (h.top _ hv)
  have lrel : ∀ (w1 : World) (r : Loop) (ρ1 : Ren) (V1 : Ids), Ext D ρ w V D ρ1 w1 V1 → r.state = .ready → r.pending = none → r.tmps = a.tmps → r.params = ps → r.assign = x → r.body = y →
      LRel D w1 V1 ρ1 { st := 0, pend := none, r := s.r, ps := ps.toList, asg := ax, body := ay, nt := nt } r ((C0 P pu).rel nt) := fun w1 r ρ1 V1 e1 q1 q2 q3 q4 q5 q6 =>
    ⟨by rw [q1], by rw [q2]; trivial, by rw [q3]; exact h.size, fun t => by rw [q3]; exact (h.regs.regs t).ext e1 h.db, by rw [q4], fun p hp => by simpa using List.all_eq_true.1 hps p hp, by rw [q5]; exact hx, by rw [q6]; exact hy⟩
  cases rd with
  | none =>
    have e0 : Ext D ρ w V D ρ (w.alloc (.deferred (some []))) V := Ext.allocU _
    have H0 := h.heap.more h.db e0 (fun id b hb => heap_alloc_old' w _ b (h.heap.blt hb))
    have db0 : ∀ b, D b → b < (w.alloc (.deferred (some []))).heap.size := fun b hb => by have := h.db b hb; simp; omega
    have hs1 : (w.alloc (.deferred (some []))).heap.size = w.heap.size + 1 := by simp
    have e1 := Ext.add (D := D) (ρ := ρ) (w := w.alloc (.deferred (some []))) (V := V) hf (.loop { state := .ready, pending := none, fn := fn, tmps := a.tmps, params := ps, assign := x, body := y, defers := w.heap.size })
    rw [hs1] at e1
    have H1 := H0.add db0 hf (.loop { state := .ready, pending := none, fn := fn, tmps := a.tmps, params := ps, assign := x, body := y, defers := w.heap.size }) (.loop { st := 0, pend := none, r := s.r, ps := ps.toList, asg := ax, body := ay, nt := nt })
      ⟨fun hd => (by have := h.db _ hd; simp at this; omega), _, heap_alloc_new' _ _, lrel _ _ _ _ (e0.trans (by rw [hs1]; exact e1)) rfl rfl rfl rfl rfl rfl⟩
    rw [hs1] at H1
    refine ⟨_, _, _, run_enterLoop_outer (P := P) fn a.tmps ps x y, e0.trans e1, H1, fun hd => by have := h.db _ hd; omega, by omega, fun b hb => by have := h.db b hb; simp; omega, fun n0 hn0 hm => ?_⟩
    obtain ⟨rs, q1, q2, q3⟩ := hm
    refine ⟨w.heap.size :: rs, by rw [q1]; rfl, List.pairwise_cons.2 ⟨fun r hr => (Array.getElem?_eq_some_iff.1 (q3 r hr).2.2).1, q2⟩, fun r hr => ?_⟩
    rcases List.mem_cons.1 hr with rfl | hr
    · refine ⟨hn0, fun hd => Nat.lt_irrefl _ (h.db _ hd), ?_⟩
      rw [heap_alloc_old' _ _ _ (by rw [hs1]; omega)]
      exact heap_alloc_new' w _
    · obtain ⟨k1, k2, k3⟩ := q3 r hr
      have hlt := (Array.getElem?_eq_some_iff.1 k3).1
      refine ⟨k1, k2, ?_⟩
      rw [heap_alloc_old' _ _ _ (by rw [hs1]; omega), heap_alloc_old' _ _ _ hlt]
      exact k3
  | some l0 =>
    obtain ⟨r0, hr0⟩ := hrd l0 rfl
    have e1 := Ext.add (D := D) (ρ := ρ) (w := w) (V := V) hf (.loop { state := .ready, pending := none, fn := fn, tmps := a.tmps, params := ps, assign := x, body := y, defers := r0.defers })
    have H1 := h.heap.add h.db hf (.loop { state := .ready, pending := none, fn := fn, tmps := a.tmps, params := ps, assign := x, body := y, defers := r0.defers }) (.loop { st := 0, pend := none, r := s.r, ps := ps.toList, asg := ax, body := ay, nt := nt })
      ⟨fun hd => Nat.lt_irrefl _ (h.db _ hd), _, heap_alloc_new' _ _, lrel _ _ _ _ e1 rfl rfl rfl rfl rfl rfl⟩
    refine ⟨_, _, _, run_enterLoop_inner (P := P) hr0 fn a.tmps ps x y, e1, H1, fun hd => Nat.lt_irrefl _ (h.db _ hd), Nat.le_refl _, fun b hb => by have := h.db b hb; simp; omega, fun n0 hn0 hm => ?_⟩
    obtain ⟨rs, q1, q2, q3⟩ := hm
    refine ⟨rs, by rw [q1]; rfl, q2, fun r hr => ?_⟩
    obtain ⟨k1, k2, k3⟩ := q3 r hr
    have hlt := (Array.getElem?_eq_some_iff.1 k3).1
    exact ⟨k1, k2, by rw [heap_alloc_old' _ _ _ hlt]; exact k3⟩

theorem rng_ok {n : Nat} (hC : CallOk P pu (callF F KK (exA F KK n))) {g : Operand} {af : AO} {ps : Array Tmp} {x y : Code} {ax ay : AC} (hf : absO g = some af) (hx : compC P pu nt x = some ax) (hy : compC P pu nt y = some ay) (hps : ps.toList.all (fun p => decide (p < nt)) = true)
    (h : SRel (C0 P pu) D w V ρ nt s a) (hrd : RdOk w rd) {e : AE} (he : exA F KK (n + 1) (.rngf nt af ps.toList ax ay) s = some (e, s1)) (hQ : ∀ D' ρ' w' V' a', Mv P pu nt D ρ w V s a D' ρ' w' V' s1 a' → Q e.toExit a' w') : (Code.rangeFunc g ps x y).wpIn (FW rd) m P Q a w := by
  simp only [exA] at he
  split at he
  · rename_i v0 s2 hcall
    split at he
    · rename_i l hl
      split at he
      · cases he
      · rename_i hst
        have hR := ev_ok h.regs hf
        unfold callG at hcall
        split at hcall
        · rename_i g1 first caps hev
          rw [hev] at hR
          generalize hgv : a.eval g = gv at hR
          cases hR with
          | fn lf lc hfst hcap =>
            rename_i vf vc
            refine wpIn_rangeFunc fun fn _ => ?_
            obtain ⟨lb, mark, w1, henter, e1, H1, hnD, hge, db1, hmk⟩ := enter_ok h hrd hx hy hps fn
            have hl1 : RL D w V ρ first vf.toList := ⟨by simpa using lf, fun j x u hx hu => hfst j x u hx (by simpa using hu)⟩
            have hl2 : RL D w V ρ caps vc.toList := ⟨by simpa using lc, fun j x u hx hu => hcap j x u hx (by simpa using hu)⟩
            have hy1 : RL D w1 (V.add s.nx) (ρ.set s.nx (some lb)) [.yld s.nx] [.func (.yield lb) #[] #[]] := RL.cons (.yld (.inr rfl) fun b hb => by rw [Ren.set_same] at hb; cases hb; rfl) .nil
            obtain ⟨⟨fn1, cd, h1, h2, h3⟩, hcl⟩ := hC H1 db1 (h.regs.gl.ext e1 h.db) (fun i hi => by
              rcases hi with hi | hi
              · have := h.top i hi; simp only [St.new]; omega
              · subst hi; simp only [St.new]; omega) (((hl1.ext e1 h.db).append hy1).append (hl2.ext e1 h.db)) hcall
            have hcf : ∀ as : Array Value, (callFunc g1 as).run P w1 = .ok (.enter g1 as) w1 := fun as => by simp [callFunc, go_sem, h1, h2, h3]
            refine ⟨lb, mark, w1, { target := .fn (.func g1) vc, args := vf ++ #[.func (.yield lb) #[] #[]] }, w1, g1, vf ++ #[.func (.yield lb) #[] #[]] ++ vc, w1, henter, ?_, fun _ _ => trivial, ?_, fun hh => by simp [FW] at hh, ?_⟩
            · have hk : a.eval (.const (.func (.yield lb) #[] #[])) = .func (.yield lb) #[] #[] := rfl
              simp [resolve, hgv, Deferred.ofValue, hk]
            · simp [invoke, hcf]
            · have hq := hcl (m - 1)
              rw [show (vf.toList ++ [Value.func (.yield lb) #[] #[]] ++ vc.toList).toArray = vf ++ #[Value.func (.yield lb) #[] #[]] ++ vc by apply Array.ext'; simp] at hq
              refine CallsIn.mono (FW_calls hq) fun e1' w2 he1 => ?_
              obtain ⟨val, D2, ρ2, V2, rfl, hp⟩ := he1
              obtain ⟨b2, hb2, hB2⟩ := hp.heap.bk _ _ hl
              have e2 := hp.ext.ren s.nx b2 (.inr rfl) hb2
              rw [Ren.set_same] at e2; cases e2
              obtain ⟨hnD2, r2, hr2, hL2⟩ := hB2
              have hnb : r2.state ≠ .busy := fun hq => by
                have := hL2.st
                rw [hq] at this
                exact hst this.symm
              obtain ⟨H3, x3⟩ := setB_ok hp.heap hp.db hb2 hnD2 hr2 (fun _ _ _ h => by cases h) (.loop { r2 with state := .exhausted }) (fun r' h => by cases h; exact ⟨_, rfl, rfl⟩) (.loop { l with st := 3 }) (fun x3 => ⟨hnD2, _, setB_same (Array.getElem?_eq_some_iff.1 hr2).1 _, ⟨rfl, hL2.pend, hL2.size, fun t => (hL2.tmps t).ext x3 hp.db, hL2.ps, hL2.lt, hL2.asg, hL2.body⟩⟩)
              have ee := (e1.trans hp.ext).trans x3
              have hM : Mv P pu nt D ρ w V s a D2 ρ2 (setB w2 lb (.loop { r2 with state := .exhausted })) V2 { r := s.r, h := s2.h.put s.nx (some (.loop { l with st := 3 })), nx := s2.nx } { a with defers := mark ++ a.defers } := by
                have hnx : s.nx + 1 ≤ s2.nx := hp.nx
                refine ⟨⟨h.size, ⟨fun t => (h.regs.regs t).ext ee h.db, h.regs.gl.ext ee h.db⟩, H3, fun i hi => ?_, fun c hc => Nat.lt_of_lt_of_le (hp.db c hc) x3.size⟩, ee, by show s.nx ≤ s2.nx; omega, fun i hi => ?_, fun n0 hn0 hm => ?_⟩
                · show i < s2.nx
                  rcases hp.ids i hi with (hi | hi) | hi
                  · have := h.top i hi; omega
                  · omega
                  · exact hi.2
                · rcases hp.ids i hi with (hi | hi) | hi
                  · exact .inl hi
                  · exact .inr (by omega)
                  · have h1 : s.nx + 1 ≤ i := hi.1
                    exact .inr (by omega)
                · exact (hmk n0 hn0 hm).ext H1 (hp.ext.trans x3)
              refine ⟨_, _, run_endLoop hr2 hnb, ?_⟩
              have hpd := hL2.pend
              split at he
              · rename_i hnone
                cases he
                rw [hnone] at hpd
                have hq := hQ _ _ _ _ _ hM
                generalize r2.pending = pp at hpd hq ⊢
                cases pp with
                | none => exact hq
                | some c => cases c <;> exact hpd.elim
              · rename_i e' hsome
                cases he
                rw [hsome] at hpd
                have hq := hQ _ _ _ _ _ hM
                generalize r2.pending = pp at hpd hq ⊢
                cases pp with
                | none => exact hpd.elim
                | some c =>
                  cases c <;> cases e <;> first | exact hpd.elim | skip
                  · cases hpd; exact wpIn_exit hq
                  · cases hpd; exact wpIn_goto hq
                  · exact wpIn_ret hq
        · cases hcall
    · cases he
  · cases he

theorem ex_ok : ∀ (n : Nat), (∀ k, k < n → CallOk P pu (callF F KK (exA F KK k))) → ExOk P pu (exA F KK n) := by
  intro n
  induction n using Nat.strongRecOn with
  | _ n ih =>
    intro hC nt code ac hc rd m D ρ w V s s1 a e Q h hrd he hQ
    cases n with
    | zero => cases he
    | succ n =>
      have IH : ExOk P pu (exA F KK n) := ih n (Nat.lt_succ_self n) (fun k hk => hC k (Nat.lt_succ_of_lt hk))
      have hCn : CallOk P pu (callF F KK (exA F KK n)) := hC n (Nat.lt_succ_self n)
      cases code with
      | skip => cases hc; cases he; exact wpIn_skip (hQ _ _ _ _ _ (Mv.refl h))
      | region id ops draw =>
        simp only [compC] at hc
        cases draw with
        | true => simp only [if_true] at hc; exact drawn_ok hCn IH hc h he hQ
        | false =>
          simp only [Bool.false_eq_true, if_false, Option.map_eq_some_iff] at hc
          obtain ⟨aos, hm, rfl⟩ := hc
          simp only [exA] at he
          split at he
          · rename_i s2 hr
            cases he
            exact region_ok hCn IH hm h hr hQ
          · cases he
      | seq x y =>
        simp only [compC] at hc
        split at hc
        · rename_i ax ay hx hy
          cases hc
          simp only [exA] at he
          refine wpIn_seq ?_
          split at he
          · rename_i s2 h1
            refine IH hx h hrd h1 fun D' ρ' w' V' a' m1 => ?_
            exact IH hy m1.rel (hrd.ext m1.ext) he fun D₂ ρ₂ w₂ V₂ a₂ m2 => hQ _ _ _ _ _ (m1.trans m2)
          · rename_i hne
            refine IH hx h hrd he fun D' ρ' w' V' a' m1 => ?_
            have := hQ _ _ _ _ _ m1
            cases e with
            | nrm => exact absurd he (hne s1)
            | ext i => exact this
            | gto l => exact this
            | ret => exact this
        · cases hc
      | cond c x y =>
        simp only [compC] at hc
        split at hc
        · rename_i ac ax ay hcc hx hy
          cases hc
          simp only [exA] at he
          have hR := ev_ok h.regs hcc
          split at he
          · rename_i t ht
            rw [ht] at hR
            generalize hv : a.eval c = v at hR
            cases hR
            refine wpIn_cond hv ?_
            cases t with
            | true => exact IH hx h hrd (by simpa using he) hQ
            | false => exact IH hy h hrd (by simpa using he) hQ
          · cases he
        · cases hc
      | block id c =>
        simp only [compC, Option.map_eq_some_iff] at hc
        obtain ⟨ax, hx, rfl⟩ := hc
        simp only [exA] at he
        refine wpIn_block ?_
        split at he
        · rename_i j s2 h1
          refine IH hx h hrd h1 fun D' ρ' w' V' a' m1 => ?_
          simp only [AE.toExit, Exit.inBlock]
          split at he
          · rename_i hj
            cases he
            rw [if_pos hj]
            exact hQ _ _ _ _ _ m1
          · rename_i hj
            cases he
            rw [if_neg hj]
            exact hQ _ _ _ _ _ m1
        · rename_i hne
          refine IH hx h hrd he fun D' ρ' w' V' a' m1 => ?_
          have := hQ _ _ _ _ _ m1
          cases e with
          | nrm => exact this
          | ext i => exact absurd he (hne i s1)
          | gto l => exact this
          | ret => exact this
      | loop c =>
        simp only [compC, Option.map_eq_some_iff] at hc
        obtain ⟨ax, hx, rfl⟩ := hc
        refine wpIn_loop_count (fun k a' w' => k ≤ n + 1 ∧ ∃ D' ρ' V' s', Mv P pu nt D ρ w V s a D' ρ' w' V' s' a' ∧ exA F KK k (.loop ax) s' = some (e, s1)) (fun a' w' hI => ?_) (fun k a' w' hI => ?_) (n + 1) a w ⟨Nat.le_refl _, D, ρ, V, s, Mv.refl h, he⟩
        · obtain ⟨_, _, _, _, _, _, h0⟩ := hI
          cases h0
        · obtain ⟨hk, D', ρ', V', s', m1, h1⟩ := hI
          simp only [exA] at h1
          have IH0 : ExOk P pu (exA F KK k) := ih k (by omega) (fun j hj => hC j (by omega))
          split at h1
          · rename_i s2 h2
            exact IH0 hx m1.rel (hrd.ext m1.ext) h2 fun D₂ ρ₂ w₂ V₂ a₂ m2 => ⟨by omega, D₂, ρ₂, V₂, s2, m1.trans m2, h1⟩
          · rename_i hne
            refine IH0 hx m1.rel (hrd.ext m1.ext) h1 fun D₂ ρ₂ w₂ V₂ a₂ m2 => ?_
            have := hQ _ _ _ _ _ (m1.trans m2)
            cases e with
            | nrm => exact absurd h1 (hne s1)
            | ext i => exact this
            | gto l => exact this
            | ret => exact this
      | rangeFunc f ps x y =>
        simp only [compC] at hc
        split at hc
        · rename_i af ax ay hf hx hy
          split at hc
          · rename_i hps
            cases hc
            exact rng_ok hCn hf hx hy hps h hrd he hQ
          · cases hc
        · cases hc
      | exit id => cases hc; cases he; exact wpIn_exit (hQ _ _ _ _ _ (Mv.refl h))
      | scope c =>
        simp only [compC] at hc
        split at hc
        · rename_i ab hb
          cases hc
          have hsc : ∀ j, j ≤ n + 1 → ∀ {cc : Code} {cur : AC}, compC P pu nt cc = some cur → ∀ {D : Nat → Prop} {ρ : Ren} {w : World} {V : Ids} {s : St} {a : Act}, SRel (C0 P pu) D w V ρ nt s a → RdOk w rd → exA F KK j (.scope cur ab) s = some (e, s1) →
              (∀ D' ρ' w' V' a', Mv P pu nt D ρ w V s a D' ρ' w' V' s1 a' → Q e.toExit a' w') → InScope (FW rd) m P c cc Q a w := by
            intro j
            induction j with
            | zero => intro _ cc cur _ D ρ w V s a _ _ he _; cases he
            | succ j ihj =>
              intro hj cc cur hcc D ρ w V s a h hrd he hQ
              simp only [exA] at he
              refine inScope_of ?_
              have IHj : ExOk P pu (exA F KK j) := ih j (by omega) (fun k hk => hC k (by omega))
              split at he
              · rename_i l s2 h1
                refine IHj hcc h hrd h1 fun D' ρ' w' V' a' m1 => ?_
                simp only [AE.toExit]
                obtain ⟨k1, k2⟩ := findL_ok hb l
                split at he
                · rename_i rest hrest
                  cases hfl : findLabel c l with
                  | none => rw [k1 hfl] at hrest; cases hrest
                  | some rc =>
                    obtain ⟨ar, q1, q2⟩ := k2 rc hfl
                    rw [q1] at hrest; cases hrest
                    exact ihj (by omega) q2 m1.rel (hrd.ext m1.ext) he fun D₂ ρ₂ w₂ V₂ a₂ m2 => hQ _ _ _ _ _ (m1.trans m2)
                · rename_i hrest
                  cases he
                  cases hfl : findLabel c l with
                  | none => exact hQ _ _ _ _ _ m1
                  | some rc =>
                    obtain ⟨ar, q1, q2⟩ := k2 rc hfl
                    rw [q1] at hrest; cases hrest
              · rename_i hne
                refine IHj hcc h hrd he fun D' ρ' w' V' a' m1 => ?_
                have := hQ _ _ _ _ _ m1
                cases e with
                | nrm => exact this
                | ext i => exact this
                | gto l => exact absurd he (hne l s1)
                | ret => exact this
          exact wpIn_scope (hsc (n + 1) (Nat.le_refl _) hb h hrd he hQ)
        · cases hc
      | label l => cases hc; cases he; exact wpIn_label (hQ _ _ _ _ _ (Mv.refl h))
      | goto l => cases hc; cases he; exact wpIn_goto (hQ _ _ _ _ _ (Mv.refl h))
      | ret => cases hc; cases he; exact wpIn_ret (hQ _ _ _ _ _ (Mv.refl h))
      | refuse r => cases hc; cases he
end
end Go.Proofs.Hz
