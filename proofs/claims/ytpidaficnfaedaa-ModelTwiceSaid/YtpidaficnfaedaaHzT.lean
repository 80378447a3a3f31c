/-
  What is handed to a call that works for itself, and what it hands back: blocks that are written never again.
  Conditions: none (lemmas).
-/
import Derived.Test.YtpidaficnfaedaaHzS3
namespace Go.Proofs.Hz
open Go.RowKit

/-- Marked, or as it was. -/
def MarkRel (g g' : T Blk) : Prop := ∀ id, g'.get id = g.get id ∨ ∃ cs fz, g.get id = some (.cells cs fz) ∧ g'.get id = some (.cells cs true)
theorem MarkRel.refl (g : T Blk) : MarkRel g g := fun _ => .inl rfl
theorem MarkRel.trans {a b c : T Blk} (h : MarkRel a b) (k : MarkRel b c) : MarkRel a c := fun id => by
  rcases k id with hk | ⟨cs, fz, h1, h2⟩
  · rcases h id with hh | ⟨cs, fz, h1, h2⟩
    · exact .inl (hk.trans hh)
    · exact .inr ⟨cs, fz, h1, hk.trans h2⟩
  · rcases h id with hh | ⟨cs', fz', h3, h4⟩
    · exact .inr ⟨cs, fz, hh.symm.trans h1, h2⟩
    · rw [h4] at h1; cases h1; exact .inr ⟨cs, fz', h3, h2⟩
theorem MarkRel.put {g : T Blk} {id : Nat} {cs : List AV} {fz : Bool} (h : g.get id = some (.cells cs fz)) : MarkRel g (g.put id (some (.cells cs true))) := fun j => by
  rw [T.get_put]
  by_cases e : id = j
  · subst e; exact .inr ⟨cs, fz, h, by rw [if_pos rfl]⟩
  · rw [if_neg e]; exact .inl rfl
theorem MarkRel.cells {g g' : T Blk} (h : MarkRel g g') {id : Nat} {cs : List AV} {fz : Bool} (hg : g.get id = some (.cells cs fz)) : ∃ fz', g'.get id = some (.cells cs fz') ∧ (fz = true → fz' = true) := by
  rcases h id with h | ⟨cs', fz', h1, h2⟩
  · exact ⟨fz, h.trans hg, fun h => h⟩
  · rw [hg] at h1; cases h1; exact ⟨true, h2, fun _ => rfl⟩

/-- The slices that 'frz' tells lie in blocks of M. -/
def FzIn (M : Nat → Prop) (h : T Blk) : Nat → AV → Prop
  | 0, _ => True
  | n + 1, v => match v with
    | .sl id off k sz _ => M id ∧ ∀ cs fz l, h.get id = some (.cells cs fz) → rdAt cs off (k * sz) = some l → ∀ x ∈ l, FzIn M h n x
    | .agg cs => ∀ x ∈ cs, FzIn M h n x
    | .tup cs => ∀ x ∈ cs, FzIn M h n x
    | .fn _ a b => (∀ x ∈ a, FzIn M h n x) ∧ ∀ x ∈ b, FzIn M h n x
    | _ => True

theorem fzIn_all (h : T Blk) : ∀ (n : Nat) (v : AV), FzIn (fun _ => True) h n v
  | 0, _ => trivial
  | n + 1, v => by
    cases v <;> simp only [FzIn]
    · exact ⟨trivial, fun _ _ _ _ _ x _ => fzIn_all h n x⟩
    · exact ⟨fun x _ => fzIn_all h n x, fun x _ => fzIn_all h n x⟩
    · exact fun x _ => fzIn_all h n x
    · exact fun x _ => fzIn_all h n x
theorem fzIn_none (M : Nat → Prop) (h : T Blk) : ∀ (n : Nat) (v : AV), AV.hasSl n v = false → FzIn M h n v
  | 0, _, _ => trivial
  | n + 1, v, hs => by
    cases v <;> simp only [AV.hasSl, List.any_eq_false, Bool.or_eq_false_iff, Bool.true_eq_false] at hs <;> simp only [FzIn]
    · exact ⟨fun x hx => fzIn_none M h n x (by simpa using hs.1 x hx), fun x hx => fzIn_none M h n x (by simpa using hs.2 x hx)⟩
    · exact fun x hx => fzIn_none M h n x (by simpa using hs x hx)
    · exact fun x hx => fzIn_none M h n x (by simpa using hs x hx)

def Mk (g : T Blk) (id : Nat) : Prop := ∃ cs, g.get id = some (.cells cs true)
theorem Mk.mono {g g' : T Blk} (h : MarkRel g g') {id : Nat} (hm : Mk g id) : Mk g' id := by
  obtain ⟨cs, hcs⟩ := hm
  obtain ⟨fz', h1, h2⟩ := h.cells hcs
  have := h2 rfl
  subst this
  exact ⟨cs, h1⟩
theorem rdAt_sub {cs l : List AV} {off n : Nat} (e : rdAt cs off n = some l) : ∀ x ∈ l, x ∈ cs := by
  unfold rdAt at e
  split at e
  · cases e; exact fun x hx => List.mem_of_mem_drop (List.mem_of_mem_take hx)
  · cases e

theorem fzL_in {h : T Blk} {n : Nat} (hf : ∀ (g g' : T Blk) (v : AV), MarkRel h g → fzs n g v = some g' → MarkRel g g' ∧ ∀ M : Nat → Prop, (∀ id, Mk g' id → M id) → FzIn M h n v) :
    ∀ {l : List AV} {g g' : T Blk}, MarkRel h g → fzL (fzs n) g l = some g' → MarkRel g g' ∧ ∀ M : Nat → Prop, (∀ id, Mk g' id → M id) → ∀ x ∈ l, FzIn M h n x
  | [], g, g', hg, e => by cases e; exact ⟨.refl _, fun _ _ x hx => by cases hx⟩
  | x :: xs, g, g', hg, e => by
    unfold fzL at e
    split at e
    · rename_i g1 h1
      obtain ⟨h2, h3⟩ := hf g g1 x hg h1
      obtain ⟨h4, h5⟩ := fzL_in hf (hg.trans h2) e
      refine ⟨h2.trans h4, fun M hM y hy => ?_⟩
      rcases List.mem_cons.1 hy with rfl | hy
      · exact h3 M fun id hid => hM id (hid.mono h4)
      · exact h5 M hM y hy
    · cases e
theorem fzs_in {h : T Blk} : ∀ (n : Nat) (g g' : T Blk) (v : AV), MarkRel h g → fzs n g v = some g' → MarkRel g g' ∧ ∀ M : Nat → Prop, (∀ id, Mk g' id → M id) → FzIn M h n v
  | 0, _, _, _, _, e => by cases e
  | n + 1, g, g', v, hg, e => by
    have ih : ∀ {l : List AV} {g g' : T Blk}, MarkRel h g → fzL (fzs n) g l = some g' → MarkRel g g' ∧ ∀ M : Nat → Prop, (∀ id, Mk g' id → M id) → ∀ x ∈ l, FzIn M h n x := fun hg e => fzL_in (fun g g' v => fzs_in n g g' v) hg e
    cases v <;> simp only [fzs] at e
    case sl id off k sz c =>
      split at e
      · rename_i cs fz hc
        have hp := MarkRel.put hc
        obtain ⟨h1, h2⟩ := ih (hg.trans hp) e
        refine ⟨hp.trans h1, fun M hM => ?_⟩
        simp only [FzIn]
        refine ⟨hM id (Mk.mono h1 ⟨cs, by rw [T.get_put, if_pos rfl]⟩), fun cs' fz' l hcs hl x hx => h2 M hM x ?_⟩
        obtain ⟨fz2, h3, _⟩ := hg.cells hcs
        rw [hc] at h3; cases h3
        exact rdAt_sub hl x hx
      · cases e
    case agg cs => obtain ⟨h1, h2⟩ := ih hg e; exact ⟨h1, fun M hM => by simp only [FzIn]; exact h2 M hM⟩
    case tup cs => obtain ⟨h1, h2⟩ := ih hg e; exact ⟨h1, fun M hM => by simp only [FzIn]; exact h2 M hM⟩
    case fn f a c =>
      split at e
      · rename_i g1 ha
        obtain ⟨h1, h2⟩ := ih hg ha
        obtain ⟨h3, h4⟩ := ih (hg.trans h1) e
        exact ⟨h1.trans h3, fun M hM => by simp only [FzIn]; exact ⟨h2 M fun id hid => hM id (hid.mono h3), h4 M hM⟩⟩
      · cases e
    all_goals (cases e; exact ⟨.refl _, fun _ _ => by simp only [FzIn]⟩)

section
variable {C : CodeRel} {D D' : Nat → Prop} {ρ ρ' : Ren} {w w' : World} {V V' : Ids} {h h' : T Blk}

/-- The blocks of D, and the call's own ones of M. -/
def Dom (D : Nat → Prop) (ρ : Ren) (M : Nat → Prop) (b : Nat) : Prop := D b ∨ ∃ id, M id ∧ ρ id = some b

theorem R.dom {M : Nat → Prop} {x : AV} {v : Value} (hx : R D w V ρ x v) : R (Dom D ρ M) w V ρ x v := hx.sub fun _ h => .inl h

theorem HRel.mark (H : HRel C D w V ρ h) (hm : MarkRel h h') : HRel C (Dom D ρ (Mk h')) w V ρ h' where
  lo := fun id hid => by
    rcases hm id with h1 | ⟨cs, fz, h1, _⟩
    · rw [h1]; exact H.lo id hid
    · rw [H.lo id hid] at h1; cases h1
  dom := fun id b hb => by
    obtain ⟨k, hk⟩ := H.dom id b hb
    rcases hm id with h1 | ⟨cs, fz, _, h1⟩
    · exact ⟨k, h1.trans hk⟩
    · exact ⟨_, h1⟩
  inj := H.inj
  bk := fun id k hk => by
    have own : ∀ b, ρ id = some b → Dom D ρ (Mk h') b → ¬ Mk h' id → D b := fun b hb hd hn => hd.elim (fun h => h) fun ⟨j, hj, hjb⟩ => absurd (H.inj j id b hjb hb ▸ hj) hn
    rcases hm id with h1 | ⟨cs, fz, h1, h2⟩
    · obtain ⟨b, hb, hB⟩ := H.bk id k (h1.symm.trans hk)
      refine ⟨b, hb, ?_⟩
      cases k with
      | cells cs fz =>
        obtain ⟨h3, h4, real, ty, mk, h5, h6, h7, h8⟩ := hB
        refine ⟨fun hf => .inl (h3 hf), fun hf hd => h4 hf (own b hb hd fun ⟨cs', hc⟩ => ?_), real, ty, mk, h5, h6, h7, fun j x hx => let ⟨v, hv, hr⟩ := h8 j x hx; ⟨v, hv, hr.dom⟩⟩
        rw [hk, hf] at hc; cases hc
      | map es =>
        obtain ⟨h3, ents, clock, h4, h5, h6⟩ := hB
        exact ⟨fun hd => h3 (own b hb hd fun ⟨cs', hc⟩ => by rw [hk] at hc; cases hc), ents, clock, h4, h5, fun j x hx => let ⟨v, hv, hr, hr2⟩ := h6 j x hx; ⟨v, hv, hr.dom, hr2.dom⟩⟩
      | loop l =>
        obtain ⟨h3, r, h4, h5⟩ := hB
        exact ⟨fun hd => h3 (own b hb hd fun ⟨cs', hc⟩ => by rw [hk] at hc; cases hc), r, h4, ⟨h5.st, h5.pend, h5.size, fun t => (h5.tmps t).dom, h5.ps, h5.asg, h5.body⟩⟩
      | own => exact hB.elim
    · rw [h2] at hk; cases hk
      obtain ⟨b, hb, hB⟩ := H.bk id _ h1
      obtain ⟨h3, h4, real, ty, mk, h5, h6, h7, h8⟩ := hB
      exact ⟨b, hb, fun _ => .inr ⟨id, ⟨cs, h2⟩, hb⟩, fun hf => by (cases hf), real, ty, mk, h5, h6, h7, fun j x hx => let ⟨v, hv, hr⟩ := h8 j x hx; ⟨v, hv, hr.dom⟩⟩

theorem chunk_len (sz : Nat) : ∀ (k : Nat) (l : List AV), (chunk sz k l).length = k
  | 0, _ => rfl
  | k + 1, l => by simp [chunk, chunk_len sz k]
theorem chunk_get (sz : Nat) : ∀ (k : Nat) (l : List AV) (i : Nat) (e : List AV), (chunk sz k l)[i]? = some e → e = (l.drop (i * sz)).take sz
  | 0, _, i, e, h => by simp [chunk] at h
  | k + 1, l, i, e, h => by
    unfold chunk at h
    cases i with
    | zero => simp at h; simp [h]
    | succ i =>
      have := chunk_get sz k (l.drop sz) i e (by simpa using h)
      rw [this, List.drop_drop]
      congr 2
      rw [Nat.succ_mul]; omega

/-- What 'frz' tells is so, under no names at all. -/
theorem frz_ok (H : HRel C D w V ρ h) {M : Nat → Prop} : ∀ {n : Nat} {v u : AV} {val : Value}, FzIn M h n v → frz h n v = some u → R D w V ρ v val → R (Dom D ρ M) w Ids.none Ren.none u val
  | 0, _, _, _, _, e, _ => by cases e
  | n + 1, v, u, val, hin, e, hR => by
    have row : ∀ {l r : List AV} {vs : List Value}, (∀ x ∈ l, FzIn M h n x) → mapO (frz h n) l = some r → RL D w V ρ l vs → RL (Dom D ρ M) w Ids.none Ren.none r vs := fun {l r vs} hl hr hvs => by
      obtain ⟨h1, h2⟩ := mapO_spec hr
      refine ⟨h1.symm.trans hvs.1, fun j x y hx hy => ?_⟩
      have hlt : j < l.length := by rw [h1]; exact (List.getElem?_eq_some_iff.1 hx).1
      have hlj := List.getElem?_eq_getElem hlt
      exact frz_ok H (hl _ (List.getElem_mem hlt)) (h2 j _ x hlj hx) (hvs.2 j _ y hlj hy)
    cases hR with
    | bool b => cases e; exact .bool b
    | int k m => cases e; exact .int k m
    | str s hs => cases e; exact .str s hs
    | nilp => cases e; exact .nilp
    | ptr _ _ => cases e
    | ip c hD hc h1 => cases e; exact .ip c (.inl hD) hc fun j x hx => (h1 j x hx).sub fun _ h => .inl h
    | imn hc ha => cases e; exact .imn hc ha
    | im c hn hcl hD hl hc h1 => cases e; exact .im c hn hcl (.inl hD) hl hc fun i j e' x he hx => (h1 i j e' x he hx).sub fun _ h => .inl h
    | yld _ _ => cases e
    | nilf => cases e; exact .nilf
    | mp _ _ => cases e
    | nili => cases e; exact .nili
    | ifv => cases e; exact .ifv
    | agg hl hx =>
      rename_i cs vs
      simp only [frz, Option.map_eq_some_iff] at e
      obtain ⟨r, hr, rfl⟩ := e
      simp only [FzIn] at hin
      have := row (vs := vs.toList) hin hr ⟨by simpa using hl, fun j x y hx' hy => hx j x y hx' (by simpa using hy)⟩
      exact .agg (by simpa using this.1) fun j x y hx' hy => this.2 j x y hx' (by simpa using hy)
    | tup hl hx =>
      rename_i cs vs
      simp only [frz, Option.map_eq_some_iff] at e
      obtain ⟨r, hr, rfl⟩ := e
      simp only [FzIn] at hin
      have := row (vs := vs.toList) hin hr ⟨by simpa using hl, fun j x y hx' hy => hx j x y hx' (by simpa using hy)⟩
      exact .tup (by simpa using this.1) fun j x y hx' hy => this.2 j x y hx' (by simpa using hy)
    | fn lf lc hf hc =>
      rename_i f a c vf vc
      simp only [frz] at e
      split at e
      · rename_i a' c' ha hc'
        cases e
        simp only [FzIn] at hin
        have r1 := row (vs := vf.toList) hin.1 ha ⟨by simpa using lf, fun j x y hx' hy => hf j x y hx' (by simpa using hy)⟩
        have r2 := row (vs := vc.toList) hin.2 hc' ⟨by simpa using lc, fun j x y hx' hy => hc j x y hx' (by simpa using hy)⟩
        exact .fn (by simpa using r1.1) (by simpa using r2.1) (fun j x y hx' hy => r1.2 j x y hx' (by simpa using hy)) fun j x y hx' hy => r2.2 j x y hx' (by simpa using hy)
      · cases e
    | sl hid hn hc ha =>
      rename_i id off k sz c ad cap
      simp only [frz] at e
      split at e
      · rename_i cs fz hg
        split at e
        · rename_i l hl
          split at e
          · rename_i r hr
            cases e
            simp only [FzIn] at hin
            obtain ⟨b, hb, hB⟩ := H.bk id _ hg
            have hcap : (c == some k) = true → cap = k := fun hq => hc k (by simpa using hq)
            by_cases hk : k = 0
            · subst hk
              simp only [chunk]
              exact .imn (fun hq => hcap hq) (fun hq => by cases hq)
            · rcases ha b hb with h0 | ⟨rfl, _⟩
              · omega
              · obtain ⟨hle, rfl, hll⟩ := rdAt_spec hl
                obtain ⟨vs, h1, h2⟩ := choose_row (A := fun j u => w.cell? ⟨b, off + j, none⟩ = some u) ((cs.drop off).take (k * sz)) (D := D) (w := w) (V := V) (ρ := ρ) (fun j y hy => by
                  rw [List.getElem?_take] at hy
                  split at hy
                  · rw [List.getElem?_drop] at hy; exact hB.cell hy
                  · cases hy)
                have h3 := row (fun x hx => hin.2 cs fz _ hg hl x hx) hr h1
                have hvl : vs.length = k * sz := by rw [← h1.1, hll]
                have hrl : r.length = k * sz := by rw [h3.1, hvl]
                have he : ∀ (i : Nat) (e : List AV), (chunk sz k r)[i]? = some e → i < k ∧ e = (r.drop (i * sz)).take sz ∧ e.length = sz := fun i e he => by
                  have hi : i < k := by
                    have := (List.getElem?_eq_some_iff.1 he).1
                    rwa [chunk_len] at this
                  have h4 := chunk_get sz k r i e he
                  have h5 : (i + 1) * sz ≤ k * sz := Nat.mul_le_mul_right _ hi
                  rw [Nat.succ_mul] at h5
                  exact ⟨hi, h4, by rw [h4]; simp; omega⟩
                have key : R (Dom D ρ M) w Ids.none Ren.none (.im (chunk sz k r) (c == some k)) (.slice (some ⟨b, off, none⟩) (chunk sz k r).length cap) := by
                  refine .im (b := b) (o := off) (sz := sz) (fun i j => vs.getD (i * sz + j) undef) (by rw [chunk_len]; exact hn) (fun hq => by rw [chunk_len]; exact hcap hq) (.inr ⟨id, hin.1, hb⟩) (fun e hme => ?_) (fun i j hi hj => ?_) fun i j e x hei hxj => ?_
                  · obtain ⟨i, hi⟩ := List.mem_iff_getElem?.1 hme
                    exact (he i e hi).2.2
                  · rw [chunk_len] at hi
                    have h5 : (i + 1) * sz ≤ k * sz := Nat.mul_le_mul_right _ hi
                    rw [Nat.succ_mul] at h5
                    have hlt : i * sz + j < vs.length := by omega
                    rw [h2 _ _ (List.getElem?_eq_getElem hlt)]
                    simp [List.getD_eq_getElem?_getD, hlt]
                  · obtain ⟨hi, rfl, hel⟩ := he i e hei
                    rw [List.getElem?_take] at hxj
                    split at hxj
                    · rename_i hj
                      rw [List.getElem?_drop] at hxj
                      have hlt : i * sz + j < vs.length := by
                        have := (List.getElem?_eq_some_iff.1 hxj).1
                        omega
                      refine h3.2 _ x _ hxj ?_
                      simp [List.getD_eq_getElem?_getD, hlt]
                    · cases hxj
                rw [chunk_len] at key
                exact key
          · cases e
        · cases e
      · cases e
end
end Go.Proofs.Hz
