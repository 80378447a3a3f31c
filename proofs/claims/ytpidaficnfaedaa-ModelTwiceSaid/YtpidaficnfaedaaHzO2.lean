/-
  A writer that minds no block but those that it leads to: with one block more it does the same (abstract).
  Conditions: none (lemmas).
-/
import Derived.Test.YtpidaficnfaedaaHzO
namespace Go.Proofs.Hz

theorem sub_put {α : Type} {h : T α} {i : Nat} (hi : h.get i = none) (b : α) : h.Sub (h.put i (some b)) := fun j y hy => by
  rw [T.get_put]
  by_cases e : i = j
  · subst e; rw [hi] at hy; cases hy
  · rw [if_neg e]; exact hy

section
variable {h h' : T Blk} {i : Nat} {b : Blk}

theorem wrH_frame {id off : Nat} {xs : List AV} (hi : h.get i = none) (e : wrH h id off xs = some h') : h'.get i = none ∧ wrH (h.put i (some b)) id off xs = some (h'.put i (some b)) := by
  unfold wrH at e ⊢
  split at e
  · rename_i cs hg
    have hne : i ≠ id := fun x => by subst x; rw [hi] at hg; cases hg
    split at e
    · rename_i hc
      cases e
      refine ⟨by rw [T.get_put, if_neg (fun x => hne x.symm)]; exact hi, ?_⟩
      have : (h.put i (some b)).get id = some (.cells cs false) := by rw [T.get_put, if_neg hne]; exact hg
      rw [this]
      simp only
      rw [if_pos hc, T.put_comm _ _ _ hne]
    · cases e
  · cases e

theorem mapO_mono {α β : Type} {f g : α → Option β} : ∀ {l : List α} {r : List β}, (∀ x ∈ l, ∀ y, f x = some y → g x = some y) → mapO f l = some r → mapO g l = some r
  | [], r, _, e => e
  | a :: as, r, hfg, e => by
    unfold mapO at e ⊢
    split at e
    · cases e
    · rename_i y hy
      rw [hfg a (by simp) y hy]
      simp only
      split at e
      · cases e
      · rename_i ys hys
        rw [mapO_mono (fun x hx => hfg x (by simp [hx])) hys]
        exact e
theorem frz_sub (hs : h.Sub h') : ∀ {n : Nat} {v u : AV}, frz h n v = some u → frz h' n v = some u
  | 0, _, _, e => by cases e
  | n + 1, v, u, e => by
    have ih := fun (l r : List AV) => mapO_mono (l := l) (r := r) fun x _ y (hy : frz h n x = some y) => frz_sub hs hy
    cases v <;> simp only [frz] at e ⊢
    case sl id off k sz c =>
      split at e
      · rename_i cs fz hg
        rw [hs _ _ hg]
        try simp only
        split at e
        · rename_i l hl
          try simp only [hl]
          split at e
          · rename_i r hr
            try simp only [ih _ _ hr]
            exact e
          · cases e
        · cases e
      · cases e
    case agg cs =>
      simp only [Option.map_eq_some_iff] at e ⊢
      obtain ⟨r, hr, e⟩ := e
      exact ⟨r, ih _ _ hr, e⟩
    case tup cs =>
      simp only [Option.map_eq_some_iff] at e ⊢
      obtain ⟨r, hr, e⟩ := e
      exact ⟨r, ih _ _ hr, e⟩
    case fn f a c =>
      split at e
      · rename_i a' c' ha hc
        try simp only [ih _ _ ha, ih _ _ hc]
        exact e
      · cases e
    all_goals exact e

theorem fzL_frame {f : T Blk → AV → Option (T Blk)} (hf : ∀ h h' v, h.get i = none → f h v = some h' → h'.get i = none ∧ f (h.put i (some b)) v = some (h'.put i (some b))) :
    ∀ {l : List AV} {h h' : T Blk}, h.get i = none → fzL f h l = some h' → h'.get i = none ∧ fzL f (h.put i (some b)) l = some (h'.put i (some b))
  | [], h, h', hi, e => by cases e; exact ⟨hi, rfl⟩
  | x :: xs, h, h', hi, e => by
    unfold fzL at e ⊢
    split at e
    · rename_i h1 hx
      obtain ⟨h2, h3⟩ := hf _ _ _ hi hx
      rw [h3]
      exact fzL_frame hf h2 e
    · cases e
theorem fzs_frame : ∀ (n : Nat) (h h' : T Blk) (v : AV), h.get i = none → fzs n h v = some h' → h'.get i = none ∧ fzs n (h.put i (some b)) v = some (h'.put i (some b))
  | 0, _, _, _, _, e => by cases e
  | n + 1, h, h', v, hi, e => by
    have ih : ∀ {l : List AV} {h h' : T Blk}, h.get i = none → fzL (fzs n) h l = some h' → h'.get i = none ∧ fzL (fzs n) (h.put i (some b)) l = some (h'.put i (some b)) := fun hi e => fzL_frame (fun h h' v => fzs_frame n h h' v) hi e
    cases v <;> simp only [fzs] at e ⊢
    case sl id off k sz c =>
      split at e
      · rename_i cs fz hg
        have hne : i ≠ id := fun x => by subst x; rw [hi] at hg; cases hg
        have : (h.put i (some b)).get id = some (.cells cs fz) := by rw [T.get_put, if_neg hne]; exact hg
        rw [this]
        simp only
        rw [T.put_comm _ _ _ hne]
        exact ih (by rw [T.get_put, if_neg (fun x => hne x.symm)]; exact hi) e
      · cases e
    case agg cs => exact ih hi e
    case tup cs => exact ih hi e
    case fn f a c =>
      split at e
      · rename_i h1 ha
        obtain ⟨h2, h3⟩ := ih hi ha
        rw [h3]
        exact ih h2 e
      · cases e
    all_goals (cases e; exact ⟨hi, rfl⟩)
end

section
variable {F : Nat → Option AFn} {K : Nat → List AV → Option AV} {ex : AC → St → Option (AE × St)} {s s' : St} {i : Nat} {b : Blk} {v : AV} {o : AOp}

theorem evH (h : T Blk) (x : AO) : x.ev { s with h := h } = x.ev s := by cases x <;> rfl

theorem calm_frame (hc : calmOp F o = true) (hi : s.h.get i = none) (hn : i < s.nx) (e : stepA F K ex o s = some (v, s')) :
    s'.h.get i = none ∧ i < s'.nx ∧ stepA F K ex o { s with h := s.h.put i (some b) } = some (v, { s' with h := s'.h.put i (some b) }) := by
  have hs := sub_put hi b
  unfold calmOp at hc
  split at hc
  · rename_i g as
    split at hc
    · rename_i fn hF
      have evs : as.map (AO.ev { s with h := s.h.put i (some b) }) = as.map (AO.ev s) := List.map_congr_left fun x _ => evH _ x
      simp only [stepA, AO.ev, callV, callF, hF, hc, if_true, List.nil_append, List.append_nil, evs] at e ⊢
      split at e
      · cases e
      · rename_i xs hx
        rw [mapO_mono (fun x _ y hy => frz_sub hs hy) hx]
        try simp only
        split at e
        · cases e
        · rename_i r hr
          try simp only [hr]
          split at e
          · rename_i hfl
            rw [if_pos hfl]
            cases e
            exact ⟨hi, hn, by first | trivial | rfl⟩
          · rename_i hfl
            rw [if_neg hfl]
            split at e
            · rename_i h1 h2
              cases e
              obtain ⟨h3, h4⟩ := fzL_frame (i := i) (b := b) (fun h h' v => fzs_frame DEEP h h' v) hi h2
              rw [h4]
              exact ⟨h3, hn, by first | trivial | rfl⟩
            · cases e
    · cases hc
  · rename_i n a x
    simp only [stepA, opA, evH] at e ⊢
    split at e
    · rename_i hl
      rw [if_pos hl]
      unfold wrA at e ⊢
      split at e
      · rename_i id off
        simp only [Option.map_eq_some_iff] at e
        obtain ⟨h1, h2, h3⟩ := e
        cases h3
        obtain ⟨h4, h5⟩ := wrH_frame (b := b) hi h2
        simp only [h5, Option.map_some]
        exact ⟨h4, hn, by first | trivial | rfl⟩
      · simp at e
    · cases e
  · rename_i sz by_ d x
    simp only [stepA, opA, evH] at e ⊢
    split at e
    · rename_i n xs hx
      rw [elemsOf_sub hs hx]
      try simp only
      split at e
      · rename_i hc1
        rw [if_pos hc1]
        split at e
        · rename_i els cl hd
          try simp only
          split at e
          · rename_i h0; rw [if_pos h0]; cases e; exact ⟨hi, hn, by first | trivial | rfl⟩
          · rename_i h0
            rw [if_neg h0]
            split at e
            · rename_i h1
              rw [if_pos h1]
              cases e
              refine ⟨by simp only [St.new]; rw [T.get_put, if_neg (by omega)]; exact hi, by simp only [St.new]; omega, ?_⟩
              simp only [St.new]
              rw [T.put_comm _ _ _ (by omega : i ≠ s.nx)]
            · cases e
        · rename_i id off k z c hd
          try simp only
          split at e
          · cases e
          · rename_i hz
            rw [if_neg hz]
            split at e
            · rename_i h0; rw [if_pos h0]; cases e; exact ⟨hi, hn, by first | trivial | rfl⟩
            · rename_i h0
              rw [if_neg h0]
              split at e
              · rename_i h1
                rw [if_pos h1]
                split at e
                · rename_i cs fz hg
                  have hne : i ≠ id := fun x => by subst x; rw [hi] at hg; cases hg
                  rw [hs _ _ hg]
                  try simp only
                  split at e
                  · rename_i m
                    try simp only
                    split at e
                    · rename_i hm
                      rw [if_pos hm]
                      simp only [Option.map_eq_some_iff] at e
                      obtain ⟨h4, h5, h6⟩ := e
                      cases h6
                      obtain ⟨h7, h8⟩ := wrH_frame (b := b) hi h5
                      simp only [h8, Option.map_some]
                      exact ⟨h7, hn, by first | trivial | rfl⟩
                    · rename_i hm
                      rw [if_neg hm]
                      split at e
                      · rename_i old ho
                        try simp only [ho]
                        cases e
                        refine ⟨by simp only [St.new]; rw [T.get_put, if_neg (by omega)]; exact hi, by simp only [St.new]; omega, ?_⟩
                        simp only [St.new]
                        rw [T.put_comm _ _ _ (by omega : i ≠ s.nx)]
                      · cases e
                  · try simp only
                    split at e
                    · rename_i hq
                      rw [if_pos hq]
                      cases e
                      refine ⟨by rw [T.get_put, if_neg (by omega), T.get_put, if_neg (fun x => hne x.symm)]; exact hi, Nat.lt_succ_of_lt hn, ?_⟩
                      rw [T.put_comm _ _ _ hne, T.put_comm _ _ _ (by omega : i ≠ s.nx)]
                    · cases e
                · cases e
              · cases e
        · cases e
      · cases e
    · cases e
  · rename_i sz d x
    simp only [stepA, opA, evH] at e ⊢
    split at e
    · rename_i n xs id off k z c hx hd
      rw [elemsOf_sub hs hx, hd]
      try simp only
      split at e
      · rename_i hz
        rw [if_pos hz]
        simp only [Option.map_eq_some_iff] at e
        obtain ⟨h4, h5, h6⟩ := e
        cases h6
        obtain ⟨h7, h8⟩ := wrH_frame (b := b) hi h5
        simp only [h8, Option.map_some]
        exact ⟨h7, hn, by first | trivial | rfl⟩
      · cases e
    · cases e
  · cases hc
end
end Go.Proofs.Hz
