/-
  More fuel changes no answer (abstract).
  Conditions: none (lemmas).
-/
import Derived.Test.YtpidaficnfaedaaHzB
namespace Go.Proofs.Hz

def ExLe (a b : AC → St → Option (AE × St)) : Prop := ∀ c s r, a c s = some r → b c s = some r
def KLe (a b : Nat → List AV → Option AV) : Prop := ∀ f as r, a f as = some r → b f as = some r

section
variable {F : Nat → Option AFn} {K K' : Nat → List AV → Option AV} {ex ex' : AC → St → Option (AE × St)}

theorem callF_mono (hk : KLe K K') (he : ExLe ex ex') {f : Nat} {as : List AV} {s : St} {r : AV × St} (h : callF F K ex f as s = some r) : callF F K' ex' f as s = some r := by
  unfold callF at h ⊢
  split at h
  · cases h
  · rename_i fn hF
    split at h
    · rename_i hp
      rw [if_pos hp]
      split at h
      · cases h
      · rename_i xs hx
        try simp only [hx]
        cases hr : K f xs with
        | none => simp [hr] at h
        | some v => rw [hk _ _ _ hr]; simp only [hr] at h; exact h
    · rename_i hp
      rw [if_neg hp]
      split at h
      · rename_i s1 h1; rw [he _ _ _ h1]; exact h
      · rename_i s1 h1; rw [he _ _ _ h1]; exact h
      · cases h
theorem roundA_mono (he : ExLe ex ex') {id : Nat} {as : List AV} {s : St} {r : AV × St} (h : roundA ex id as s = some r) : roundA ex' id as s = some r := by
  unfold roundA at h ⊢
  split at h
  · rename_i l hl
    try simp only [hl]
    split at h
    · rename_i hp
      rw [if_pos hp]
      split at h
      · rename_i s1 h1
        rw [he _ _ _ h1]
        simp only
        split at h
        · rename_i l1 hl1
          try simp only [hl1]
          split at h
          · rename_i h0
            rw [if_pos h0]
            split at h
            · rename_i e s2 h2
              rw [he _ _ _ h2]
              exact h
            · cases h
          · cases h
        · cases h
      · cases h
    · cases h
  · cases h
theorem callV_mono (hk : KLe K K') (he : ExLe ex ex') {f : AV} {as : List AV} {s : St} {r : AV × St} (h : callV F K ex f as s = some r) : callV F K' ex' f as s = some r := by
  unfold callV at h ⊢
  split at h
  · exact callF_mono hk he h
  · exact roundA_mono he h
  · cases h
theorem stepA_mono (hk : KLe K K') (he : ExLe ex ex') {o : AOp} {s : St} {r : AV × St} (h : stepA F K ex o s = some r) : stepA F K' ex' o s = some r := by
  unfold stepA at h ⊢
  split at h
  · exact callV_mono hk he h
  · exact h
theorem regA_mono (hk : KLe K K') (he : ExLe ex ex') : ∀ {l : List AOper} {s s' : St}, regA F K ex l s = some s' → regA F K' ex' l s = some s'
  | [], _, _, h => h
  | o :: os, s, s', h => by
    unfold regA at h ⊢
    split at h
    · rename_i hw
      rw [if_pos hw]
      split at h
      · rename_i v s1 h1; rw [stepA_mono hk he h1]; exact regA_mono hk he h
      · cases h
    · rename_i hw
      rw [if_neg hw]
      exact regA_mono hk he h
theorem drwStep_mono (hk : KLe K K') (he : ExLe ex ex') {nx0 : Nat} {hist : List (T Blk)} {o : ADr} {s : St} {r : AV × St × List (T Blk)} (h : drwStep F K ex nx0 hist o s = some r) : drwStep F K' ex' nx0 hist o s = some r := by
  unfold drwStep at h ⊢
  split at h
  · rename_i hw
    rw [if_pos hw]
    split at h
    · split at h
      · rename_i hq; rw [if_pos hq]; exact h
      · rename_i hq
        rw [if_neg hq]
        split at h
        · split at h
          · split at h
            · split at h
              · rename_i hp
                try simp only [hp, if_true]
                split at h
                · rename_i xs hx
                  try simp only [hx]
                  split at h
                  · rename_i v hv; rw [hk _ _ _ hv]; exact h
                  · cases h
                · cases h
              · cases h
            · cases h
          · cases h
        · cases h
    · exact h
    · split at h
      · rename_i v s1 h1; rw [stepA_mono hk he h1]; exact h
      · cases h
    · split at h
      · rename_i hc
        rw [if_pos hc]
        split at h
        · rename_i v s1 h1; rw [stepA_mono hk he h1]; exact h
        · cases h
      · cases h
    · exact h
  · rename_i hw
    rw [if_neg hw]
    exact h
theorem drwA_mono (hk : KLe K K') (he : ExLe ex ex') {nx0 : Nat} : ∀ {l : List ADr} {s s' : St} {hist : List (T Blk)}, drwA F K ex nx0 l s hist = some s' → drwA F K' ex' nx0 l s hist = some s'
  | [], _, _, _, h => h
  | o :: os, s, s', hist, h => by
    unfold drwA at h ⊢
    split at h
    · rename_i v s1 hist1 h1; rw [drwStep_mono hk he h1]; exact drwA_mono hk he h
    · cases h

theorem exA_mono (hk : KLe K K') : ∀ {n m : Nat}, n ≤ m → ExLe (exA F K n) (exA F K' m) := by
  intro n
  induction n with
  | zero => intro m _ c s r h; cases h
  | succ n ih =>
    intro m hm c s r h
    obtain ⟨m, rfl⟩ : ∃ k, m = k + 1 := ⟨m - 1, by omega⟩
    have he : ExLe (exA F K n) (exA F K' m) := ih (by omega)
    cases c with
    | skip => exact h
    | label l => exact h
    | exit id => exact h
    | goto l => exact h
    | ret => exact h
    | reg ops =>
      simp only [exA] at h ⊢
      split at h
      · rename_i s1 h1; rw [regA_mono hk he h1]; exact h
      · cases h
    | drw k ops =>
      simp only [exA] at h ⊢
      split at h
      · rename_i s1 h1; rw [drwA_mono hk he h1]; exact h
      · cases h
    | seq a b =>
      simp only [exA] at h ⊢
      split at h
      · rename_i s1 h1; rw [he _ _ _ h1]; exact he _ _ _ h
      · rename_i hne
        have := he _ _ _ h
        rw [this]
        split
        · rename_i s1 h1; cases h1; exact absurd h (hne s1)
        · rfl
    | cond x a b =>
      simp only [exA] at h ⊢
      split at h
      · rename_i t ht
        try simp only [ht]
        cases t with
        | true => exact he _ _ _ (by simpa using h)
        | false => exact he _ _ _ (by simpa using h)
      · cases h
    | block id b =>
      simp only [exA] at h ⊢
      split at h
      · rename_i j s1 h1; rw [he _ _ _ h1]; exact h
      · rename_i hne
        have := he _ _ _ h
        rw [this]
        split
        · rename_i j s1 h1; cases h1; exact absurd h (hne j s1)
        · rfl
    | loop b =>
      simp only [exA] at h ⊢
      split at h
      · rename_i s1 h1; rw [he _ _ _ h1]; exact he _ _ _ h
      · rename_i hne
        have := he _ _ _ h
        rw [this]
        split
        · rename_i s1 h1; cases h1; exact absurd h (hne s1)
        · rfl
    | scope cur b =>
      simp only [exA] at h ⊢
      split at h
      · rename_i l s1 h1
        rw [he _ _ _ h1]
        simp only
        split at h
        · rename_i rest hr; try simp only [hr]
          exact he _ _ _ h
        · rename_i hr; try simp only [hr]
          exact h
      · rename_i hne
        have := he _ _ _ h
        rw [this]
        split
        · rename_i l s1 h1; cases h1; exact absurd h (hne l s1)
        · rfl
    | rngf nt f ps asg body =>
      simp only [exA] at h ⊢
      split at h
      · rename_i v s1 h1; rw [callV_mono hk he h1]; exact h
      · cases h

theorem callN_mono {X : Nat → Option (List AV → Option AV)} : ∀ {n m : Nat}, n ≤ m → KLe (callN F X n) (callN F X m) := by
  intro n
  induction n with
  | zero => intro m _ f as r h; cases h
  | succ n ih =>
    intro m hm f as r h
    obtain ⟨m, rfl⟩ : ∃ k, m = k + 1 := ⟨m - 1, by omega⟩
    have hk := ih (m := m) (by omega)
    simp only [callN] at h ⊢
    split at h
    · rename_i k hX; try simp only [hX]
      exact h
    · rename_i hX
      try simp only [hX]
      split at h
      · rename_i fn hF
        try simp only [hF]
        unfold pureA at h ⊢
        split at h
        · rename_i s1 h1; rw [exA_mono hk hm _ _ _ h1]; exact h
        · rename_i s1 h1; rw [exA_mono hk hm _ _ _ h1]; exact h
        · cases h
      · cases h
end
end Go.Proofs.Hz
