/-
  Regions whose order is drawn: whichever operation may come up first, the rest comes to the same (abstract).
  Conditions: none (definitions and lemmas).
-/
import Derived.Test.YtpidaficnfaedaaHzN
namespace Go.Proofs.Hz

mutual
theorem AV.beq_eq : ∀ {a b : AV}, AV.beq a b = true → a = b
  | .bool a, b, h => by cases b <;> simp_all [AV.beq]
  | .int k a, b, h => by cases b <;> simp_all [AV.beq]
  | .str a, b, h => by cases b <;> simp_all [AV.beq]
  | .nilp, b, h => by cases b <;> simp_all [AV.beq]
  | .ptr i o, b, h => by cases b <;> simp_all [AV.beq]
  | .ip cs o, b, h => by
    cases b <;> simp only [AV.beq, Bool.and_eq_true, beq_iff_eq, Bool.false_eq_true] at h
    rename_i cs' o'
    rw [beqL_eq h.1, h.2]
  | .sl a b c d e, x, h => by cases x <;> simp_all [AV.beq]
  | .im els c, b, h => by
    cases b <;> simp only [AV.beq, Bool.and_eq_true, beq_iff_eq, Bool.false_eq_true] at h
    rw [beqLL_eq h.1, h.2]
  | .fn f a c, b, h => by
    cases b <;> simp only [AV.beq, Bool.and_eq_true, beq_iff_eq, Bool.false_eq_true] at h
    rw [h.1.1, beqL_eq h.1.2, beqL_eq h.2]
  | .yld i, b, h => by cases b <;> simp_all [AV.beq]
  | .nilf, b, h => by cases b <;> simp_all [AV.beq]
  | .mp i, b, h => by cases b <;> simp_all [AV.beq]
  | .nili, b, h => by cases b <;> simp_all [AV.beq]
  | .ifv, b, h => by cases b <;> simp [AV.beq] at h
  | .agg cs, b, h => by
    cases b <;> simp only [AV.beq, Bool.false_eq_true] at h
    rw [beqL_eq h]
  | .tup cs, b, h => by
    cases b <;> simp only [AV.beq, Bool.false_eq_true] at h
    rw [beqL_eq h]
  | .var f i, b, h => by cases b <;> simp_all [AV.beq]
theorem beqL_eq : ∀ {a b : List AV}, beqL a b = true → a = b
  | [], [], _ => rfl
  | [], _ :: _, h => by simp [beqL] at h
  | _ :: _, [], h => by simp [beqL] at h
  | x :: xs, y :: ys, h => by
    simp only [beqL, Bool.and_eq_true] at h
    rw [AV.beq_eq h.1, beqL_eq h.2]
theorem beqLL_eq : ∀ {a b : List (List AV)}, beqLL a b = true → a = b
  | [], [], _ => rfl
  | [], _ :: _, h => by simp [beqLL] at h
  | _ :: _, [], h => by simp [beqLL] at h
  | x :: xs, y :: ys, h => by
    simp only [beqLL, Bool.and_eq_true] at h
    rw [beqL_eq h.1, beqLL_eq h.2]
end

theorem mapO_congr {α β : Type} {f g : α → Option β} : ∀ {l : List α}, (∀ x ∈ l, f x = g x) → mapO f l = mapO g l
  | [], _ => rfl
  | a :: as, h => by
    unfold mapO
    rw [h a (by simp), mapO_congr (l := as) fun x hx => h x (by simp [hx])]
theorem frz_any {h h' : T Blk} : ∀ {n : Nat} {v : AV}, AV.hasSl n v = false → frz h n v = frz h' n v
  | 0, _, _ => rfl
  | n + 1, v, hs => by
    cases v <;> simp only [AV.hasSl, List.any_eq_false, Bool.or_eq_false_iff, Bool.true_eq_false] at hs <;> simp only [frz]
    case fn f a b =>
      rw [mapO_congr (l := a) fun x hx => frz_any (h := h) (h' := h') (by simpa using hs.1 x hx), mapO_congr (l := b) fun x hx => frz_any (h := h) (h' := h') (by simpa using hs.2 x hx)]
    case agg cs => rw [mapO_congr (l := cs) fun x hx => frz_any (h := h) (h' := h') (by simpa using hs x hx)]
    case tup cs => rw [mapO_congr (l := cs) fun x hx => frz_any (h := h) (h' := h') (by simpa using hs x hx)]

namespace T
variable {α : Type}
theorem ext_node : ∀ (f : Nat) (t : T α) (n m : Nat) (x y : Option α), n ≠ m → n < f → m < f → putF f (putF f t n x) m y = putF f (putF f t m y) n x := by
  intro f
  induction f with
  | zero => intro t n m x y _ h; omega
  | succ f ih =>
    intro t n m x y hne hn hm
    by_cases n0 : n = 0
    · subst n0
      have m0 : ¬ m = 0 := fun e => hne e.symm
      simp only [putF, if_true, m0, if_false]
      split <;> simp [left, right, top]
    · by_cases m0 : m = 0
      · subst m0
        simp only [putF, if_true, n0, if_false]
        split <;> simp [left, right, top]
      · simp only [putF, n0, m0, if_false]
        by_cases n1 : n % 2 = 1 <;> by_cases m1 : m % 2 = 1
        · simp only [n1, m1, if_true, left, right, top]
          rw [ih _ _ _ _ _ (by omega) (by omega) (by omega)]
        · simp only [n1, m1, if_true, if_false, left, right, top]
        · simp only [n1, m1, if_true, if_false, left, right, top]
        · simp only [n1, m1, if_false, left, right, top]
          rw [ih _ _ _ _ _ (by omega) (by omega) (by omega)]
theorem putF_fuel : ∀ (f g : Nat) (t : T α) (n : Nat) (x : Option α), n < f → n < g → putF f t n x = putF g t n x := by
  intro f
  induction f with
  | zero => intro g t n x h; omega
  | succ f ih =>
    intro g t n x hf hg
    cases g with
    | zero => omega
    | succ g =>
      simp only [putF]
      split
      · rfl
      · split
        · rw [ih g _ _ _ (by omega) (by omega)]
        · rw [ih g _ _ _ (by omega) (by omega)]
theorem put_comm (t : T α) {n m : Nat} (x y : Option α) (h : n ≠ m) : (t.put n x).put m y = (t.put m y).put n x := by
  unfold put
  have e1 : ∀ (s : T α) (k : Nat) (z : Option α), k < n + m + 1 → putF (k + 1) s k z = putF (n + m + 1) s k z := fun s k z hk => putF_fuel _ _ s k z (Nat.lt_succ_self k) hk
  rw [e1 _ n x (by omega), e1 _ m y (by omega), e1 _ m y (by omega), e1 _ n x (by omega)]
  exact ext_node _ _ _ _ _ _ h (by omega) (by omega)
end T

/-! ### A step of a drawn region, by its kind -/
section
variable {F : Nat → Option AFn} {K : Nat → List AV → Option AV} {ex : AC → St → Option (AE × St)} {nx0 : Nat} {s s' : St} {hist hist' : List (T Blk)} {o : ADr} {v : AV}

theorem wantA_same {r : T AV} {g : Option (Nat × Bool)} (h : ∀ t b, g = some (t, b) → (r.get t).getD (.tup []) = s.rg t) : wantA { s with r := r } g = wantA s g := by
  cases g with
  | none => rfl
  | some p =>
    obtain ⟨t, b⟩ := p
    unfold wantA
    simp only [rg_with, h t b rfl]
theorem wantA_heap (g : Option (Nat × Bool)) (h : T Blk) (n : Nat) : wantA { s with h := h, nx := n } g = wantA s g := by cases g <;> rfl

/-- The registers that a step does not look at do not matter to it. -/
theorem drw_same {r : T AV} (h : ∀ t ∈ o.o.looks, (r.get t).getD (.tup []) = s.rg t) :
    drwStep F K ex nx0 hist o { s with r := r } = (drwStep F K ex nx0 hist o s).map fun p => (p.1, { p.2.1 with r := r }, p.2.2) := by
  have h1 : ∀ t ∈ o.o.op.looks, (r.get t).getD (.tup []) = s.rg t := fun t ht => h t (List.mem_append_left _ ht)
  have hw : wantA { s with r := r } o.o.guard = wantA s o.o.guard := wantA_same fun t b e => h t (List.mem_append_right _ (by rw [e]; simp))
  unfold drwStep
  rw [hw]
  split
  · split
    · split
      · rw [opA_same h1]
        cases opA s o.o.op with
        | none => rfl
        | some p => rfl
      · split
        · rename_i f as hop
          rw [hop] at h1
          simp only [AOp.looks, List.mem_append] at h1
          rw [ev_same (x := f) fun t ht => h1 t (.inl ht), evs_same (l := as) fun t ht => h1 t (.inr ht)]
          (repeat' split) <;> simp_all
        · rfl
    · split
      · have := opA_same (s := { s with nx := nx0 + o.i }) (r := r) (o := o.o.op) h1
        simp only at this
        rw [this]
        cases opA { s with nx := nx0 + o.i } o.o.op with
        | none => rfl
        | some p => rfl
      · rfl
    · rw [stepA_same h1]
      cases stepA F K ex o.o.op s with
      | none => rfl
      | some p => rfl
    · split
      · rw [stepA_same h1]
        cases stepA F K ex o.o.op s with
        | none => rfl
        | some p => rfl
      · rfl
    · split
      · rw [opA_same h1]
        cases opA s o.o.op with
        | none => rfl
        | some p =>
          have hb : tryA { s with r := r } o.o.op p.1 = tryA s o.o.op p.1 := by
            funext h
            unfold tryA
            rw [show ({ r := r, h := h, nx := s.nx } : St) = { ({ s with h := h } : St) with r := r } from rfl, opA_same (s := { s with h := h }) (r := r) (o := o.o.op) h1]
            cases opA { s with h := h } o.o.op <;> rfl
          simp only [Option.map_some, withR]
          rw [hb]
          split <;> rfl
      · rfl
  · rfl

theorem opA_r {a : AOp} {s s' : St} {v : AV} (h : opA s a = some (v, s')) : s'.r = s.r := by
  have := opA_same (s := s) (r := s.r) (o := a) (fun _ _ => rfl)
  have e : ({ s with r := s.r } : St) = s := rfl
  rw [e, h] at this
  simp only [Option.map_some, withR, Option.some.injEq, Prod.mk.injEq, true_and] at this
  rw [this]
theorem drw_r (h : drwStep F K ex nx0 hist o s = some (v, s', hist')) : s'.r = s.r := by
  have := drw_same (F := F) (K := K) (ex := ex) (nx0 := nx0) (hist := hist) (o := o) (s := s) (r := s.r) (fun _ _ => rfl)
  have e : ({ s with r := s.r } : St) = s := rfl
  rw [e, h] at this
  simp only [Option.map_some, Option.some.injEq, Prod.mk.injEq, true_and, and_true] at this
  rw [this]

theorem step0 (hk : o.k = 0) (h : drwStep F K ex nx0 hist o s = some (v, s', hist')) :
    s' = s ∧ hist' = hist ∧ ∀ (g : T Blk) (n : Nat) (hist2 : List (T Blk)), drwStep F K ex nx0 hist2 o { s with h := g, nx := n } = some (v, { s with h := g, nx := n }, hist2) := by
  unfold drwStep at h
  split at h
  · rename_i hw
    simp only [hk] at h
    split at h
    · rename_i hq
      cases ho : opA s o.o.op with
      | none => simp [ho] at h
      | some p =>
        obtain ⟨u, s1⟩ := p
        simp only [ho, Option.some.injEq, Prod.mk.injEq] at h
        obtain ⟨rfl, rfl, rfl⟩ := h
        refine ⟨rfl, rfl, fun g n hist2 => ?_⟩
        unfold drwStep
        rw [wantA_heap, if_pos hw]
        simp only [hk]
        rw [if_pos hq, quiet_ok hq, ho]
        rfl
    · rename_i hq
      split at h
      · rename_i f as hop
        split at h
        · rename_i g first caps hf
          split at h
          · rename_i fn hF
            split at h
            · rename_i hp
              split at h
              · rename_i xs hx
                split at h
                · rename_i r hr
                  simp only [Option.some.injEq, Prod.mk.injEq] at h
                  obtain ⟨rfl, rfl, rfl⟩ := h
                  refine ⟨rfl, rfl, fun g' n hist2 => ?_⟩
                  have ev : ∀ x : AO, x.ev { s with h := g', nx := n } = x.ev s := fun x => by cases x <;> rfl
                  have evs : as.map (AO.ev { s with h := g', nx := n }) = as.map (AO.ev s) := List.map_congr_left fun x _ => ev x
                  unfold drwStep
                  rw [wantA_heap, if_pos hw]
                  simp only [hk]
                  rw [if_neg hq, hop]
                  simp only [ev, evs, hf, hF, hp, if_true]
                  have hz : mapO (frz g' DEEP) (first ++ List.map (AO.ev s) as ++ caps) = some xs := by
                    rw [← hx]
                    refine mapO_congr fun x hxm => frz_any ?_
                    simp only [Bool.and_eq_true, Bool.not_eq_true'] at hp
                    have := hp.2
                    rw [List.any_eq_false] at this
                    simpa using this x hxm
                  rw [hz]
                  simp only [hr]
                · cases h
              · cases h
            · cases h
          · cases h
        · cases h
      · cases h
  · rename_i hw
    simp only [hk, Option.some.injEq, Prod.mk.injEq] at h
    obtain ⟨rfl, rfl, h⟩ := h
    refine ⟨rfl, by simpa using h.symm, fun g n hist2 => ?_⟩
    unfold drwStep
    rw [wantA_heap, if_neg hw]
    simp [hk]

theorem step1 (hk : o.k = 1) (h : drwStep F K ex nx0 hist o s = some (v, s', hist')) :
    hist' = hist ∧ ((s' = s ∧ ∀ (g : T Blk) (n : Nat) (hist2 : List (T Blk)), drwStep F K ex nx0 hist2 o { s with h := g, nx := n } = some (v, { s with h := g, nx := n }, hist2)) ∨
      ∃ b, s.h.get (nx0 + o.i) = none ∧ s' = { s with h := s.h.put (nx0 + o.i) (some b) } ∧
        ∀ (g : T Blk) (n : Nat) (hist2 : List (T Blk)), g.get (nx0 + o.i) = none → drwStep F K ex nx0 hist2 o { s with h := g, nx := n } = some (v, { s with h := g.put (nx0 + o.i) (some b), nx := n }, hist2)) := by
  unfold drwStep at h
  split at h
  · rename_i hw
    simp only [hk] at h
    split at h
    · rename_i hn
      simp only [Bool.and_eq_true, Option.isNone_iff_eq_none] at hn
      cases ho : opA { s with nx := nx0 + o.i } o.o.op with
      | none => simp [ho] at h
      | some p =>
        obtain ⟨u, s1⟩ := p
        simp only [ho, Option.some.injEq, Prod.mk.injEq] at h
        obtain ⟨rfl, rfl, rfl⟩ := h
        obtain ⟨b, rfl, hb⟩ := new_blk hn.1 ho
        refine ⟨rfl, .inr ⟨b, hn.2, rfl, fun g n hist2 hg => ?_⟩⟩
        unfold drwStep
        have hw' : wantA { s with h := g, nx := n } o.o.guard = true := (wantA_heap o.o.guard g n).trans hw
        rw [if_pos hw']
        simp only [hk]
        rw [if_pos (by simp [hn.1, hg])]
        have := hb g
        simp only at this
        rw [this]
        rfl
    · cases h
  · rename_i hw
    simp only [hk, Option.some.injEq, Prod.mk.injEq] at h
    obtain ⟨rfl, rfl, h⟩ := h
    refine ⟨by simpa using h.symm, .inl ⟨rfl, fun g n hist2 => ?_⟩⟩
    unfold drwStep
    have hw' : ¬ wantA { s with h := g, nx := n } o.o.guard = true := fun e => hw ((wantA_heap o.o.guard g n).symm.trans e)
    rw [if_neg hw']
    simp [hk]

theorem step2 (hk : o.k = 2 ∨ o.k = 3) (h : drwStep F K ex nx0 hist o s = some (v, s', hist')) : hist' = s'.h :: hist ∧
    ((v = .tup [] ∧ s' = s ∧ ∀ (g : T Blk) (n : Nat) (hist2 : List (T Blk)), drwStep F K ex nx0 hist2 o { s with h := g, nx := n } = some (v, { s with h := g, nx := n }, g :: hist2)) ∨
      (stepA F K ex o.o.op s = some (v, s') ∧ (o.k = 3 → calmOp F o.o.op = true) ∧ ∀ (g : T Blk) (n : Nat) (hist2 : List (T Blk)) (u : AV) (s2 : St), stepA F K ex o.o.op { s with h := g, nx := n } = some (u, s2) → drwStep F K ex nx0 hist2 o { s with h := g, nx := n } = some (u, s2, s2.h :: hist2))) := by
  unfold drwStep at h
  split at h
  · rename_i hw
    have key : ∀ q, stepA F K ex o.o.op s = some q → (o.k = 3 → calmOp F o.o.op = true) → (v, s', hist') = (q.1, q.2, q.2.h :: hist) → hist' = s'.h :: hist ∧
        ((v = .tup [] ∧ s' = s ∧ ∀ (g : T Blk) (n : Nat) (hist2 : List (T Blk)), drwStep F K ex nx0 hist2 o { s with h := g, nx := n } = some (v, { s with h := g, nx := n }, g :: hist2)) ∨
          (stepA F K ex o.o.op s = some (v, s') ∧ (o.k = 3 → calmOp F o.o.op = true) ∧ ∀ (g : T Blk) (n : Nat) (hist2 : List (T Blk)) (u : AV) (s2 : St), stepA F K ex o.o.op { s with h := g, nx := n } = some (u, s2) → drwStep F K ex nx0 hist2 o { s with h := g, nx := n } = some (u, s2, s2.h :: hist2))) := by
      intro q hq hc he
      obtain ⟨u, s1⟩ := q
      simp only [Prod.mk.injEq] at he
      obtain ⟨rfl, rfl, rfl⟩ := he
      refine ⟨rfl, .inr ⟨hq, hc, fun g n hist2 u s2 hu => ?_⟩⟩
      unfold drwStep
      rw [wantA_heap, if_pos hw]
      rcases hk with hk | hk
      · simp only [hk, hu]
      · simp only [hk, hc hk, hu, if_true]
    rcases hk with hk | hk
    · simp only [hk] at h
      cases ho : stepA F K ex o.o.op s with
      | none => simp [ho] at h
      | some p => simp only [ho, Option.some.injEq] at h; rw [← ho]; exact key p ho (fun e => by omega) h.symm
    · simp only [hk] at h
      split at h
      · rename_i hc
        cases ho : stepA F K ex o.o.op s with
        | none => simp [ho] at h
        | some p => simp only [ho, Option.some.injEq] at h; rw [← ho]; exact key p ho (fun _ => hc) h.symm
      · cases h
  · rename_i hw
    simp only [Option.some.injEq, Prod.mk.injEq] at h
    obtain ⟨rfl, rfl, rfl⟩ := h
    refine ⟨rfl, .inl ⟨rfl, rfl, fun g n hist2 => ?_⟩⟩
    unfold drwStep
    rw [wantA_heap, if_neg hw, if_pos hk]

def ADr.up (j : ADr) (m : Nat) : ADr := { j with back := j.back - m, fl := j.fl || decide (0 < m) }

theorem read_nx {a : AOp} (hr : readOp a = true) {g : T Blk} (n : Nat) {u : St} (e : opA { s with h := g } a = some (v, u)) : opA { s with h := g, nx := n } a = some (v, { s with h := g, nx := n }) := by
  have ev : ∀ (m : Nat) (x : AO), x.ev { s with h := g, nx := m } = x.ev s := fun m x => by cases x <;> rfl
  have eb : ∀ (m : Nat) a b l k j, bounds3 { s with h := g, nx := m } a b l k j = bounds3 s a b l k j := fun m a b l k j => by
    unfold bounds3
    have : ∀ d x, natOpt { s with h := g, nx := m } d x = natOpt s d x := fun d x => by cases x <;> simp [natOpt, ev]
    simp only [this]
  cases a <;> simp only [readOp, Bool.false_eq_true] at hr
  all_goals
    simp only [opA, ev, eb] at e ⊢
    (repeat' split at e) <;> simp_all
  all_goals (obtain ⟨_, h1, h2, _⟩ := e; first | exact ⟨_, h1, h2⟩ | (subst h2; exact h1))

theorem step3 (hk : 4 ≤ o.k) (h : drwStep F K ex nx0 hist o s = some (v, s', hist')) :
    s' = s ∧ hist' = hist ∧ ((∀ (o' : ADr) (g : T Blk) (n : Nat) (hist2 : List (T Blk)), o'.o = o.o → o'.k = o.k → drwStep F K ex nx0 hist2 o' { s with h := g, nx := n } = some (v, { s with h := g, nx := n }, hist2)) ∨
      (o.back < hist.length ∧ (∀ g ∈ o.seen hist, ∃ u, opA { s with h := g } o.o.op = some (v, u)) ∧ opA s o.o.op = some (v, s) ∧ readOp o.o.op = true ∧
        ∀ (o' : ADr) (g : T Blk) (n : Nat) (hist2 : List (T Blk)), o'.o = o.o → o'.k = o.k → (∃ u, opA { s with h := g } o.o.op = some (v, u)) → o'.back < hist2.length → (∀ g' ∈ o'.seen hist2, ∃ u, opA { s with h := g' } o.o.op = some (v, u)) →
          (o'.seen hist2 ≠ [] → AV.beq v v = true) → drwStep F K ex nx0 hist2 o' { s with h := g, nx := n } = some (v, { s with h := g, nx := n }, hist2)) ∧ (o.seen hist ≠ [] → AV.beq v v = true)) := by
  obtain ⟨k, hk'⟩ : ∃ k, o.k = k + 4 := ⟨o.k - 4, by omega⟩
  unfold drwStep at h
  split at h
  · rename_i hw
    simp only [hk'] at h
    split at h
    · rename_i hr
      cases ho : opA s o.o.op with
      | none => simp [ho] at h
      | some p =>
        obtain ⟨u, s1⟩ := p
        have := read_ok hr ho
        subst this
        simp only [ho] at h
        split at h
        · rename_i hc
          simp only [Option.some.injEq, Prod.mk.injEq] at h
          obtain ⟨rfl, rfl, rfl⟩ := h
          simp only [Bool.and_eq_true, decide_eq_true_eq] at hc
          have hall : ∀ g ∈ o.seen hist, ∃ u', opA { s1 with h := g } o.o.op = some (u, u') ∧ AV.beq u u = true := fun g hg => by
            have := List.all_eq_true.1 hc.2 g hg
            unfold tryA at this
            split at this
            · rename_i u' s'' hu
              have e := AV.beq_eq this
              subst e
              exact ⟨_, hu, this⟩
            · cases this
          refine ⟨rfl, rfl, .inr ⟨⟨hc.1, fun g hg => (hall g hg).elim fun u' h1 => ⟨u', h1.1⟩, rfl, hr, fun o' g n hist2 e1 e2 hg hb hs hbb => ?_⟩, fun hne => ?_⟩⟩
          · unfold drwStep
            have hw' : wantA { s1 with h := g, nx := n } o.o.guard = true := (wantA_heap o.o.guard g n).trans hw
            rw [e1, if_pos hw', e2, hk']
            simp only
            obtain ⟨u', hu⟩ := hg
            have hu2 := read_nx hr n hu
            rw [if_pos hr, hu2]
            simp only
            rw [if_pos]
            simp only [Bool.and_eq_true, decide_eq_true_eq]
            refine ⟨hb, List.all_eq_true.2 fun g' hg' => ?_⟩
            obtain ⟨u'', hu''⟩ := hs g' hg'
            have : opA { r := s1.r, h := g', nx := n } o.o.op = some (u, { s1 with h := g', nx := n }) := read_nx hr n hu''
            unfold tryA
            simp only [this, hbb (List.ne_nil_of_mem hg')]
          · obtain ⟨g, hg⟩ := List.exists_mem_of_ne_nil _ hne
            obtain ⟨_, _, hb⟩ := hall g hg
            exact hb
        · cases h
    · cases h
  · rename_i hw
    simp only [hk', Option.some.injEq, Prod.mk.injEq] at h
    obtain ⟨rfl, rfl, h⟩ := h
    refine ⟨rfl, by simpa using h.symm, .inl fun o' g n hist2 e1 e2 => ?_⟩
    unfold drwStep
    have hw' : ¬ wantA { s with h := g, nx := n } o.o.guard = true := fun e => hw ((wantA_heap o.o.guard g n).symm.trans e)
    rw [e1, if_neg hw', e2, hk']
    simp
end
end Go.Proofs.Hz
