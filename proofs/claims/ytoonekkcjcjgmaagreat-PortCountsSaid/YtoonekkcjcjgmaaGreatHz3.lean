/-
  Runs in pieces: what a piece of code comes to; loops over functions; a symbolic run of a piece.
  Conditions: none (definitions and lemmas).
-/
import Derived.Test.YtoonekkcjcjgmaaGreatHz2
namespace Go.Proofs.Hz

/-- What was told so far: plain values, other values, rows of the run's own; each by its number. -/
structure As where
  nt : Nat
  T : List (Nat × List AV)
  nf : Nat
  F : List (Nat × List AV)
  no : Nat
  O : List (Nat × (Nat × List (List AV)))
def chL (d : AV) : List (Nat × List AV) → Nat → AV
  | [], _ => d
  | (n, l) :: r, i => bif Nat.ble n i then l.getD (i - n) d else chL d r i
def lookOw : List (Nat × (Nat × List (List AV))) → Nat → Nat × List (List AV)
  | [], _ => (0, [])
  | (n, p) :: r, i => bif Nat.beq n i then p else lookOw r i
theorem chL_cons (d : AV) (n : Nat) (l : List AV) (r : List (Nat × List AV)) (i : Nat) : chL d ((n, l) :: r) i = bif Nat.ble n i then l.getD (i - n) d else chL d r i := rfl
theorem lookOw_cons (n : Nat) (p : Nat × List (List AV)) (r : List (Nat × (Nat × List (List AV)))) (i : Nat) : lookOw ((n, p) :: r) i = bif Nat.beq n i then p else lookOw r i := rfl
def ownV (p : Nat × List (List AV)) (i : Nat) : AV := bif Nat.beq (i % 1000) p.1 then .im p.2 false else .im [] false
def pickF (i : Nat) (x y : AV) : AV := bif Nat.blt i BIG then x else y
def As.val (A : As) (ft ff : Nat → AV) (fo : Nat → Nat × List (List AV)) (σ : Nat → Nat) (lo : Nat) : Val where
  v := fun fl i => bif fl then (bif Nat.ble A.nt i then ft i else chL (.bool false) A.T i)
    else pickF i (bif Nat.ble A.nf i then ff i else chL .nilp A.F i) (ownV (bif Nat.ble A.no ((i - BIG) / 1000) then fo ((i - BIG) / 1000) else lookOw A.O ((i - BIG) / 1000)) i)
  σ := σ
  lo := lo
def OkCh (P : AV → Prop) (cs : List (Nat × List AV)) : Prop := ∀ p ∈ cs, AllP P p.2
def OkOs (os : List (Nat × (Nat × List (List AV)))) : Prop := ∀ p ∈ os, OkO p.2
theorem chL_ok {P : AV → Prop} {d : AV} (hd : P d) : ∀ {cs : List (Nat × List AV)} {i : Nat}, OkCh P cs → P (chL d cs i)
  | [], _, _ => hd
  | (n, l) :: r, i, h => by
    unfold chL
    cases Nat.ble n i with
    | true => exact getD_all hd (h _ List.mem_cons_self) _
    | false => exact chL_ok hd fun p hp => h p (List.mem_cons_of_mem _ hp)
theorem okO_nil (n : Nat) : OkO (n, []) := ⟨fun e he => (by cases he), rfl, rfl⟩
theorem lookOw_ok : ∀ {os : List (Nat × (Nat × List (List AV)))} {i : Nat}, OkOs os → OkO (lookOw os i)
  | [], _, _ => okO_nil 0
  | (n, p) :: r, i, h => by
    unfold lookOw
    cases Nat.beq n i with
    | true => exact h _ List.mem_cons_self
    | false => exact lookOw_ok fun p hp => h p (List.mem_cons_of_mem _ hp)
structure Tails (ft ff : Nat → AV) (fo : Nat → Nat × List (List AV)) : Prop where
  t : ∀ i, OkT (ft i)
  f : ∀ i, OkF (ff i)
  o : ∀ i, OkO (fo i)
structure OkAs (A : As) : Prop where
  t : OkCh OkT A.T
  f : OkCh OkF A.F
  o : OkOs A.O
theorem okF_nilp : OkF .nilp := ⟨rfl, rfl, rfl⟩
theorem ownV_ok {p : Nat × List (List AV)} (h : OkO p) (i : Nat) : OkF (ownV p i) ∧ ∃ els, ownV p i = .im els false ∧ (∀ e ∈ els, e.length = i % 1000) ∧ els.flatten.all plainV = true := by
  unfold ownV
  cases e : Nat.beq (i % 1000) p.1 with
  | true =>
    have e := Nat.eq_of_beq_eq_true e
    exact ⟨⟨rfl, rfl, by simp only [cond_true, AV.beq, Bool.and_eq_true, beq_self_eq_true, and_true]; exact h.2.2⟩, p.2, rfl, by rw [e]; exact h.1, h.2.1⟩
  | false => exact ⟨⟨rfl, rfl, rfl⟩, [], rfl, fun e he => (by cases he), rfl⟩
theorem As.good {A : As} {ft ff : Nat → AV} {fo : Nat → Nat × List (List AV)} {σ : Nat → Nat} {lo : Nat} (hσ : ∀ i j, σ i = σ j → i = j) (hA : OkAs A) (h : Tails ft ff fo) : Good2 (A.val ft ff fo σ lo) := by
  have ho : ∀ j, OkO (bif Nat.ble A.no j then fo j else lookOw A.O j) := fun j => by
    cases Nat.ble A.no j with
    | true => exact h.o _
    | false => exact lookOw_ok hA.o
  have hv : ∀ fl i, plainV ((A.val ft ff fo σ lo).v fl i) = true ∧ ((A.val ft ff fo σ lo).v fl i).flat = fl ∧ AV.beq ((A.val ft ff fo σ lo).v fl i) ((A.val ft ff fo σ lo).v fl i) = true := fun fl i => by
    cases fl with
    | true =>
      show OkT (bif Nat.ble A.nt i then ft i else chL (.bool false) A.T i)
      cases Nat.ble A.nt i with
      | true => exact h.t _
      | false => exact chL_ok (OkT.bool false) hA.t
    | false =>
      show OkF (pickF i (bif Nat.ble A.nf i then ff i else chL .nilp A.F i) (ownV _ i))
      unfold pickF
      cases Nat.blt i BIG with
      | true =>
        cases Nat.ble A.nf i with
        | true => exact h.f _
        | false => exact chL_ok okF_nilp hA.f
      | false => exact (ownV_ok (ho _) i).1
  refine ⟨⟨fun fl i => ⟨(hv fl i).1, (hv fl i).2.1⟩, hσ, fun k hk => ?_⟩, fun fl i => (hv fl i).2.2⟩
  have hb : Nat.blt k BIG = false := by
    cases e : Nat.blt k BIG with
    | false => rfl
    | true => have := Nat.le_of_ble_eq_true e; omega
  show ∃ els, pickF k _ (ownV _ k) = _ ∧ _
  unfold pickF
  rw [hb]
  exact (ownV_ok (ho _) k).2

/-- Facts that hold whatever is told later; and the run that is stood for. -/
structure Tok [Gl] (F : Nat → Option AFn) (σ : Nat → Nat) (lo : Nat) (s z : St) (A : As) (Φ : Facts) : Prop where
  inj : ∀ i j, σ i = σ j → i = j
  ok : OkAs A
  hold : ∀ {ft ff fo}, Tails ft ff fo → HoldF (A.val ft ff fo σ lo) Φ.ops ∧ HoldA (A.val ft ff fo σ lo) Φ.apps ∧ HoldN (A.val ft ff fo σ lo) Φ.apns ∧ HoldS F (A.val ft ff fo σ lo) Φ.calls
  sim : ∀ {ft ff fo}, Tails ft ff fo → Sim (A.val ft ff fo σ lo) s z
def As.t (A : As) (n : Nat) (l : List AV) : As := ⟨n, (A.nt, l) :: A.T, A.nf, A.F, A.no, A.O⟩
def As.f (A : As) (n : Nat) (l : List AV) : As := ⟨A.nt, A.T, n, (A.nf, l) :: A.F, A.no, A.O⟩
def As.o (A : As) (n : Nat) (p : Nat × List (List AV)) : As := ⟨A.nt, A.T, A.nf, A.F, n + 1, (n, p) :: A.O⟩
section
variable {G : Gl} {F : Nat → Option AFn} {σ : Nat → Nat} {lo : Nat} {s0 z : St} {A : As} {Φ : Facts}
theorem ble_f {n i : Nat} (h : ¬ n ≤ i) : Nat.ble n i = false := by
  cases e : Nat.ble n i with
  | false => rfl
  | true => exact absurd (Nat.le_of_ble_eq_true e) h
theorem ble_t {n i : Nat} (h : n ≤ i) : Nat.ble n i = true := Nat.ble_eq_true_of_le h
theorem tail_chL {d : AV} {a n : Nat} {l : List AV} {f : Nat → AV} {cs : List (Nat × List AV)} (h : Nat.ble a n = true) (i : Nat) : (bif Nat.ble n i then f i else chL d ((a, l) :: cs) i) = bif Nat.ble a i then (bif Nat.ble n i then f i else l.getD (i - a) d) else chL d cs i := by
  have h := Nat.le_of_ble_eq_true h
  by_cases h1 : a ≤ i
  · rw [ble_t h1]
    by_cases h2 : n ≤ i
    · rw [ble_t h2]; rfl
    · rw [ble_f h2]
      rw [chL_cons, ble_t h1]; rfl
  · rw [ble_f h1, ble_f (show ¬ n ≤ i by omega)]
    rw [chL_cons, ble_f h1]; rfl
theorem As.val_t {n : Nat} {l : List AV} (h : Nat.ble A.nt n = true) (ft ff : Nat → AV) (fo : Nat → Nat × List (List AV)) : (A.t n l).val ft ff fo σ lo = A.val (fun i => bif Nat.ble n i then ft i else l.getD (i - A.nt) (.bool false)) ff fo σ lo := by
  unfold As.val
  congr 1
  funext fl i
  cases fl with
  | true => rw [cond_true, cond_true]; exact tail_chL h i
  | false => rw [cond_false, cond_false]; rfl
theorem As.val_f {n : Nat} {l : List AV} (h : Nat.ble A.nf n = true) (ft ff : Nat → AV) (fo : Nat → Nat × List (List AV)) : (A.f n l).val ft ff fo σ lo = A.val ft (fun i => bif Nat.ble n i then ff i else l.getD (i - A.nf) .nilp) fo σ lo := by
  unfold As.val As.f
  dsimp only
  congr 1
  funext fl i
  cases fl with
  | true => rw [cond_true, cond_true]
  | false =>
    rw [cond_false, cond_false]
    exact congrArg (fun x => pickF i x _) (tail_chL h i)
theorem As.val_o {n : Nat} {p : Nat × List (List AV)} (h : Nat.beq A.no n = true) (ft ff : Nat → AV) (fo : Nat → Nat × List (List AV)) : (A.o n p).val ft ff fo σ lo = A.val ft ff (fun j => bif Nat.beq n j then p else fo j) σ lo := by
  have h := Nat.eq_of_beq_eq_true h
  have key : ∀ j, (bif Nat.ble (n + 1) j then fo j else lookOw ((n, p) :: A.O) j) = (bif Nat.ble A.no j then (bif Nat.beq n j then p else fo j) else lookOw A.O j) := fun j => by
    rw [h]
    by_cases h1 : n ≤ j
    · rw [ble_t h1]
      by_cases h2 : n + 1 ≤ j
      · rw [ble_t h2]
        have : Nat.beq n j = false := by
          cases e : Nat.beq n j with
          | false => rfl
          | true => have := Nat.eq_of_beq_eq_true e; omega
        rw [this]; rfl
      · have e : n = j := by omega
        subst e
        rw [ble_f h2, Nat.beq_refl]
        rw [lookOw_cons, Nat.beq_refl]; rfl
    · rw [ble_f h1, ble_f (show ¬ n + 1 ≤ j by omega)]
      rw [lookOw_cons]
      have : Nat.beq n j = false := by
        cases e : Nat.beq n j with
        | false => rfl
        | true => have := Nat.eq_of_beq_eq_true e; omega
      rw [this]; rfl
  unfold As.val As.o
  dsimp only
  congr 1
  funext fl i
  cases fl with
  | true => rw [cond_true, cond_true]
  | false =>
    rw [cond_false, cond_false]
    exact congrArg (fun x => pickF i _ (ownV x i)) (key _)
/-- More is told: plain values. -/
theorem Tok.t (H : Tok F σ lo s0 z A Φ) (n : Nat) (l : List AV) (hl : l.all isT = true := by kernel_rfl) (h : Nat.ble A.nt n = true := by kernel_rfl) : Tok F σ lo s0 z (A.t n l) Φ := by
  have hl := okL hl
  have tl : ∀ {ft ff fo}, Tails ft ff fo → Tails (fun i => bif Nat.ble n i then ft i else l.getD (i - A.nt) (.bool false)) ff fo := fun k => ⟨fun i => by
    cases Nat.ble n i with
    | true => exact k.t i
    | false => exact getD_all (P := OkT) (OkT.bool false) hl _, k.f, k.o⟩
  refine ⟨H.inj, ⟨fun p hp => ?_, H.ok.f, H.ok.o⟩, fun k => ?_, fun k => ?_⟩
  · rcases List.mem_cons.1 hp with rfl | hp
    · exact hl
    · exact H.ok.t p hp
  · rw [As.val_t h]; exact H.hold (tl k)
  · rw [As.val_t h]; exact H.sim (tl k)
/-- Other values. -/
theorem Tok.f (H : Tok F σ lo s0 z A Φ) (n : Nat) (l : List AV) (hl : AllP OkF l) (h : Nat.ble A.nf n = true := by kernel_rfl) : Tok F σ lo s0 z (A.f n l) Φ := by
  have tl : ∀ {ft ff fo}, Tails ft ff fo → Tails ft (fun i => bif Nat.ble n i then ff i else l.getD (i - A.nf) .nilp) fo := fun k => ⟨k.t, fun i => by
    cases Nat.ble n i with
    | true => exact k.f i
    | false => exact getD_all (P := OkF) okF_nilp hl _, k.o⟩
  refine ⟨H.inj, ⟨H.ok.t, fun p hp => ?_, H.ok.o⟩, fun k => ?_, fun k => ?_⟩
  · rcases List.mem_cons.1 hp with rfl | hp
    · exact hl
    · exact H.ok.f p hp
  · rw [As.val_f h]; exact H.hold (tl k)
  · rw [As.val_f h]; exact H.sim (tl k)
/-- A row of the run's own. -/
theorem Tok.o (H : Tok F σ lo s0 z A Φ) (n : Nat) (p : Nat × List (List AV)) (hp : OkO p) (h : Nat.beq A.no n = true := by kernel_rfl) : Tok F σ lo s0 z (A.o n p) Φ := by
  have tl : ∀ {ft ff fo}, Tails ft ff fo → Tails ft ff (fun j => bif Nat.beq n j then p else fo j) := fun k => ⟨k.t, k.f, fun j => by
    cases Nat.beq n j with
    | true => exact hp
    | false => exact k.o j⟩
  refine ⟨H.inj, ⟨H.ok.t, H.ok.f, fun q hq => ?_⟩, fun k => ?_, fun k => ?_⟩
  · rcases List.mem_cons.1 hq with rfl | hq
    · exact hp
    · exact H.ok.o q hq
  · rw [As.val_o h]; exact H.hold (tl k)
  · rw [As.val_o h]; exact H.sim (tl k)
def Facts.op (Φ : Facts) (l : List (AOp × AV)) : Facts := ⟨l ++ Φ.ops, Φ.apps, Φ.apns, Φ.calls⟩
/-- Facts that hold as they are. -/
theorem Tok.r (H : Tok F σ lo s0 z A Φ) (l : List (AOp × AV)) (h : ∀ ft ff fo (s : St), l.map (fun p => opA s (p.1.gmO (A.val ft ff fo σ lo))) = l.map (fun p => some (gm (A.val ft ff fo σ lo) p.2, s)) := by intros; kernel_rfl) : Tok F σ lo s0 z A (Φ.op l) :=
  ⟨H.inj, H.ok, fun k => ⟨fun p hp => by
    rcases List.mem_append.1 hp with hp | hp
    · exact holdF_of (rflF (h _ _ _)) p hp
    · exact (H.hold k).1 p hp, (H.hold k).2⟩, H.sim⟩
theorem Tok.c (H : Tok F σ lo s0 z A Φ) {p : AOp × AV} (h : ∀ ft ff fo, FOp (A.val ft ff fo σ lo) p) : Tok F σ lo s0 z A (Φ.op [p]) :=
  ⟨H.inj, H.ok, fun k => ⟨fun q hq => by
    rcases List.mem_append.1 hq with hq | hq
    · rw [List.mem_singleton.1 hq]; exact h _ _ _
    · exact (H.hold k).1 q hq, (H.hold k).2⟩, H.sim⟩
theorem Tok.m (H : Tok F σ lo s0 z A Φ) (i : Nat) (c : Bool) {b : Bool} (h : b = c) (hi : ∀ ft ff fo, gm (A.val ft ff fo σ lo) (vt i) = .bool b := by intros; kernel_rfl) : Tok F σ lo s0 z A (Φ.op [(.mov (cT i), .bool c)]) :=
  H.c fun _ _ _ => fT (hi _ _ _) h
def Facts.call (Φ : Facts) (p : Nat × List AV × AV) : Facts := ⟨Φ.ops, Φ.apps, Φ.apns, p :: Φ.calls⟩
theorem Tok.s (H : Tok F σ lo s0 z A Φ) (as : List AV) (r : AV) {f : Nat} {bs : List AV} {q : AV} (h : Spec F f bs q) (h1 : ∀ ft ff fo, as.map (gm (A.val ft ff fo σ lo)) = bs := by intros; kernel_rfl) (h2 : ∀ ft ff fo, gm (A.val ft ff fo σ lo) r = q := by intros; kernel_rfl) : Tok F σ lo s0 z A (Φ.call (f, as, r)) :=
  ⟨H.inj, H.ok, fun k => ⟨(H.hold k).1, (H.hold k).2.1, (H.hold k).2.2.1, fun q hq => by
    rcases List.mem_cons.1 hq with hq | hq
    · rw [hq]; exact sC h (h1 _ _ _) (h2 _ _ _)
    · exact (H.hold k).2.2.2 q hq⟩, H.sim⟩
def Facts.app (Φ : Facts) (p : AFact) : Facts := ⟨Φ.ops, p :: Φ.apps, Φ.apns, Φ.calls⟩
theorem Tok.a (H : Tok F σ lo s0 z A Φ) (p : AFact) (h : ∀ ft ff fo, FApp (A.val ft ff fo σ lo) p) : Tok F σ lo s0 z A (Φ.app p) :=
  ⟨H.inj, H.ok, fun k => ⟨(H.hold k).1, fun q hq => by
    rcases List.mem_cons.1 hq with hq | hq
    · rw [hq]; exact h _ _ _
    · exact (H.hold k).2.1 q hq, (H.hold k).2.2⟩, H.sim⟩
def Facts.apn (Φ : Facts) (p : NFact) : Facts := ⟨Φ.ops, Φ.apps, p :: Φ.apns, Φ.calls⟩
theorem Tok.n (H : Tok F σ lo s0 z A Φ) (p : NFact) (h : ∀ ft ff fo, FApn (A.val ft ff fo σ lo) p) : Tok F σ lo s0 z A (Φ.apn p) :=
  ⟨H.inj, H.ok, fun k => ⟨(H.hold k).1, (H.hold k).2.1, fun q hq => by
    rcases List.mem_cons.1 hq with hq | hq
    · rw [hq]; exact h _ _ _
    · exact (H.hold k).2.2.1 q hq, (H.hold k).2.2.2⟩, H.sim⟩
def As.val0 (A : As) (σ : Nat → Nat) (lo : Nat) : Val := A.val (fun _ => .bool false) (fun _ => .nilp) (fun _ => (0, [])) σ lo
theorem tails0 : Tails (fun _ => .bool false) (fun _ => .nilp) (fun _ => (0, [])) := ⟨fun _ => OkT.bool _, fun _ => okF_nilp, fun _ => okO_nil 0⟩
theorem Tok.all (H : Tok F σ lo s0 z A Φ) : Hold F (A.val0 σ lo) Φ ∧ Sim (A.val0 σ lo) s0 z :=
  ⟨⟨As.good H.inj H.ok tails0, (H.hold tails0).1, (H.hold tails0).2.1, (H.hold tails0).2.2.1, (H.hold tails0).2.2.2⟩, H.sim tails0⟩
def As.nul (nt nf no : Nat) (ts fs : List AV) (os : List (Nat × (Nat × List (List AV)))) : As := ⟨nt, [(0, ts)], nf, [(0, fs)], no, os⟩
/-- The begin: what is told there. -/
theorem Tok.start {ρ : Val} {ts : List Nat} {ws : List AV} {cs : List Blk} {X : List AV} {Y : List Blk} (hσ : ∀ i j, σ i = σ j → i = j) (S : Sim ρ (tmpl ts ws cs) z) (lo nt nf no : Nat) (lt lf : List AV) (os : List (Nat × (Nat × List (List AV)))) (h1 : AllP OkF lf) (h2 : AllP (fun p : Nat × (Nat × List (List AV)) => OkO p.2) os) (h3 : ws.map (gm ρ) = X) (h4 : cs.map (gB ρ) = Y)
    (h0 : lt.all isT = true := by kernel_rfl) (hs : ρ.σ = σ := by kernel_rfl) (hl : ρ.lo = lo := by kernel_rfl)
    (h5 : ∀ ft ff fo, ws.map (gm ((As.nul nt nf no lt lf os).val ft ff fo σ lo)) = X := by intros; kernel_rfl) (h6 : ∀ ft ff fo, cs.map (gB ((As.nul nt nf no lt lf os).val ft ff fo σ lo)) = Y := by intros; kernel_rfl) : Tok F σ lo (tmpl ts ws cs) z (As.nul nt nf no lt lf os) ⟨[], [], [], []⟩ := by
  refine ⟨hσ, ⟨fun p hp => ?_, fun p hp => ?_, h2.mem⟩, fun _ => ⟨fun _ h => (by cases h), fun _ h => (by cases h), fun _ h => (by cases h), fun _ h => (by cases h)⟩, fun _ => S.more hs rfl hl rfl h3 h4 (h5 _ _ _) (h6 _ _ _)⟩
  · rw [List.mem_singleton.1 hp]; exact okL h0
  · rw [List.mem_singleton.1 hp]; exact h1
def finV (ρ : Val) (fn : AFn) (st : Option Stop) : Option AV := match endS fn st with
  | some v => some (gm ρ v)
  | none => none
/-- The end. -/
theorem Tok.e {f : Nat} {k : List Fr} {cfg : Cfg} {R r : AV} (H : Tok F σ lo s0 z A Φ) (stops : List Nat) (h : some R = some r) (q : finV (A.val0 σ lo) (fnOf F f) (stepK Φ F stops 4000 k cfg s0) = some R := by as_aux_lemma => kernel_rfl) : J F (fnOf F f) k cfg z r := by
  cases h
  unfold finV at q
  split at q
  · rename_i v hv
    cases q
    exact J_end H.all.1 H.all.2 hv
  · cases q
/-- A cut. -/
theorem Tok.k {f : Nat} {k k1 : List Fr} {cfg : Cfg} {a : AC} {r : AV} {ws : List AV} {cs : List Blk} {X : List AV} {Y : List Blk} (H : Tok F σ lo s0 z A Φ) (stops ts ids : List Nat) (vs : List AV) (bs : List Blk) (nx : Nat)
    (ρ' : Val) (hv2 : ws.map (gm ρ') = X) (hb2 : cs.map (gB ρ') = Y)
    (hj : ∀ c1, (∀ i j, sig σ ids nx i = sig σ ids nx j → i = j) → Sim ρ' (tmpl ts ws cs) c1 → J F (fnOf F f) k1 (.code a) c1 r)
    (h : keep ts ids (stepK Φ F stops 4000 k cfg s0) = some (k1, a, vs, bs, nx) := by as_aux_lemma => kernel_rfl)
    (hσ : ρ'.σ = sig σ ids nx := by kernel_rfl) (hlo : ρ'.lo = cs.length := by kernel_rfl) (hv1 : vs.map (gm (A.val0 σ lo)) = X := by as_aux_lemma => kernel_rfl) (hb1 : bs.map (gB (A.val0 σ lo)) = Y := by as_aux_lemma => kernel_rfl) : J F (fnOf F f) k cfg z r :=
  J_next H.all.1 H.all.2 h ws cs ρ' hσ hlo hv1 hv2 hb1 hb2 fun c1 hi S => hj c1 (by rw [hσ] at hi; exact hi) S
end
end Go.Proofs.Hz
namespace Go.Proofs.Hz
section
variable {ρ : Val}
/-- A byte of a text. -/
theorem fIxS {x i r : AV} {b : List UInt8} {k : IntKind} {n : Int} {y : UInt8} (hx : gm ρ x = .str b) (hi : gm ρ i = .int k n) (h0 : 0 ≤ n) (hy : b[n.toNat]? = some y) (hr : gm ρ r = .int .u8 y.toNat) : FOp ρ (.ixS (.c x) (.c i), r) := fun s => by
  simp only [AOp.gmO, AOp.mapO, AO.gmO, opA, AO.ev, hx, hi, hr, natOf, if_pos h0, hy, Option.map_some]
/-- A part of a text. -/
theorem fSlT {x r : AV} {l l' : List UInt8} {lo hi : Option (AV × Int)} (hx : gm ρ x = .str l) (hlo : OptOk ρ lo) (hhi : OptOk ρ hi)
    (h : 0 ≤ optN lo 0 ∧ optN lo 0 ≤ optN hi l.length ∧ optN hi l.length ≤ l.length)
    (hl : l' = (l.drop (optN lo 0).toNat).take ((optN hi l.length).toNat - (optN lo 0).toNat)) (hr : gm ρ r = .str l') : FOp ρ (.slT (.c x) (optA lo) (optA hi), r) := fun s => by
  obtain ⟨h1, h2, h3⟩ := h
  have e1 : natOpt s 0 ((optA lo).map (AO.gmO ρ)) = some (optN lo 0).toNat := natOpt_of (d := 0) hlo h1 s
  have e2 := natOpt_of (d := l.length) hhi (by omega) s
  have e3 : natOpt s l.length none = some l.length := rfl
  simp only [AOp.gmO, AOp.mapO, opA, AO.gmO, AO.ev, hx, bounds3, e1, e2, e3]
  rw [if_pos ⟨by omega, by omega, by omega, by simp⟩]
  simp only [hr, hl]
/-- Where a row that isn't empty begins. -/
theorem fUsd {α : Type} {e : α → List AV} {id off j z : Nat} {l : List α} (hj : BIG ≤ j) (hv : ρ.v false j = .im (l.map e) false) (hl : l ≠ []) : FOp ρ (.usd (.c (.sl id off j z none)), .ptr id off) := fun s => by
  have h0 : 0 < l.length := List.length_pos_iff.2 hl
  simp only [AOp.gmO, AOp.mapO, AO.gmO, opA, AO.ev, gm, gn_big hj hv, List.length_map, if_pos h0]
/-- A place in a row that is told. -/
theorem fIaSl {sz id off n j : Nat} {q : Option Nat} {i : AV} {k : IntKind} {m : Int} (hi : gm ρ i = .int k m) (h : m = (j : Nat)) (hj : j < n) (hn : n < BIG) : FOp ρ (.iaS sz (.c (.sl id off n sz q)) (.c i), .ptr id (off + j * sz)) := fun s => by
  subst h
  simp [AOp.gmO, AOp.mapO, AO.gmO, opA, AO.ev, gm, hi, natOf, hj, gn_small hn]
/-- A number above zero. -/
theorem fPos {x : AV} {n : Int} (hx : gm ρ x = .int .i64 n) (h : 0 < n) : FOp ρ (.bin .gtr (.c x) (.c (.int .i64 0)), .bool true) := fun s => by
  simp [AOp.gmO, AOp.mapO, AO.gmO, opA, AO.ev, gm, hx, binA, isSh, intBin, h]
end
end Go.Proofs.Hz
namespace Go.Proofs.Hz

/-- What a piece of code comes to. -/
def Ev [Gl] (F : Nat → Option AFn) (c : AC) (s : St) (e : AE) (s' : St) : Prop := ∃ n, exA F (KN F n) n c s = some (e, s')
/-- What a region comes to. -/
def EvR [Gl] (F : Nat → Option AFn) (ops : List AOper) (s s' : St) : Prop := ∃ n, regA F (KN F n) (exA F (KN F n) n) ops s = some s'
/-- What a round comes to. -/
def Rnd [Gl] (F : Nat → Option AFn) (id : Nat) (args : List AV) (s : St) (v : AV) (s' : St) : Prop := ∃ n, roundA (exA F (KN F n) n) id args s = some (v, s')

section
variable {G : Gl} {F : Nat → Option AFn}
theorem exUp {n m : Nat} (h : n ≤ m) {c : AC} {s s' : St} {e : AE} (hx : exA F (KN F n) n c s = some (e, s')) : exA F (KN F m) m c s = some (e, s') := exA_mono (KN_mono h) h _ _ _ hx
theorem Ev.skip (s : St) : Ev F .skip s .nrm s := ⟨1, rfl⟩
theorem Ev.ret (s : St) : Ev F .ret s .ret s := ⟨1, rfl⟩
theorem Ev.exit (id : Nat) (s : St) : Ev F (.exit id) s (.ext id) s := ⟨1, rfl⟩
theorem exA_seq (K : Nat → List AV → Option AV) (n : Nat) (a b : AC) (s : St) : exA F K (n + 1) (.seq a b) s = match exA F K n a s with
    | some (.nrm, s1) => exA F K n b s1
    | r => r := rfl
theorem Ev.seq {a b : AC} {s s1 s2 : St} {e : AE} (h1 : Ev F a s .nrm s1) (h2 : Ev F b s1 e s2) : Ev F (.seq a b) s e s2 := by
  obtain ⟨n, h1⟩ := h1
  obtain ⟨m, h2⟩ := h2
  refine ⟨max n m + 1, ?_⟩
  have x1 := exA_mono (F := F) (KN_mono (F := F) (show n ≤ max n m + 1 by omega)) (show n ≤ max n m by omega) _ _ _ h1
  have x2 := exA_mono (F := F) (KN_mono (F := F) (show m ≤ max n m + 1 by omega)) (show m ≤ max n m by omega) _ _ _ h2
  rw [exA_seq, x1]
  exact x2
theorem Ev.seqJ {a b : AC} {s s1 : St} {e : AE} (h1 : Ev F a s e s1) (he : e ≠ .nrm) : Ev F (.seq a b) s e s1 := by
  obtain ⟨n, h1⟩ := h1
  refine ⟨n + 1, ?_⟩
  have x1 := exA_mono (F := F) (KN_mono (F := F) (Nat.le_succ n)) (Nat.le_refl n) _ _ _ h1
  rw [exA_seq, x1]
  cases e with
  | nrm => exact absurd rfl he
  | ext i => rfl
  | gto l => rfl
  | ret => rfl
theorem Ev.seqI {a b : AC} {s s2 : St} (h : Ev F (.seq a b) s .nrm s2) : ∃ s1, Ev F a s .nrm s1 ∧ Ev F b s1 .nrm s2 := by
  obtain ⟨n, h⟩ := h
  cases n with
  | zero => cases h
  | succ n =>
    rw [exA_seq] at h
    split at h
    · rename_i s1 hx
      exact ⟨s1, ⟨n + 1, exA_mono (F := F) (fun _ _ _ h => h) (Nat.le_succ n) _ _ _ hx⟩, ⟨n + 1, exA_mono (F := F) (fun _ _ _ h => h) (Nat.le_succ n) _ _ _ h⟩⟩
    · rename_i hne
      exact absurd h (hne s2)
theorem Ev.assoc {a b c : AC} {s s1 s2 : St} {e : AE} (h1 : Ev F (.seq a b) s .nrm s1) (h2 : Ev F c s1 e s2) : Ev F (.seq a (.seq b c)) s e s2 := by
  obtain ⟨s0, x, y⟩ := h1.seqI
  exact x.seq (y.seq h2)
theorem exA_block (K : Nat → List AV → Option AV) (n id : Nat) (b : AC) (s : St) : exA F K (n + 1) (.block id b) s = match exA F K n b s with
    | some (.ext j, s1) => if j = id then some (.nrm, s1) else some (.ext j, s1)
    | r => r := rfl
/-- What a block's end makes of a jump. -/
def AE.out (id : Nat) : AE → AE
  | .ext j => if j = id then .nrm else .ext j
  | e => e
theorem Ev.block {id : Nat} {b : AC} {s s1 : St} {e : AE} (h : Ev F b s e s1) : Ev F (.block id b) s (e.out id) s1 := by
  obtain ⟨n, h⟩ := h
  refine ⟨n + 1, ?_⟩
  rw [exA_block, exA_mono (F := F) (KN_mono (F := F) (Nat.le_succ n)) (Nat.le_refl n) _ _ _ h]
  cases e with
  | nrm => rfl
  | ext j => simp only [AE.out]; split <;> rfl
  | gto l => rfl
  | ret => rfl
theorem exA_loop (K : Nat → List AV → Option AV) (n : Nat) (b : AC) (s : St) : exA F K (n + 1) (.loop b) s = match exA F K n b s with
    | some (.nrm, s1) => exA F K n (.loop b) s1
    | r => r := rfl
theorem Ev.loop {b : AC} {s s1 s2 : St} {e : AE} (h1 : Ev F b s .nrm s1) (h2 : Ev F (.loop b) s1 e s2) : Ev F (.loop b) s e s2 := by
  obtain ⟨n, h1⟩ := h1
  obtain ⟨m, h2⟩ := h2
  refine ⟨max n m + 1, ?_⟩
  have x1 := exA_mono (F := F) (KN_mono (F := F) (show n ≤ max n m + 1 by omega)) (show n ≤ max n m by omega) _ _ _ h1
  have x2 := exA_mono (F := F) (KN_mono (F := F) (show m ≤ max n m + 1 by omega)) (show m ≤ max n m by omega) _ _ _ h2
  rw [exA_loop, x1]
  exact x2
theorem Ev.loopJ {b : AC} {s s1 : St} {e : AE} (h1 : Ev F b s e s1) (he : e ≠ .nrm) : Ev F (.loop b) s e s1 := by
  obtain ⟨n, h1⟩ := h1
  refine ⟨n + 1, ?_⟩
  have x1 := exA_mono (F := F) (KN_mono (F := F) (Nat.le_succ n)) (Nat.le_refl n) _ _ _ h1
  rw [exA_loop, x1]
  cases e with
  | nrm => exact absurd rfl he
  | ext i => rfl
  | gto l => rfl
  | ret => rfl
theorem Ev.cond {x : AO} {a b : AC} {t : Bool} {s s1 : St} {e : AE} (hx : x.ev s = .bool t) (h : Ev F (if t then a else b) s e s1) : Ev F (.cond x a b) s e s1 := by
  obtain ⟨n, h⟩ := h
  refine ⟨n + 1, ?_⟩
  have x1 := exA_mono (F := F) (KN_mono (F := F) (Nat.le_succ n)) (Nat.le_refl n) _ _ _ h
  simp only [exA, hx]
  cases t with
  | true => exact x1
  | false => exact x1
theorem Ev.reg {ops : List AOper} {s s1 : St} (h : EvR F ops s s1) : Ev F (.reg ops) s .nrm s1 := by
  obtain ⟨n, h⟩ := h
  refine ⟨n + 1, ?_⟩
  simp only [exA]
  rw [regA_mono (KN_mono (Nat.le_succ n)) (exA_mono (KN_mono (Nat.le_succ n)) (Nat.le_refl n)) h]
theorem EvR.nil (s : St) : EvR F [] s s := ⟨0, rfl⟩
theorem EvR.op {o : AOp} {d : Option Nat} {ops : List AOper} {s s1 s2 : St} {v : AV} (hc : ∀ n, stepA F (KN F n) (exA F (KN F n) n) o s = some (v, s1)) (h : EvR F ops (s1.set d v) s2) : EvR F (⟨d, o, none⟩ :: ops) s s2 := by
  obtain ⟨n, h⟩ := h
  refine ⟨n, ?_⟩
  simp only [regA, wantA, if_true, hc n]
  exact h
theorem EvR.round {f : AO} {as : List AO} {d : Option Nat} {id : Nat} {ops : List AOper} {s s1 s2 : St} {v : AV} (hf : f.ev s = .yld id) (hr : Rnd F id (as.map (AO.ev s)) s v s1) (h : EvR F ops (s1.set d v) s2) : EvR F (⟨d, .call f as, none⟩ :: ops) s s2 := by
  obtain ⟨n, h⟩ := h
  obtain ⟨m, hr⟩ := hr
  refine ⟨max n m, ?_⟩
  have x1 := roundA_mono (exA_mono (F := F) (KN_mono (F := F) (show m ≤ max n m by omega)) (show m ≤ max n m by omega)) hr
  have x2 := regA_mono (KN_mono (F := F) (show n ≤ max n m by omega)) (exA_mono (F := F) (KN_mono (F := F) (show n ≤ max n m by omega)) (show n ≤ max n m by omega)) h
  simp only [regA, wantA, if_true, stepA, callV, hf, x1]
  exact x2
/-- A round: what it is given, what its body does. -/
theorem Rnd.mk {id : Nat} {args : List AV} {s s1 s2 : St} {l l1 l2 : ALoop} {e : AE} (h0 : s.h.get id = some (.loop l)) (hl : l.ps.length = args.length)
    (ha : Ev F l.asg { r := putAll l.r l.ps args, h := s.h, nx := s.nx } .nrm s1) (h1 : s1.h.get id = some (.loop l1)) (hs : l1.st = 0)
    (hb : Ev F l.body (s1.hp id (.loop { l1 with st := 1 })) e s2) (h2 : s2.h.get id = some (.loop l2)) :
    Rnd F id args s (.bool e.jump.isNone) { r := s.r, h := s2.h.put id (some (.loop { l2 with st := if e.jump.isNone then 0 else 2, pend := e.jump })), nx := s2.nx } := by
  obtain ⟨n, ha⟩ := ha
  obtain ⟨m, hb⟩ := hb
  refine ⟨max n m, ?_⟩
  have x1 := exUp (show n ≤ max n m by omega) ha
  have x2 := exUp (show m ≤ max n m by omega) hb
  unfold roundA
  rw [h0]
  simp only
  rw [if_pos hl, x1]
  simp only [h1]
  rw [if_pos hs, x2]
  simp only [h2]
def AE.after : Option AE → AE
  | none => .nrm
  | some e => e
/-- A loop over a function of the code's own. -/
theorem Ev.rngf {nt : Nat} {f : AO} {ps : List Nat} {asg body : AC} {s s1 : St} {g : Nat} {caps : List AV} {fn : AFn} {e1 : AE} {l1 : ALoop} (hf : f.ev s = .fn g [] caps) (hF : F g = some fn) (hp : fn.pure = false) (hr : fn.res = [])
    (hb : Ev F fn.body { r := inits 0 (.yld s.nx :: caps) .nil, h := s.h.put s.nx (some (.loop { st := 0, pend := none, r := s.r, ps := ps, asg := asg, body := body, nt := nt })), nx := s.nx + 1 } e1 s1)
    (he : e1 = .nrm ∨ e1 = .ret) (h1 : s1.h.get s.nx = some (.loop l1)) (hs : l1.st ≠ 1) :
    Ev F (.rngf nt f ps asg body) s (AE.after l1.pend) { r := s.r, h := s1.h.put s.nx (some (.loop { l1 with st := 3 })), nx := s1.nx } := by
  obtain ⟨n, hb⟩ := hb
  refine ⟨n + 1, ?_⟩
  have x1 := exA_mono (F := F) (KN_mono (F := F) (Nat.le_succ n)) (Nat.le_refl n) _ _ _ hb
  have hc : callG F (KN F (n + 1)) (exA F (KN F (n + 1)) n) (f.ev s) [.yld s.nx] (s.new (.loop { st := 0, pend := none, r := s.r, ps := ps, asg := asg, body := body, nt := nt })) = some (.tup [], { r := s.r, h := s1.h, nx := s1.nx }) := by
    rw [hf]
    unfold callG callF
    simp only [hF, hp, List.nil_append, List.singleton_append, Bool.false_eq_true, if_false]
    have x2 : exA F (KN F (n + 1)) n fn.body { r := inits 0 (.yld s.nx :: caps) .nil, h := (s.new (.loop { st := 0, pend := none, r := s.r, ps := ps, asg := asg, body := body, nt := nt })).h, nx := (s.new (.loop { st := 0, pend := none, r := s.r, ps := ps, asg := asg, body := body, nt := nt })).nx } = some (e1, s1) := x1
    rw [x2]
    have hres : resA fn s1 = some (.tup []) := by unfold resA; rw [hr]; rfl
    rcases he with rfl | rfl
    · simp only [hres]; rfl
    · simp only [hres]; rfl
  simp only [exA]
  rw [hc]
  simp only [h1]
  rw [if_neg hs]
  cases hpd : l1.pend with
  | none => simp only [AE.after]
  | some e => simp only [AE.after]

/-! ### Pieces of a function -/
theorem J_seqEv {fn : AFn} {k : List Fr} {a b : AC} {s s1 : St} {r : AV} (h1 : Ev F a s .nrm s1) (h2 : J F fn k (.code b) s1 r) : J F fn k (.code (.seq a b)) s r := by
  obtain ⟨n, h1⟩ := h1
  refine J_leads (fun m r hr => ?_) h2
  obtain ⟨m', hm⟩ := run_code (k := .sq b :: k) h1 (m := m) (r := r) hr
  exact ⟨m' + 1, run_seq hm⟩
theorem J_seqJ {fn : AFn} {k : List Fr} {a b : AC} {s s1 : St} {e : AE} {r : AV} (h1 : Ev F a s e s1) (he : e ≠ .nrm) (h2 : J F fn k (.sig e) s1 r) : J F fn k (.code (.seq a b)) s r := by
  obtain ⟨n, h1⟩ := h1.seqJ (b := b) he
  exact J_leads (fun m r hr => run_code h1 hr) h2
theorem J_assoc {fn : AFn} {k : List Fr} {a b c : AC} {s : St} {r : AV} (h : J F fn k (.code (.seq (.seq a b) c)) s r) : J F fn k (.code (.seq a (.seq b c))) s r := by
  obtain ⟨n, e, c', v, h1, h2⟩ := h
  have key : ∃ m, run F m k (.code (.seq a (.seq b c))) s = some (e, c') := by
    unfold run at h1
    simp only at h1
    cases n with
    | zero => simp [exA] at h1
    | succ n =>
      rw [exA_seq] at h1
      cases n with
      | zero => simp [exA] at h1
      | succ n =>
        rw [exA_seq] at h1
        refine ⟨n + 3, ?_⟩
        unfold run
        simp only
        rw [exA_seq]
        cases ha : exA F (KN F (n + 2)) n a s with
        | none => rw [ha] at h1; simp at h1
        | some p =>
          obtain ⟨e1, s1⟩ := p
          have ha' := exA_mono (F := F) (KN_mono (F := F) (show n + 2 ≤ n + 3 by omega)) (show n ≤ n + 2 by omega) _ _ _ ha
          rw [ha']
          rw [ha] at h1
          cases e1 with
          | nrm =>
            simp only at h1 ⊢
            rw [exA_seq]
            cases hb : exA F (KN F (n + 2)) n b s1 with
            | none => rw [hb] at h1; simp at h1
            | some q =>
              obtain ⟨e2, s2⟩ := q
              have hb' := exA_mono (F := F) (KN_mono (F := F) (show n + 2 ≤ n + 3 by omega)) (show n ≤ n + 1 by omega) _ _ _ hb
              rw [hb']
              rw [hb] at h1
              cases e2 with
              | nrm =>
                simp only at h1 ⊢
                cases hc : exA F (KN F (n + 2)) (n + 1) c s2 with
                | none => rw [hc] at h1; simp at h1
                | some u =>
                  obtain ⟨e3, s3⟩ := u
                  rw [exA_mono (F := F) (KN_mono (F := F) (show n + 2 ≤ n + 3 by omega)) (Nat.le_refl _) _ _ _ hc]
                  rw [hc] at h1
                  exact unw_mono (show n + 2 ≤ n + 3 by omega) h1
              | ext i => exact unw_mono (show n + 2 ≤ n + 3 by omega) h1
              | gto l => exact unw_mono (show n + 2 ≤ n + 3 by omega) h1
              | ret => exact unw_mono (show n + 2 ≤ n + 3 by omega) h1
          | ext i => exact unw_mono (show n + 2 ≤ n + 3 by omega) h1
          | gto l => exact unw_mono (show n + 2 ≤ n + 3 by omega) h1
          | ret => exact unw_mono (show n + 2 ≤ n + 3 by omega) h1
  obtain ⟨m, hm⟩ := key
  exact ⟨m, e, c', v, hm, h2⟩

/-! ### Symbolic runs of pieces -/
/-- What is kept of a run's end. -/
def keepE (ts ids : List Nat) : Option (AE × St) → Option (AE × List AV × List Blk × Nat)
  | some (e, s) => match mapO s.r.get ts, mapO s.h.get ids with
    | some vs, some bs => if s.h.dom.all (fun i => decide (i < s.nx)) && (decide ids.Nodup && ids.all (fun i => decide (i < s.nx))) then some (e, vs, bs, s.nx) else none
    | _, _ => none
  | _ => none
theorem Ev_next {ρ : Val} {Φ : Facts} (H : Hold F ρ Φ) {n : Nat} {a : AC} {e : AE} {s c : St} (S : Sim ρ s c) {ts ids : List Nat} {vs : List AV} {bs : List Blk} {nx : Nat}
    (h : keepE ts ids (exS Φ F (lookC Φ.calls) n a s) = some (e, vs, bs, nx)) (ws : List AV) (cs : List Blk) (ρ' : Val) {X : List AV} {Y : List Blk}
    (hσ : ρ'.σ = sig ρ.σ ids nx) (hlo : ρ'.lo = cs.length) (hv1 : vs.map (gm ρ) = X) (hv2 : ws.map (gm ρ') = X) (hb1 : bs.map (gB ρ) = Y) (hb2 : cs.map (gB ρ') = Y) :
    ∃ c1, Ev F a c e c1 ∧ Sim ρ' (tmpl ts ws cs) c1 := by
  have hv := hv1.trans hv2.symm
  have hb := hb1.trans hb2.symm
  unfold keepE at h
  split at h
  · rename_i e2 s2 hx
    split at h
    · rename_i vs2 bs2 h1 h2
      split at h
      · rename_i hc
        cases h
        simp only [Bool.and_eq_true, decide_eq_true_eq] at hc
        obtain ⟨hd, hn, hl⟩ := hc
        have hl' : ∀ i ∈ ids, i < s2.nx := fun i hi => by simpa using List.all_eq_true.1 hl i hi
        obtain ⟨v1, v2⟩ := mapO_get h1
        obtain ⟨b1, b2⟩ := mapO_get h2
        have hcl : cs.length = ids.length := by rw [← b1]; have := congrArg List.length hb; simpa using this.symm
        obtain ⟨N, hN⟩ := hold_calls H.calls
        have hex := exS_ok (F := F) H.good H.ops H.apps H.apns (KS := lookC Φ.calls) (K := KN F N) (fun f as r h => hN _ (lookC_mem h))
        obtain ⟨c1, hc1, S1⟩ := hex n _ _ _ _ _ hx S
        have hinj : ∀ i j, ρ'.σ i = ρ'.σ j → i = j := by rw [hσ]; exact sig_inj H.good.1.inj hn hl'
        refine ⟨c1, ⟨max N n, exA_mono (F := F) (KN_mono (F := F) (show N ≤ max N n by omega)) (show n ≤ max N n by omega) _ _ _ hc1⟩, ?_⟩
        refine ⟨fun t v hv' => ?_, ⟨fun id k hk => ?_, fun id hid hno => ?_, hinj⟩, fun i => ?_, ?_⟩
        · have hm := ofL_get (show (ofL (ts.zip ws)).get t = some v from hv')
          obtain ⟨j, hj1⟩ := List.getElem?_of_mem hm
          rw [List.getElem?_zip_eq_some] at hj1
          obtain ⟨u, hu1, hu2⟩ := v2 j t hj1.1
          have e1 := congrArg (·[j]?) hv
          simp only [List.getElem?_map, hu1, hj1.2, Option.map_some, Option.some.injEq] at e1
          rw [S1.regs t u hu2, e1]
        · have hm := ofL_get (show (ofL (idx 0 cs)).get id = some k from hk)
          obtain ⟨_, hj1⟩ := idx_mem hm
          rw [Nat.sub_zero] at hj1
          have hlt : id < ids.length := by rw [← hcl]; exact (List.getElem?_eq_some_iff.1 hj1).1
          obtain ⟨u, hu1, hu2⟩ := b2 id (ids.getD id 0) (by rw [List.getD_eq_getElem?_getD, List.getElem?_eq_getElem hlt]; rfl)
          have e1 := congrArg (·[id]?) hb
          simp only [List.getElem?_map, hu1, hj1, Option.map_some, Option.some.injEq] at e1
          have : ρ'.σ id = ρ.σ (ids.getD id 0) := by rw [hσ]; unfold sig; rw [if_pos hlt]
          rw [this, S1.heap.get _ _ hu2, e1]
        · rw [hlo] at hid
          have hge : ¬ id < ids.length := by omega
          have : ρ'.σ id = ρ.σ (s2.nx + (id - ids.length)) := by rw [hσ]; unfold sig; rw [if_neg hge]
          rw [this]
          refine S1.heap.absent _ (Nat.le_trans S1.lo (Nat.le_add_right _ _)) ?_
          cases hg : s2.h.get (s2.nx + (id - ids.length)) with
          | none => rfl
          | some k =>
            have := List.all_eq_true.1 hd _ (T.mem_dom hg)
            simp at this
            omega
        · show ρ'.σ (cs.length + i) = c1.nx + i
          rw [hσ]; unfold sig
          rw [if_neg (by omega), show s2.nx + (cs.length + i - ids.length) = s2.nx + i by omega]
          exact S1.nxs i
        · rw [hlo]; exact Nat.le_refl _
      · cases h
    · cases h
  · cases h
/-- A piece's end. -/
theorem Tok.ev {σ : Nat → Nat} {lo : Nat} {s0 z : St} {A : As} {Φ : Facts} (H : Tok F σ lo s0 z A Φ) (a : AC) (e : AE) (ts ids : List Nat) (vs : List AV) (bs : List Blk) (nx : Nat) (ws : List AV) (cs : List Blk) (ρ' : Val)
    (h : keepE ts ids (exS Φ F (lookC Φ.calls) 4000 a s0) = some (e, vs, bs, nx) := by as_aux_lemma => kernel_rfl)
    (hσ : ρ'.σ = sig σ ids nx := by kernel_rfl) (hlo : ρ'.lo = cs.length := by kernel_rfl) (hv : vs.map (gm (A.val0 σ lo)) = ws.map (gm ρ') := by as_aux_lemma => kernel_rfl) (hb : bs.map (gB (A.val0 σ lo)) = cs.map (gB ρ') := by as_aux_lemma => kernel_rfl) : ∃ z1, Ev F a z e z1 ∧ Sim ρ' (tmpl ts ws cs) z1 :=
  Ev_next H.all.1 H.all.2 h ws cs ρ' hσ hlo hv rfl hb rfl
/-- The same memory, other registers. -/
theorem Sim.regs' {ρ : Val} {s c s' c' : St} (S : Sim ρ s c) (hr : ∀ t v, s'.r.get t = some v → c'.r.get t = some (gm ρ v)) (h1 : s'.h = s.h) (h2 : c'.h = c.h) (h3 : s'.nx = s.nx) (h4 : c'.nx = c.nx) : Sim ρ s' c' :=
  ⟨hr, by rw [h1, h2]; exact S.heap, by rw [h3, h4]; exact S.nxs, by rw [h3]; exact S.lo⟩
/-- One block written. -/
theorem Sim.put' {ρ : Val} {s c : St} (S : Sim ρ s c) (id : Nat) (b : Blk) : Sim ρ { s with h := s.h.put id (some b) } { c with h := c.h.put (ρ.σ id) (some (gB ρ b)) } :=
  ⟨S.regs, S.heap.put id b, S.nxs, S.lo⟩
end
end Go.Proofs.Hz
