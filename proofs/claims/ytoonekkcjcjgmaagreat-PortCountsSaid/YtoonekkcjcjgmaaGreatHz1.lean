/-
  Runs with cuts: a symbolic run may stop ahead of a loop and go on from there. What a function answers ('Spec'), and what is still to be answered at a place of it ('J').
  Conditions: none (definitions and lemmas).
-/
import Derived.Test.YtoonekkcjcjgmaaGreatHy6
namespace Go.Proofs.Hz

/-- What stands behind the code at work. -/
inductive Fr where
  | sq (b : AC) | bl (id : Nat) | lp (b : AC)
inductive Cfg where
  | code (c : AC) | sig (e : AE)
inductive Stop where
  | fin (e : AE) (s : St)
  | cut (k : List Fr) (c : AC) (s : St)

section
variable (F : Nat → Option AFn)
def KN [Gl] (n : Nat) : Nat → List AV → Option AV := callN F Gl.X n
def unw (K : Nat → List AV → Option AV) (m : Nat) : List Fr → AE → St → Option (AE × St)
  | [], e, s => some (e, s)
  | .sq b :: k, e, s => match e with
    | .nrm => match exA F K m b s with
      | some (e1, s1) => unw K m k e1 s1
      | none => none
    | e => unw K m k e s
  | .bl id :: k, e, s => match e with
    | .ext j => if j = id then unw K m k .nrm s else unw K m k (.ext j) s
    | e => unw K m k e s
  | .lp b :: k, e, s => match e with
    | .nrm => match exA F K m (.loop b) s with
      | some (e1, s1) => unw K m k e1 s1
      | none => none
    | e => unw K m k e s
def run [Gl] (n : Nat) (k : List Fr) (cfg : Cfg) (s : St) : Option (AE × St) :=
  match cfg with
  | .code c => match exA F (KN F n) n c s with
    | some (e, s1) => unw F (KN F n) n k e s1
    | none => none
  | .sig e => unw F (KN F n) n k e s
end

def stopHere (stops : List Nat) : List Fr → Bool
  | .bl id :: _ => stops.contains id
  | _ => false
section
variable (Φ : Facts) (F : Nat → Option AFn) (stops : List Nat)
def stepK : Nat → List Fr → Cfg → St → Option Stop
  | 0, _, _, _ => none
  | n + 1, k, .code c, s => match c with
    | .seq a b => stepK n (.sq b :: k) (.code a) s
    | .block id b => stepK n (.bl id :: k) (.code b) s
    | .loop b => if stopHere stops k then some (.cut k (.loop b) s) else stepK n (.lp b :: k) (.code b) s
    | .cond x a b => if isSet s x.tm && x.cl then match truthS Φ (x.ev s) with
        | some t => if t then stepK n k (.code a) s else stepK n k (.code b) s
        | none => none
      else none
    | .exit id => stepK n k (.sig (.ext id)) s
    | .ret => stepK n k (.sig .ret) s
    | .skip => stepK n k (.sig .nrm) s
    | .reg ops => match exS Φ F (lookC Φ.calls) n (.reg ops) s with
      | some (e, s1) => stepK n k (.sig e) s1
      | none => none
    | .drw m ops => match exS Φ F (lookC Φ.calls) n (.drw m ops) s with
      | some (e, s1) => stepK n k (.sig e) s1
      | none => none
    | _ => none
  | n + 1, k, .sig e, s => match k with
    | [] => some (.fin e s)
    | .sq b :: k => match e with
      | .nrm => stepK n k (.code b) s
      | e => stepK n k (.sig e) s
    | .bl id :: k => match e with
      | .ext j => if j = id then stepK n k (.sig .nrm) s else stepK n k (.sig (.ext j)) s
      | e => stepK n k (.sig e) s
    | .lp b :: k => match e with
      | .nrm => stepK n k (.code (.loop b)) s
      | e => stepK n k (.sig e) s
end

/-- What a function answers. -/
def Spec [Gl] (F : Nat → Option AFn) (f : Nat) (as : List AV) (r : AV) : Prop := ∃ n, callN F Gl.X n f as = some r
def HoldS [Gl] (F : Nat → Option AFn) (ρ : Val) (l : List (Nat × List AV × AV)) : Prop := ∀ p ∈ l, Spec F p.1 (p.2.1.map (gm ρ)) (gm ρ p.2.2)
/-- What a run from here on answers. -/
def J [Gl] (F : Nat → Option AFn) (fn : AFn) (k : List Fr) (cfg : Cfg) (c : St) (r : AV) : Prop :=
  ∃ n e c' v, run F n k cfg c = some (e, c') ∧ (e = .nrm ∨ e = .ret) ∧ resA fn c' = some v ∧ frz c'.h DEEP v = some r

section
variable {G : Gl} {F : Nat → Option AFn} {ρ : Val} {Φ : Facts} {stops : List Nat}

theorem KN_mono {n m : Nat} (h : n ≤ m) : KLe (KN F n) (KN F m) := callN_mono h
theorem unw_mono {n m : Nat} (h : n ≤ m) {r : AE × St} : ∀ {k : List Fr} {e : AE} {s : St}, unw F (KN F n) n k e s = some r → unw F (KN F m) m k e s = some r
  | [], e, s, hr => hr
  | .sq b :: k, e, s, hr => by
    unfold unw at hr ⊢
    split at hr
    · split at hr
      · rename_i e1 s1 hx
        try simp only
        rw [exA_mono (KN_mono h) h _ _ _ hx]
        exact unw_mono h hr
      · cases hr
    · rename_i hne
      cases e with
      | nrm => exact absurd rfl hne
      | ext i => exact unw_mono h hr
      | gto l => exact unw_mono h hr
      | ret => exact unw_mono h hr
  | .bl id :: k, e, s, hr => by
    unfold unw at hr ⊢
    split at hr
    · split at hr
      · rename_i hj
        try simp only
        rw [if_pos hj]
        exact unw_mono h hr
      · rename_i hj
        try simp only
        rw [if_neg hj]
        exact unw_mono h hr
    · rename_i hne
      cases e with
      | nrm => exact unw_mono h hr
      | ext i => exact absurd rfl (hne i)
      | gto l => exact unw_mono h hr
      | ret => exact unw_mono h hr
  | .lp b :: k, e, s, hr => by
    unfold unw at hr ⊢
    split at hr
    · split at hr
      · rename_i e1 s1 hx
        try simp only
        rw [exA_mono (KN_mono h) h _ _ _ hx]
        exact unw_mono h hr
      · cases hr
    · rename_i hne
      cases e with
      | nrm => exact absurd rfl hne
      | ext i => exact unw_mono h hr
      | gto l => exact unw_mono h hr
      | ret => exact unw_mono h hr
theorem run_mono {n m : Nat} (h : n ≤ m) {k : List Fr} {cfg : Cfg} {s : St} {r : AE × St} (hr : run F n k cfg s = some r) : run F m k cfg s = some r := by
  unfold run at hr ⊢
  cases cfg with
  | code c =>
    simp only at hr ⊢
    split at hr
    · rename_i e s1 hx
      rw [exA_mono (KN_mono h) h _ _ _ hx]
      exact unw_mono h hr
    · cases hr
  | sig e => exact unw_mono h hr

theorem run_seq {m : Nat} {a b : AC} {k : List Fr} {s : St} {r : AE × St} (h : run F m (.sq b :: k) (.code a) s = some r) : run F (m + 1) k (.code (.seq a b)) s = some r := by
  unfold run at h ⊢
  simp only at h ⊢
  split at h
  · rename_i e s1 hx
    have hx' := exA_mono (F := F) (KN_mono (F := F) (Nat.le_succ m)) (Nat.le_refl m) _ _ _ hx
    simp only [exA]
    rw [hx']
    unfold unw at h
    cases e with
    | nrm =>
      simp only at h ⊢
      split at h
      · rename_i e1 s2 hy
        rw [exA_mono (F := F) (KN_mono (F := F) (Nat.le_succ m)) (Nat.le_refl m) _ _ _ hy]
        exact unw_mono (Nat.le_succ m) h
      · cases h
    | ext i => exact unw_mono (Nat.le_succ m) h
    | gto l => exact unw_mono (Nat.le_succ m) h
    | ret => exact unw_mono (Nat.le_succ m) h
  · cases h
theorem run_loop {m : Nat} {b : AC} {k : List Fr} {s : St} {r : AE × St} (h : run F m (.lp b :: k) (.code b) s = some r) : run F (m + 1) k (.code (.loop b)) s = some r := by
  unfold run at h ⊢
  simp only at h ⊢
  split at h
  · rename_i e s1 hx
    have hx' := exA_mono (F := F) (KN_mono (F := F) (Nat.le_succ m)) (Nat.le_refl m) _ _ _ hx
    rw [show exA F (KN F (m + 1)) (m + 1) (.loop b) s = (match exA F (KN F (m + 1)) m b s with
      | some (.nrm, s1) => exA F (KN F (m + 1)) m (.loop b) s1
      | r => r) from rfl, hx']
    unfold unw at h
    cases e with
    | nrm =>
      simp only at h ⊢
      split at h
      · rename_i e1 s2 hy
        rw [exA_mono (F := F) (KN_mono (F := F) (Nat.le_succ m)) (Nat.le_refl m) _ _ _ hy]
        exact unw_mono (Nat.le_succ m) h
      · cases h
    | ext i => exact unw_mono (Nat.le_succ m) h
    | gto l => exact unw_mono (Nat.le_succ m) h
    | ret => exact unw_mono (Nat.le_succ m) h
  · cases h
theorem run_block {m id : Nat} {b : AC} {k : List Fr} {s : St} {r : AE × St} (h : run F m (.bl id :: k) (.code b) s = some r) : run F (m + 1) k (.code (.block id b)) s = some r := by
  unfold run at h ⊢
  simp only at h ⊢
  split at h
  · rename_i e s1 hx
    have hx' := exA_mono (F := F) (KN_mono (F := F) (Nat.le_succ m)) (Nat.le_refl m) _ _ _ hx
    simp only [exA]
    rw [hx']
    unfold unw at h
    cases e with
    | ext i =>
      simp only at h ⊢
      split at h
      · rename_i hj; rw [if_pos hj]; exact unw_mono (Nat.le_succ m) h
      · rename_i hj; rw [if_neg hj]; exact unw_mono (Nat.le_succ m) h
    | nrm => exact unw_mono (Nat.le_succ m) h
    | gto l => exact unw_mono (Nat.le_succ m) h
    | ret => exact unw_mono (Nat.le_succ m) h
  · cases h
theorem run_cond {m : Nat} {x : AO} {a b : AC} {t : Bool} {k : List Fr} {s : St} {r : AE × St} (hx : x.ev s = .bool t) (h : run F m k (.code (if t then a else b)) s = some r) : run F (m + 1) k (.code (.cond x a b)) s = some r := by
  unfold run at h ⊢
  simp only at h ⊢
  split at h
  · rename_i e s1 hy
    simp only [exA, hx]
    have hy' := exA_mono (F := F) (KN_mono (F := F) (Nat.le_succ m)) (Nat.le_refl m) _ _ _ hy
    cases t with
    | true => simp only [if_true] at hy' ⊢; rw [hy']; exact unw_mono (Nat.le_succ m) h
    | false => simp only [Bool.false_eq_true, if_false] at hy' ⊢; rw [hy']; exact unw_mono (Nat.le_succ m) h
  · cases h
/-- Code that comes to something by itself. -/
theorem run_code {N n m : Nat} {a : AC} {k : List Fr} {s s1 : St} {e : AE} {r : AE × St} (hx : exA F (KN F N) n a s = some (e, s1)) (h : run F m k (.sig e) s1 = some r) : ∃ m', run F m' k (.code a) s = some r := by
  refine ⟨max N (max n m), ?_⟩
  have h1 := exA_mono (F := F) (KN_mono (F := F) (show N ≤ max N (max n m) by omega)) (show n ≤ max N (max n m) by omega) _ _ _ hx
  have h2 := run_mono (show m ≤ max N (max n m) by omega) h
  unfold run at h2 ⊢
  simp only at h2 ⊢
  rw [h1]
  exact h2

theorem hold_calls : ∀ {l : List (Nat × List AV × AV)}, HoldS F ρ l → ∃ N, HoldC ρ (KN F N) l
  | [], _ => ⟨0, fun p hp => by cases hp⟩
  | q :: l, h => by
    obtain ⟨n, hn⟩ := h q (by simp)
    obtain ⟨m, hm⟩ := hold_calls (l := l) fun p hp => h p (by simp [hp])
    refine ⟨max n m, fun p hp => ?_⟩
    rcases List.mem_cons.1 hp with rfl | hp
    · exact callN_mono (show n ≤ max n m by omega) _ _ _ hn
    · exact callN_mono (show m ≤ max n m by omega) _ _ _ (hm p hp)

/-- All facts of a run hold. -/
structure Hold [Gl] (F : Nat → Option AFn) (ρ : Val) (Φ : Facts) : Prop where
  good : Good2 ρ
  ops : HoldF ρ Φ.ops
  apps : HoldA ρ Φ.apps
  apns : HoldN ρ Φ.apns
  calls : HoldS F ρ Φ.calls

/-- Whatever a run comes to from there on, it comes to from here on. -/
def Leads [Gl] (F : Nat → Option AFn) (k : List Fr) (cfg : Cfg) (c : St) (k1 : List Fr) (cfg1 : Cfg) (c1 : St) : Prop := ∀ m r, run F m k1 cfg1 c1 = some r → ∃ m', run F m' k cfg c = some r

def StopPost [Gl] (F : Nat → Option AFn) (ρ : Val) (k : List Fr) (cfg : Cfg) (c : St) : Stop → Prop
  | .fin e s1 => ∃ c1, Sim ρ s1 c1 ∧ ∃ m, run F m k cfg c = some (e, c1)
  | .cut k1 a s1 => ∃ c1, Sim ρ s1 c1 ∧ Leads F k cfg c k1 (.code a) c1
theorem StopPost.back {k k' : List Fr} {cfg cfg' : Cfg} {c c' : St} (L : Leads F k cfg c k' cfg' c') {st : Stop} (h : StopPost F ρ k' cfg' c' st) : StopPost F ρ k cfg c st := by
  cases st with
  | fin e s1 => obtain ⟨c1, h1, m, h2⟩ := h; exact ⟨c1, h1, L _ _ h2⟩
  | cut k1 a s1 => obtain ⟨c1, h1, h2⟩ := h; exact ⟨c1, h1, fun m r hr => by obtain ⟨m', hm⟩ := h2 m r hr; exact L _ _ hm⟩
theorem stepK_ok (H : Hold F ρ Φ) : ∀ {n : Nat} {k : List Fr} {cfg : Cfg} {s : St} {st : Stop}, stepK Φ F stops n k cfg s = some st → ∀ {c : St}, Sim ρ s c → StopPost F ρ k cfg c st := by
  obtain ⟨N, hN⟩ := hold_calls H.calls
  have hex := exS_ok (F := F) H.good H.ops H.apps H.apns (KS := lookC Φ.calls) (K := KN F N) (fun f as r h => hN _ (lookC_mem h))
  intro n
  induction n with
  | zero => intro k cfg s st h; cases h
  | succ n ih =>
    intro k cfg s st h c S
    have sigs : ∀ {a : AC} {e : AE} {s1 : St}, exS Φ F (lookC Φ.calls) n a s = some (e, s1) → stepK Φ F stops n k (.sig e) s1 = some st → StopPost F ρ k (.code a) c st := fun {a e s1} hx h1 => by
      obtain ⟨c1, h2, h3⟩ := hex n _ _ _ _ _ hx S
      exact StopPost.back (fun m r hr => run_code h2 hr) (ih h1 h3)
    cases cfg with
    | code a =>
      cases a with
      | seq a b => exact StopPost.back (fun m r hr => ⟨m + 1, run_seq hr⟩) (ih (by simpa only [stepK] using h) S)
      | block id b => exact StopPost.back (fun m r hr => ⟨m + 1, run_block hr⟩) (ih (by simpa only [stepK] using h) S)
      | loop b =>
        simp only [stepK] at h
        split at h
        · cases h; exact ⟨c, S, fun m r hr => ⟨m, hr⟩⟩
        · exact StopPost.back (fun m r hr => ⟨m + 1, run_loop hr⟩) (ih h S)
      | cond x a b =>
        simp only [stepK] at h
        split at h
        · rename_i hcond
          simp only [Bool.and_eq_true] at hcond
          split at h
          · rename_i t ht
            have e1 := ev_sim S (isSet_spec hcond.1) hcond.2
            rw [truth_ok H.ops ht] at e1
            refine StopPost.back (fun m r hr => ⟨m + 1, run_cond (t := t) e1 hr⟩) (ih ?_ S)
            cases t <;> simpa using h
          · cases h
        · cases h
      | exit id => exact StopPost.back (fun m r hr => run_code (F := F) (N := 0) (n := 1) (by rfl) hr) (ih (by simpa only [stepK] using h) S)
      | ret => exact StopPost.back (fun m r hr => run_code (F := F) (N := 0) (n := 1) (by rfl) hr) (ih (by simpa only [stepK] using h) S)
      | skip => exact StopPost.back (fun m r hr => run_code (F := F) (N := 0) (n := 1) (by rfl) hr) (ih (by simpa only [stepK] using h) S)
      | reg ops =>
        simp only [stepK] at h
        split at h
        · rename_i e s1 hx; exact sigs hx h
        · cases h
      | drw m ops =>
        simp only [stepK] at h
        split at h
        · rename_i e s1 hx; exact sigs hx h
        · cases h
      | label l => cases h
      | goto l => cases h
      | scope a b => cases h
      | rngf nt f ps a b => cases h
    | sig e =>
      cases k with
      | nil => cases h; exact ⟨c, S, 0, rfl⟩
      | cons fr k =>
        cases fr with
        | sq b =>
          simp only [stepK] at h
          cases e with
          | nrm => exact StopPost.back (fun m r hr => ⟨m, hr⟩) (ih h S)
          | ext i => exact StopPost.back (fun m r hr => ⟨m, hr⟩) (ih h S)
          | gto l => exact StopPost.back (fun m r hr => ⟨m, hr⟩) (ih h S)
          | ret => exact StopPost.back (fun m r hr => ⟨m, hr⟩) (ih h S)
        | bl id =>
          simp only [stepK] at h
          cases e with
          | ext i =>
            simp only at h
            split at h
            · rename_i hj; exact StopPost.back (fun m r hr => ⟨m, by unfold run unw; simp only; rw [if_pos hj]; exact hr⟩) (ih h S)
            · rename_i hj; exact StopPost.back (fun m r hr => ⟨m, by unfold run unw; simp only; rw [if_neg hj]; exact hr⟩) (ih h S)
          | nrm => exact StopPost.back (fun m r hr => ⟨m, hr⟩) (ih h S)
          | gto l => exact StopPost.back (fun m r hr => ⟨m, hr⟩) (ih h S)
          | ret => exact StopPost.back (fun m r hr => ⟨m, hr⟩) (ih h S)
        | lp b =>
          simp only [stepK] at h
          cases e with
          | nrm => exact StopPost.back (fun m r hr => ⟨m, hr⟩) (ih h S)
          | ext i => exact StopPost.back (fun m r hr => ⟨m, hr⟩) (ih h S)
          | gto l => exact StopPost.back (fun m r hr => ⟨m, hr⟩) (ih h S)
          | ret => exact StopPost.back (fun m r hr => ⟨m, hr⟩) (ih h S)

theorem J_leads {fn : AFn} {k k1 : List Fr} {cfg cfg1 : Cfg} {c c1 : St} {r : AV} (L : Leads F k cfg c k1 cfg1 c1) (h : J F fn k1 cfg1 c1 r) : J F fn k cfg c r := by
  obtain ⟨n, e, c', v, h1, h2⟩ := h
  obtain ⟨m, hm⟩ := L n _ h1
  exact ⟨m, e, c', v, hm, h2⟩
/-- A cut. -/
theorem J_cut (H : Hold F ρ Φ) {n : Nat} {fn : AFn} {k k1 : List Fr} {cfg : Cfg} {a : AC} {s s1 c : St} {r : AV} (S : Sim ρ s c) (h : stepK Φ F stops n k cfg s = some (.cut k1 a s1)) (hj : ∀ c1, Sim ρ s1 c1 → J F fn k1 (.code a) c1 r) : J F fn k cfg c r := by
  obtain ⟨c1, h1, h2⟩ := stepK_ok H h S
  exact J_leads h2 (hj c1 h1)
/-- The end: what is answered. -/
def endS (fn : AFn) : Option Stop → Option AV
  | some (.fin e s) => match e with
    | .nrm => match callFS.resS fn s with
      | some v => frzS s.h DEEP v
      | none => none
    | .ret => match callFS.resS fn s with
      | some v => frzS s.h DEEP v
      | none => none
    | _ => none
  | _ => none
theorem J_end (H : Hold F ρ Φ) {n : Nat} {fn : AFn} {k : List Fr} {cfg : Cfg} {s c : St} {r : AV} (S : Sim ρ s c) (h : endS fn (stepK Φ F stops n k cfg s) = some r) : J F fn k cfg c (gm ρ r) := by
  unfold endS at h
  split at h
  · rename_i e s1 hx
    have key : (e = .nrm ∨ e = .ret) → (match callFS.resS fn s1 with
      | some v => frzS s1.h DEEP v
      | none => none) = some r → J F fn k cfg c (gm ρ r) := fun he h => by
      obtain ⟨c1, h1, m, h2⟩ := stepK_ok H hx S
      split at h
      · rename_i v hv
        exact ⟨m, e, c1, _, h2, he, res_sim h1 hv, frz_gm H.good.1 h1.heap h⟩
      · cases h
    split at h
    · exact key (.inl rfl) h
    · exact key (.inr rfl) h
    · cases h
  · cases h
theorem J_enter {fn : AFn} {k : List Fr} {b : AC} {c : St} {r : AV} (h : J F fn (.lp b :: k) (.code b) c r) : J F fn k (.code (.loop b)) c r :=
  J_leads (fun m _ hr => ⟨m + 1, run_loop hr⟩) h
/-- A function's answer, by its body. -/
theorem spec_J {f : Nat} {fn : AFn} (hF : F f = some fn) (hX : Gl.X f = none) {as : List AV} {r : AV} (h : J F fn [] (.code fn.body) { r := inits 0 as .nil, h := .nil, nx := 0 } r) : Spec F f as r := by
  obtain ⟨n, e, c', v, h1, h2, h3, h4⟩ := h
  refine ⟨n + 1, ?_⟩
  simp only [callN, hX, hF]
  unfold pureA
  unfold run at h1
  simp only at h1
  split at h1
  · rename_i e1 s1 hx
    have hx' := exA_mono (F := F) (fun _ _ _ h => h) (Nat.le_succ n) _ _ _ hx
    unfold unw at h1
    cases h1
    unfold KN at hx'
    rw [hx']
    rcases h2 with rfl | rfl
    · simp only [h3, h4]
    · simp only [h3, h4]
  · cases h1
theorem spec_callN {f : Nat} {as : List AV} {r : AV} (h : Spec F f as r) : ∃ n, callN F Gl.X n f as = some r := h
end

/-- Where a loop stands in a function: what stands behind it, and its code. -/
def cutOf (id : Nat) : List Fr → AC → Option (List Fr × AC)
  | k, .seq a b => match cutOf id (.sq b :: k) a with
    | some r => some r
    | none => cutOf id k b
  | k, .block j b => if j = id then match b with
      | .loop b' => some (.bl j :: k, .loop b')
      | _ => none
    else cutOf id (.bl j :: k) b
  | k, .cond _ a b => match cutOf id k a with
    | some r => some r
    | none => cutOf id k b
  | k, .loop b => cutOf id (.lp b :: k) b
  | _, _ => none
def cutK (fn : AFn) (id : Nat) : List Fr := match cutOf id [] fn.body with
  | some (k, _) => k
  | none => []
def cutB (fn : AFn) (id : Nat) : AC := match cutOf id [] fn.body with
  | some (_, .loop b) => b
  | _ => .skip
end Go.Proofs.Hz
