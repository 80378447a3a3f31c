/-
  Symbolic runs are sound (last part): calls, regions, code.
  Conditions: none (lemmas).
-/
import Derived.Test.YtpidaficnfaedaaHzY5
namespace Go.Proofs.Hz

section
variable {ρ : Val} {s s1 c : St} {v : AV} {Φ : Facts} {F : Nat → Option AFn} {KS K : Nat → List AV → Option AV} {exs exc : AC → St → Option (AE × St)}

def SimEx (ρ : Val) (exs exc : AC → St → Option (AE × St)) : Prop := ∀ (k : AC) (s : St) (e : AE) (s1 c : St), exs k s = some (e, s1) → Sim ρ s c → ∃ c1, exc k c = some (e, c1) ∧ Sim ρ s1 c1
def HoldK (ρ : Val) (KS K : Nat → List AV → Option AV) : Prop := ∀ (f : Nat) (as : List AV) (r : AV), KS f as = some r → K f (as.map (gm ρ)) = some (gm ρ r)

theorem anySl_gm (G : Good ρ) (l : List AV) : (l.map (gm ρ)).any (AV.hasSl DEEP) = l.any (AV.hasSl DEEP) := by
  rw [List.any_map]; congr 1; funext x; exact hasSl_gm G DEEP x

theorem callFS_ok (G : Good ρ) (hK : HoldK ρ KS K) (hE : SimEx ρ exs exc) (S : Sim ρ s c) {f : Nat} {args : List AV} (h : callFS F KS exs f args s = some (v, s1)) : ∃ c1, callF F K exc f (args.map (gm ρ)) c = some (gm ρ v, c1) ∧ Sim ρ s1 c1 := by
  unfold callFS at h
  split at h
  · cases h
  · rename_i fn hF
    split at h
    · rename_i hp
      split at h
      · cases h
      · rename_i as has
        split at h
        · cases h
        · rename_i r hr
          have h1 : mapO (frz c.h DEEP) (args.map (gm ρ)) = some (as.map (gm ρ)) := mapO_map (fun x _ y hy => frz_gm G S.heap hy) has
          simp only [callF, hF, hp, if_true, h1, hK _ _ _ hr, flat_gm G, anySl_gm G]
          split at h
          · rename_i hfl
            rw [if_pos hfl]
            cases h
            exact ⟨c, rfl, S⟩
          · rename_i hfl
            rw [if_neg hfl]
            split at h
            · rename_i h2 hz
              cases h
              obtain ⟨g', h3, h4⟩ := fzL_gm2 (f := fzsS DEEP) (f' := fzs DEEP) (fun H e => fzs_gm G H e) S.heap hz
              simp only [h3]
              exact ⟨_, rfl, S.heap' h4⟩
            · cases h
    · rename_i hp
      have S0 : Sim ρ { r := inits 0 args .nil, h := s.h, nx := s.nx } { r := inits 0 (args.map (gm ρ)) .nil, h := c.h, nx := c.nx } := by
        exact Sim.inits S.heap S.nxs S.lo
      split at h
      · rename_i s2 hx
        obtain ⟨c2, h1, h2⟩ := hE _ _ _ _ _ hx S0
        split at h
        · rename_i u hu
          cases h
          simp only [callF, hF, hp, if_false, Bool.false_eq_true, h1, res_sim h2 hu]
          exact ⟨_, rfl, ⟨S.regs, h2.heap, h2.nxs, h2.lo⟩⟩
        · cases h
      · rename_i s2 hx
        obtain ⟨c2, h1, h2⟩ := hE _ _ _ _ _ hx S0
        split at h
        · rename_i u hu
          cases h
          simp only [callF, hF, hp, if_false, Bool.false_eq_true, h1, res_sim h2 hu]
          exact ⟨_, rfl, ⟨S.regs, h2.heap, h2.nxs, h2.lo⟩⟩
        · cases h
      · cases h

theorem stepS_ok (G : Good ρ) (hΦ : HoldF ρ Φ.ops) (hA : HoldA ρ Φ.apps) (hZ : HoldN ρ Φ.apns) (hK : HoldK ρ KS K) (hE : SimEx ρ exs exc) (S : Sim ρ s c) {o : AOp} (h : stepS Φ F KS exs o s = some (v, s1)) : ∃ c1, stepA F K exc o c = some (gm ρ v, c1) ∧ Sim ρ s1 c1 := by
  unfold stepS at h
  split at h
  · rename_i hcond
    simp only [Bool.and_eq_true] at hcond
    have hset := isSet_spec hcond.1
    have hcl := hcond.2
    split at h
    · rename_i f as
      simp only [AOp.looks] at hset
      simp only [AOp.cl, Bool.and_eq_true] at hcl
      have e1 := ev_sim S hset.left hcl.1
      have e2 := evs_sim S hset.right hcl.2
      split at h
      · rename_i g first caps hf
        rw [hf] at e1
        simp only [gm] at e1
        have := callFS_ok G hK hE S h
        simp only [stepA, callV, e1, e2, gmL_map, ← List.map_append]
        exact this
      · cases h
    · rename_i hne
      obtain ⟨c1, h1, h2⟩ := opS_ok G hΦ hA hZ S hset hcl h
      refine ⟨c1, ?_, h2⟩
      unfold stepA
      split
      · rename_i f as; exact absurd rfl (hne f as)
      · exact h1
  · cases h

theorem regS_ok (G : Good ρ) (hΦ : HoldF ρ Φ.ops) (hA : HoldA ρ Φ.apps) (hZ : HoldN ρ Φ.apns) (hK : HoldK ρ KS K) (hE : SimEx ρ exs exc) : ∀ {l : List AOper} {s s1 c : St}, Sim ρ s c → regS Φ F KS exs l s = some s1 → ∃ c1, regA F K exc l c = some c1 ∧ Sim ρ s1 c1
  | [], s, s1, c, S, h => by cases h; exact ⟨c, rfl, S⟩
  | o :: os, s, s1, c, S, h => by
    unfold regS at h
    split at h
    · rename_i hw
      split at h
      · rename_i v s2 h1
        obtain ⟨c2, h2, h3⟩ := stepS_ok G hΦ hA hZ hK hE S h1
        obtain ⟨c3, h4, h5⟩ := regS_ok G hΦ hA hZ hK hE (h3.set o.dst v) h
        exact ⟨c3, by simp only [regA, want_ok hΦ S hw, if_true, h2, h4], h5⟩
      · cases h
    · rename_i hw
      obtain ⟨c3, h4, h5⟩ := regS_ok G hΦ hA hZ hK hE (S.set o.dst (.tup [])) h
      exact ⟨c3, by simp only [regA, want_ok hΦ S hw, Bool.false_eq_true, if_false]; exact h4, h5⟩
    · cases h

inductive HistSim (ρ : Val) : List (T Blk) → List (T Blk) → Prop
  | nil : HistSim ρ [] []
  | cons {a b : T Blk} {as bs : List (T Blk)} (h : HSim ρ a b) (t : HistSim ρ as bs) : HistSim ρ (a :: as) (b :: bs)
theorem HistSim.length : ∀ {a b : List (T Blk)}, HistSim ρ a b → a.length = b.length
  | _, _, .nil => rfl
  | _, _, .cons _ t => by simp [t.length]
theorem HistSim.take : ∀ {a b : List (T Blk)} (n : Nat), HistSim ρ a b → HistSim ρ (a.take n) (b.take n)
  | _, _, 0, _ => by simp only [List.take_zero]; exact .nil
  | _, _, _ + 1, .nil => by simp only [List.take_nil]; exact .nil
  | _, _, n + 1, .cons h t => by simp only [List.take_succ_cons]; exact .cons h (t.take n)
theorem HistSim.tail : ∀ {a b : List (T Blk)}, HistSim ρ a b → HistSim ρ (a.drop 1) (b.drop 1)
  | _, _, .nil => .nil
  | _, _, .cons _ t => t
theorem HistSim.mem : ∀ {a b : List (T Blk)}, HistSim ρ a b → ∀ y ∈ b, ∃ x ∈ a, HSim ρ x y
  | _, _, .nil, _, h => by cases h
  | _, _, .cons h t, y, hy => by
    rcases List.mem_cons.1 hy with rfl | hy
    · exact ⟨_, by simp, h⟩
    · obtain ⟨x, hx, hxy⟩ := t.mem y hy
      exact ⟨x, by simp [hx], hxy⟩
theorem HistSim.seen {a b : List (T Blk)} (h : HistSim ρ a b) (j : ADr) : HistSim ρ (j.seen a) (j.seen b) := by
  unfold ADr.seen
  split
  · exact h.take _
  · exact h.tail.take _

theorem drwStepS_ok (G : Good2 ρ) (hΦ : HoldF ρ Φ.ops) (hA : HoldA ρ Φ.apps) (hZ : HoldN ρ Φ.apns) (hK : HoldK ρ KS K) (hE : SimEx ρ exs exc) (S : Sim ρ s c) {nx0 nc0 : Nat} (hN : ∀ i, ρ.σ (nx0 + i) = nc0 + i) (hlo : ρ.lo ≤ nx0) {hist hist1 hc : List (T Blk)} (H : HistSim ρ hist hc) {o : ADr} (h : drwStepS Φ F KS exs nx0 hist o s = some (v, s1, hist1)) :
    ∃ c1 hc1, drwStep F K exc nc0 hc o c = some (gm ρ v, c1, hc1) ∧ Sim ρ s1 c1 ∧ HistSim ρ hist1 hc1 := by
  unfold drwStepS at h
  split at h
  · rename_i hw
    split at h
    · rename_i hcond
      simp only [Bool.and_eq_true] at hcond
      have hset := isSet_spec hcond.1
      have hcl := hcond.2
      rcases kinds o.k with hk | hk | hk | hk
      · simp only [hk] at h
        split at h
        · rename_i hq
          split at h
          · rename_i u s2 h1
            cases h
            obtain ⟨c1, h2, h3⟩ := opS_ok G.1 hΦ hA hZ S hset hcl h1
            exact ⟨c, hc, by simp only [drwStep, want_ok hΦ S hw, if_true, hk, hq, h2], S, H⟩
          · cases h
        · rename_i hq
          split at h
          · rename_i f as hop
            rw [hop] at hset hcl
            simp only [AOp.looks] at hset
            simp only [AOp.cl, Bool.and_eq_true] at hcl
            have e1 := ev_sim S hset.left hcl.1
            have e2 := evs_sim S hset.right hcl.2
            split at h
            · rename_i g first caps hf
              rw [hf] at e1
              simp only [gm] at e1
              split at h
              · rename_i fn hF
                split at h
                · rename_i hp
                  split at h
                  · rename_i xs hx
                    split at h
                    · rename_i r hr
                      cases h
                      have h1 : mapO (frz c.h DEEP) ((first ++ as.map (AO.ev s) ++ caps).map (gm ρ)) = some (xs.map (gm ρ)) := mapO_map (fun x _ y hy => frz_gm G.1 S.heap hy) hx
                      have e3 : first.map (gm ρ) ++ (as.map (AO.ev s)).map (gm ρ) ++ caps.map (gm ρ) = (first ++ as.map (AO.ev s) ++ caps).map (gm ρ) := by simp
                      refine ⟨c, hc, ?_, S, H⟩
                      unfold drwStep
                      rw [want_ok hΦ S hw, if_pos rfl]
                      simp only [hk]
                      rw [if_neg hq, hop]
                      simp only [e1, e2, gmL_map, hF]
                      rw [e3, anySl_gm G.1, if_pos hp]
                      simp only [h1, hK _ _ _ hr]
                    · cases h
                  · cases h
                · cases h
              · cases h
            · cases h
          · cases h
      · simp only [hk] at h
        split at h
        · rename_i hn
          split at h
          · rename_i u s2 h1
            cases h
            have S' : Sim ρ { s with nx := nx0 + o.i } { c with nx := nc0 + o.i } := ⟨S.regs, S.heap, fun i => by
              show ρ.σ (nx0 + o.i + i) = nc0 + o.i + i
              rw [Nat.add_assoc, hN]; omega, Nat.le_trans hlo (Nat.le_add_right _ _)⟩
            obtain ⟨c1, h2, h3⟩ := opB_ok G.1 S' hset hcl h1
            simp only [Bool.and_eq_true, Option.isNone_iff_eq_none] at hn
            have hg : c.h.get (nc0 + o.i) = none := by
              have := S.heap.absent (nx0 + o.i) (Nat.le_trans hlo (Nat.le_add_right _ _)) hn.2
              rwa [hN] at this
            refine ⟨{ c1 with nx := c.nx }, hc, ?_, ⟨h3.regs, h3.heap, S.nxs, S.lo⟩, H⟩
            simp only [drwStep, want_ok hΦ S hw, if_true, hk, hn.1, hg, Option.isNone_none, Bool.and_self, h2]
          · cases h
        · cases h
      · have key : ∀ {u : AV} {s2 : St}, stepS Φ F KS exs o.o.op s = some (u, s2) → ∃ c2, stepA F K exc o.o.op c = some (gm ρ u, c2) ∧ Sim ρ s2 c2 := fun h => stepS_ok G.1 hΦ hA hZ hK hE S h
        rcases hk with hk | hk
        · simp only [hk] at h
          split at h
          · rename_i u s2 h1
            cases h
            obtain ⟨c2, h2, h3⟩ := key h1
            exact ⟨c2, _, by simp only [drwStep, want_ok hΦ S hw, if_true, hk, h2], h3, .cons h3.heap H⟩
          · cases h
        · simp only [hk] at h
          split at h
          · rename_i hcalm
            split at h
            · rename_i u s2 h1
              cases h
              obtain ⟨c2, h2, h3⟩ := key h1
              exact ⟨c2, _, by simp only [drwStep, want_ok hΦ S hw, if_true, hk, hcalm, h2], h3, .cons h3.heap H⟩
            · cases h
          · cases h
      · obtain ⟨k, hk'⟩ : ∃ k, o.k = k + 4 := ⟨o.k - 4, by omega⟩
        simp only [hk'] at h
        split at h
        · rename_i hr
          split at h
          · rename_i u s2 h1
            split at h
            · rename_i hb
              cases h
              obtain ⟨c1, h2, h3⟩ := opS_ok G.1 hΦ hA hZ S hset hcl h1
              simp only [Bool.and_eq_true, decide_eq_true_eq] at hb
              have hall : (o.seen hc).all (tryA c o.o.op (gm ρ v)) = true := List.all_eq_true.2 fun y hy => by
                obtain ⟨x, hx, hxy⟩ := (H.seen o).mem y hy
                have h4 := List.all_eq_true.1 hb.2 x hx
                unfold tryS at h4
                split at h4
                · rename_i u' s3 h5
                  have := AV.beq_eq h4
                  subst this
                  obtain ⟨c3, h6, _⟩ := opS_ok G.1 hΦ hA hZ (S.heap' hxy) hset hcl h5
                  unfold tryA
                  rw [h6]
                  exact beq_gm G h4
                · cases h4
              refine ⟨c, hc, ?_, S, H⟩
              unfold drwStep
              rw [want_ok hΦ S hw, if_pos rfl]
              simp only [hk']
              rw [if_pos hr, h2]
              simp only [hall, Bool.and_true]
              rw [if_pos (by rw [← H.length]; exact decide_eq_true hb.1)]
            · cases h
          · cases h
        · cases h
    · cases h
  · rename_i hw
    cases h
    refine ⟨c, _, by unfold drwStep; rw [want_ok hΦ S hw, if_neg (by simp)]; rfl, S, ?_⟩
    split
    · exact .cons S.heap H
    · exact H
  · cases h

theorem drwS_ok (G : Good2 ρ) (hΦ : HoldF ρ Φ.ops) (hA : HoldA ρ Φ.apps) (hZ : HoldN ρ Φ.apns) (hK : HoldK ρ KS K) (hE : SimEx ρ exs exc) {nx0 nc0 : Nat} (hN : ∀ i, ρ.σ (nx0 + i) = nc0 + i) (hlo : ρ.lo ≤ nx0) : ∀ {l : List ADr} {s s1 c : St} {hist hc : List (T Blk)}, Sim ρ s c → HistSim ρ hist hc → drwS Φ F KS exs nx0 l s hist = some s1 → ∃ c1, drwA F K exc nc0 l c hc = some c1 ∧ Sim ρ s1 c1
  | [], s, s1, c, hist, hc, S, H, h => by cases h; exact ⟨c, rfl, S⟩
  | o :: os, s, s1, c, hist, hc, S, H, h => by
    unfold drwS at h
    split at h
    · rename_i v s2 hist2 h1
      obtain ⟨c2, hc2, h2, h3, h4⟩ := drwStepS_ok G hΦ hA hZ hK hE S hN hlo H h1
      obtain ⟨c3, h5, h6⟩ := drwS_ok G hΦ hA hZ hK hE hN hlo (h3.set o.o.dst v) h4 h
      exact ⟨c3, by simp only [drwA, h2, h5], h6⟩
    · cases h

theorem exS_ok (G : Good2 ρ) (hΦ : HoldF ρ Φ.ops) (hA : HoldA ρ Φ.apps) (hZ : HoldN ρ Φ.apns) (hK : HoldK ρ KS K) : ∀ n, SimEx ρ (exS Φ F KS n) (exA F K n) := by
  intro n
  induction n with
  | zero => intro k s e s1 c h; cases h
  | succ n ih =>
    intro k s e s1 c h S
    cases k with
    | skip => cases h; exact ⟨c, rfl, S⟩
    | label l => cases h
    | goto l => cases h
    | scope a b => cases h
    | rngf nt f ps a b => cases h
    | exit id => cases h; exact ⟨c, rfl, S⟩
    | ret => cases h; exact ⟨c, rfl, S⟩
    | reg ops =>
      simp only [exS] at h
      split at h
      · rename_i s2 h1
        cases h
        obtain ⟨c2, h2, h3⟩ := regS_ok G.1 hΦ hA hZ hK ih S h1
        exact ⟨c2, by simp only [exA, h2], h3⟩
      · cases h
    | drw m ops =>
      simp only [exS] at h
      split at h
      · rename_i s2 h1
        cases h
        have S' : Sim ρ { s with nx := s.nx + m } { c with nx := c.nx + m } := ⟨S.regs, S.heap, fun i => by
          show ρ.σ (s.nx + m + i) = c.nx + m + i
          rw [Nat.add_assoc, S.nxs]; omega, Nat.le_trans S.lo (Nat.le_add_right _ _)⟩
        obtain ⟨c2, h2, h3⟩ := drwS_ok G hΦ hA hZ hK ih S.nxs S.lo S' (.cons S.heap .nil) h1
        exact ⟨c2, by simp only [exA, h2], h3⟩
      · cases h
    | seq a b =>
      simp only [exS] at h
      split at h
      · rename_i s2 h1
        obtain ⟨c2, h2, h3⟩ := ih _ _ _ _ _ h1 S
        obtain ⟨c3, h4, h5⟩ := ih _ _ _ _ _ h h3
        exact ⟨c3, by simp only [exA, h2, h4], h5⟩
      · rename_i hne
        obtain ⟨c2, h2, h3⟩ := ih _ _ _ _ _ h S
        refine ⟨c2, ?_, h3⟩
        simp only [exA, h2]
        cases e with
        | nrm => exact absurd h (hne s1)
        | ext i => rfl
        | gto l => rfl
        | ret => rfl
    | cond x a b =>
      simp only [exS] at h
      split at h
      · rename_i hcond
        simp only [Bool.and_eq_true] at hcond
        split at h
        · rename_i t ht
          have e1 := ev_sim S (isSet_spec hcond.1) hcond.2
          rw [truth_ok hΦ ht] at e1
          cases t with
          | true =>
            obtain ⟨c2, h2, h3⟩ := ih _ _ _ _ _ (by simpa using h) S
            exact ⟨c2, by simp only [exA, e1, if_true, h2], h3⟩
          | false =>
            obtain ⟨c2, h2, h3⟩ := ih _ _ _ _ _ (by simpa using h) S
            exact ⟨c2, by simp only [exA, e1, Bool.false_eq_true, if_false, h2], h3⟩
        · cases h
      · cases h
    | block id b =>
      simp only [exS] at h
      split at h
      · rename_i j s2 h1
        obtain ⟨c2, h2, h3⟩ := ih _ _ _ _ _ h1 S
        split at h
        · rename_i hj; cases h; exact ⟨c2, by simp only [exA, h2, if_pos hj], h3⟩
        · rename_i hj; cases h; exact ⟨c2, by simp only [exA, h2, if_neg hj], h3⟩
      · rename_i hne
        obtain ⟨c2, h2, h3⟩ := ih _ _ _ _ _ h S
        refine ⟨c2, ?_, h3⟩
        simp only [exA, h2]
        cases e with
        | nrm => rfl
        | ext i => exact absurd h (hne i s1)
        | gto l => rfl
        | ret => rfl
    | loop b =>
      simp only [exS] at h
      split at h
      · rename_i s2 h1
        obtain ⟨c2, h2, h3⟩ := ih _ _ _ _ _ h1 S
        obtain ⟨c3, h4, h5⟩ := ih _ _ _ _ _ h h3
        exact ⟨c3, by simp only [exA, h2, h4], h5⟩
      · rename_i hne
        obtain ⟨c2, h2, h3⟩ := ih _ _ _ _ _ h S
        refine ⟨c2, ?_, h3⟩
        simp only [exA, h2]
        cases e with
        | nrm => exact absurd h (hne s1)
        | ext i => rfl
        | gto l => rfl
        | ret => rfl
end

/-- THE WHOLE, symbolically: what 'callS' comes to by facts that hold, 'callN' comes to. -/
theorem callS_ok {ρ : Val} {F : Nat → Option AFn} {Φ : Facts} (G : Good2 ρ) (hσ : ∀ i, ρ.σ i = i) (hlo : ρ.lo = 0) (hΦ : HoldF ρ Φ.ops) (hA : HoldA ρ Φ.apps) (hZ : HoldN ρ Φ.apns) {m : Nat} (hC : HoldC ρ (callN F (fun _ => none) m) Φ.calls) :
    ∀ n, HoldK ρ (callS Φ F n) (callN F (fun _ => none) (m + n)) := by
  intro n
  induction n with
  | zero => intro f as r h; exact hC _ (lookC_mem h)
  | succ n ih =>
    intro f as r h
    simp only [callS] at h
    split at h
    · rename_i r' hr
      cases h
      exact callN_mono (Nat.le_add_right m (n + 1)) _ _ _ (hC _ (lookC_mem hr))
    · split at h
      · rename_i fn hF
        have key : ∀ {e : AE} {s1 : St} {v : AV}, exS Φ F (callS Φ F n) (n + 1) fn.body { r := inits 0 as .nil, h := .nil, nx := 0 } = some (e, s1) → callFS.resS fn s1 = some v → frzS s1.h DEEP v = some r →
            ∃ c1, exA F (callN F (fun _ => none) (m + n)) (m + n + 1) fn.body { r := inits 0 (as.map (gm ρ)) .nil, h := .nil, nx := 0 } = some (e, c1) ∧ resA fn c1 = some (gm ρ v) ∧ frz c1.h DEEP (gm ρ v) = some (gm ρ r) := fun {e s1 v} hx hv hz => by
          obtain ⟨c1, h1, h2⟩ := exS_ok (F := F) G hΦ hA hZ ih (n + 1) _ _ _ _ _ hx (Sim.inits (args := as) (n := 0) (m := 0) (h := .nil) (g := .nil) ⟨(fun i k hk => by rw [T.get_nil] at hk; cases hk), (fun _ _ _ => rfl), G.1.inj⟩ (fun i => hσ _) (by rw [hlo]; exact Nat.le_refl _))
          exact ⟨c1, exA_mono (fun _ _ _ h => h) (by omega) _ _ _ h1, res_sim h2 hv, frz_gm G.1 h2.heap hz⟩
        show callN F (fun _ => none) (m + n + 1) f (as.map (gm ρ)) = some (gm ρ r)
        simp only [callN, hF]
        unfold pureS at h
        unfold pureA
        split at h
        · rename_i s1 hx
          split at h
          · rename_i v hv
            obtain ⟨c1, h1, h2, h3⟩ := key hx hv h
            simp only [h1, h2, h3]
          · cases h
        · rename_i s1 hx
          split at h
          · rename_i v hv
            obtain ⟨c1, h1, h2, h3⟩ := key hx hv h
            simp only [h1, h2, h3]
          · cases h
        · cases h
      · cases h
end Go.Proofs.Hz
