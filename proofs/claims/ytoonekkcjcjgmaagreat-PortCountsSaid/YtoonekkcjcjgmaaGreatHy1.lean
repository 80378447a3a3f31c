/-
  Symbolic runs: values with something not looked into, and what they stand for.
  Conditions: none (definitions and lemmas).
-/
import Derived.Test.YtoonekkcjcjgmaaGreatHv
import Derived.Test.YtoonekkcjcjgmaaGreatHo
namespace Go.Proofs.Hz

/-- What stands for the unknown ('v'), for the blocks ('σ': a symbolic run's blocks are those blocks of the run that it stands for), and from where on blocks are the run's own ('lo'). -/
structure Val where
  v : Bool → Nat → AV
  σ : Nat → Nat
  lo : Nat
/-- From here on a length is that of something not looked into: of the row that is named by this number. -/
def BIG : Nat := 1000000
def gn (ρ : Val) (n : Nat) : Nat := if n < BIG then n else match ρ.v false n with
  | .im els _ => els.length
  | _ => 0
def ownC (ρ : Val) (n : Nat) : List AV := match ρ.v false n with
  | .im els _ => els.flatten
  | _ => []
def plainV : AV → Bool
  | .bool _ => true
  | .int .. => true
  | .str _ => true
  | .nilp => true
  | .ip .. => true
  | .im .. => true
  | .nilf => true
  | .nilm => true
  | .nili => true
  | _ => false
/-- What stands for something not looked into leads to no block of the call's own. -/
structure Good (ρ : Val) : Prop where
  v : ∀ fl i, plainV (ρ.v fl i) = true ∧ (ρ.v fl i).flat = fl
  inj : ∀ i j, ρ.σ i = ρ.σ j → i = j
  own : ∀ k, BIG ≤ k → ∃ els, ρ.v false k = .im els false ∧ (∀ e ∈ els, e.length = k % 1000) ∧ els.flatten.all plainV = true

mutual
def gm (ρ : Val) : AV → AV
  | .var fl i => ρ.v fl i
  | .ip cs off => .ip (gmL ρ cs) off
  | .im els c => .im (gmLL ρ els) c
  | .fn f a b => .fn f (gmL ρ a) (gmL ρ b)
  | .agg cs => .agg (gmL ρ cs)
  | .tup cs => .tup (gmL ρ cs)
  | .bool b => .bool b
  | .int k n => .int k n
  | .str s => .str s
  | .nilp => .nilp
  | .ptr i o => .ptr (ρ.σ i) o
  | .sl a b c d e => .sl (ρ.σ a) b (gn ρ c) d e
  | .yld i => .yld (ρ.σ i)
  | .nilf => .nilf
  | .nilm => .nilm
  | .mp i => .mp (ρ.σ i)
  | .nili => .nili
  | .ifv => .ifv
  | .ifc t x => .ifc t (gm ρ x)
  | .nils => .nils
def gmL (ρ : Val) : List AV → List AV
  | [] => []
  | a :: as => gm ρ a :: gmL ρ as
def gmLL (ρ : Val) : List (List AV) → List (List AV)
  | [] => []
  | a :: as => gmL ρ a :: gmLL ρ as
end
mutual
def noVar : AV → Bool
  | .var _ _ => false
  | .ip cs _ => noVarL cs
  | .im els _ => noVarLL els
  | .fn _ a b => noVarL a && noVarL b
  | .agg cs => noVarL cs
  | .tup cs => noVarL cs
  | .bool _ => true
  | .int .. => true
  | .str _ => true
  | .nilp => true
  | .ptr .. => false
  | .sl .. => false
  | .yld _ => false
  | .nilf => true
  | .nilm => true
  | .mp _ => false
  | .nili => true
  | .ifv => true
  | .ifc _ x => noVar x
  | .nils => true
def noVarL : List AV → Bool
  | [] => true
  | a :: as => noVar a && noVarL as
def noVarLL : List (List AV) → Bool
  | [] => true
  | a :: as => noVarL a && noVarLL as
end
mutual
theorem gm_noVar (ρ : Val) : ∀ {v : AV}, noVar v = true → gm ρ v = v
  | .var _ _, h => by simp [noVar] at h
  | .ip cs _, h => by simp only [noVar] at h; simp only [gm, gmL_noVar ρ h]
  | .im els _, h => by simp only [noVar] at h; simp only [gm, gmLL_noVar ρ h]
  | .fn _ a b, h => by simp only [noVar, Bool.and_eq_true] at h; simp only [gm, gmL_noVar ρ h.1, gmL_noVar ρ h.2]
  | .agg cs, h => by simp only [noVar] at h; simp only [gm, gmL_noVar ρ h]
  | .tup cs, h => by simp only [noVar] at h; simp only [gm, gmL_noVar ρ h]
  | .bool _, _ => rfl
  | .int .., _ => rfl
  | .str _, _ => rfl
  | .nilp, _ => rfl
  | .ptr .., h => by simp [noVar] at h
  | .sl .., h => by simp [noVar] at h
  | .yld _, h => by simp [noVar] at h
  | .nilf, _ => rfl
  | .nilm, _ => rfl
  | .mp _, h => by simp [noVar] at h
  | .nili, _ => rfl
  | .ifv, _ => rfl
  | .ifc _ x, h => by simp only [noVar] at h; simp only [gm, gm_noVar ρ h]
  | .nils, _ => rfl
theorem gmL_noVar (ρ : Val) : ∀ {l : List AV}, noVarL l = true → gmL ρ l = l
  | [], _ => rfl
  | a :: as, h => by simp only [noVarL, Bool.and_eq_true] at h; simp only [gmL, gm_noVar ρ h.1, gmL_noVar ρ h.2]
theorem gmLL_noVar (ρ : Val) : ∀ {l : List (List AV)}, noVarLL l = true → gmLL ρ l = l
  | [], _ => rfl
  | a :: as, h => by simp only [noVarLL, Bool.and_eq_true] at h; simp only [gmLL, gmL_noVar ρ h.1, gmLL_noVar ρ h.2]
end
theorem gmL_map (ρ : Val) : ∀ l : List AV, gmL ρ l = l.map (gm ρ)
  | [] => rfl
  | a :: as => by simp only [gmL, List.map_cons, gmL_map ρ as]
theorem gmLL_map (ρ : Val) : ∀ l : List (List AV), gmLL ρ l = l.map (List.map (gm ρ))
  | [] => rfl
  | a :: as => by simp only [gmLL, List.map_cons, gmLL_map ρ as, gmL_map]

def gB (ρ : Val) : Blk → Blk
  | .cells cs fz ty => .cells (cs.map (gm ρ)) fz ty
  | .map es => .map (es.map fun p => (gm ρ p.1, gm ρ p.2))
  | .loop l => .loop l
  | .own k fz ty => .cells (ownC ρ k) fz ty

structure HSim (ρ : Val) (h g : T Blk) : Prop where
  get : ∀ id k, h.get id = some k → g.get (ρ.σ id) = some (gB ρ k)
  absent : ∀ id, ρ.lo ≤ id → h.get id = none → g.get (ρ.σ id) = none
  inj : ∀ i j, ρ.σ i = ρ.σ j → i = j
/-- A state, and what it stands for: what is set here is set there; the blocks that are told here are there. -/
structure Sim (ρ : Val) (s c : St) : Prop where
  regs : ∀ t v, s.r.get t = some v → c.r.get t = some (gm ρ v)
  heap : HSim ρ s.h c.h
  nxs : ∀ i, ρ.σ (s.nx + i) = c.nx + i
  lo : ρ.lo ≤ s.nx

section
variable {ρ : Val} {h g : T Blk}

theorem Sim.nx {s c : St} (S : Sim ρ s c) : ρ.σ s.nx = c.nx := S.nxs 0
theorem HSim.cells (H : HSim ρ h g) {id : Nat} {cs : List AV} {fz : Bool} {ty : Nat} (e : h.get id = some (.cells cs fz ty)) : g.get (ρ.σ id) = some (.cells (cs.map (gm ρ)) fz ty) := H.get _ _ e
theorem HSim.own (H : HSim ρ h g) {id : Nat} {k : Nat} {fz : Bool} {ty : Nat} (e : h.get id = some (.own k fz ty)) : g.get (ρ.σ id) = some (.cells (ownC ρ k) fz ty) := H.get _ _ e
theorem HSim.map (H : HSim ρ h g) {id : Nat} {es : List (AV × AV)} (e : h.get id = some (.map es)) : g.get (ρ.σ id) = some (.map (es.map fun p => (gm ρ p.1, gm ρ p.2))) := H.get _ _ e
theorem HSim.put (H : HSim ρ h g) (id : Nat) (b : Blk) : HSim ρ (h.put id (some b)) (g.put (ρ.σ id) (some (gB ρ b))) := ⟨fun j k hk => by
  rw [T.get_put] at hk ⊢
  split at hk
  · rename_i e; subst e; cases hk; rw [if_pos rfl]
  · rename_i e; rw [if_neg fun x => e (H.inj _ _ x)]; exact H.get _ _ hk, fun j hl hj => by
  rw [T.get_put] at hj ⊢
  split at hj
  · cases hj
  · rename_i e; rw [if_neg fun x => e (H.inj _ _ x)]; exact H.absent _ hl hj, H.inj⟩
theorem HSim.kill (H : HSim ρ h g) (id : Nat) : HSim ρ (h.put id none) (g.put (ρ.σ id) none) := ⟨fun j k hk => by
  rw [T.get_put] at hk ⊢
  split at hk
  · cases hk
  · rename_i e; rw [if_neg fun x => e (H.inj _ _ x)]; exact H.get _ _ hk, fun j hl hj => by
  rw [T.get_put] at hj ⊢
  split at hj
  · rename_i e; subst e; rw [if_pos rfl]
  · rename_i e; rw [if_neg fun x => e (H.inj _ _ x)]; exact H.absent _ hl hj, H.inj⟩

theorem one_gm (G : Good ρ) (v : AV) : (gm ρ v).one = v.one := by
  cases v <;> simp only [gm, AV.one]
  rename_i fl i
  have := (G.v fl i).1
  cases h : ρ.v fl i <;> simp [h, plainV] at this <;> rfl
theorem all_one_gm (G : Good ρ) (l : List AV) : (l.map (gm ρ)).all AV.one = l.all AV.one := by
  rw [List.all_map]
  congr 1
  funext v
  exact one_gm G v
theorem cells_gm (G : Good ρ) (v : AV) : (gm ρ v).cells = v.cells.map (gm ρ) := by
  cases v <;> simp only [gm, AV.cells, List.map_cons, List.map_nil, gmL_map]
  rename_i fl i
  have := (G.v fl i).1
  cases h : ρ.v fl i <;> simp [h, plainV] at this <;> rfl
theorem flat_gm (G : Good ρ) (v : AV) : (gm ρ v).flat = v.flat := by
  cases v <;> simp only [gm, AV.flat]
  · rename_i cs
    rw [gmL_map, List.all_map]
    congr 1
    funext v
    cases v <;> simp only [Function.comp, gm]
    rename_i fl i
    obtain ⟨h1, h2⟩ := G.v fl i
    generalize ρ.v fl i = x at h1 h2
    subst h2
    cases x <;> simp [plainV] at h1 <;> rfl
  · exact (G.v _ _).2

theorem rdAt_gm {cs l : List AV} {off n : Nat} (e : rdAt cs off n = some l) : rdAt (cs.map (gm ρ)) off n = some (l.map (gm ρ)) := by
  unfold rdAt at e ⊢
  split at e
  · rename_i hl
    cases e
    rw [if_pos (by simpa using hl)]
    simp [List.map_drop, List.map_take]
  · cases e
theorem rdH_gm (H : HSim ρ h g) {x : AV} {n : Nat} {l : List AV} (e : rdH h x n = some l) : rdH g (gm ρ x) n = some (l.map (gm ρ)) := by
  unfold rdH at e
  split at e
  · rename_i id off
    split at e
    · rename_i cs fz ty hg
      simp only [gm, rdH, H.cells hg]
      exact rdAt_gm e
    · cases e
  · rename_i cs off
    simp only [gm, rdH, gmL_map]
    exact rdAt_gm e
  · cases e
theorem ofCells_gm {b : Bool} {cs : List AV} {v : AV} (e : ofCells b cs = some v) : ofCells b (cs.map (gm ρ)) = some (gm ρ v) := by
  unfold ofCells at e ⊢
  split at e
  · cases e; rename_i hb; rw [if_pos hb]; simp only [gm, gmL_map]
  · rename_i hb
    rw [if_neg hb]
    split at e
    · cases e; rfl
    · cases e
theorem splice_gm (cs : List AV) (off : Nat) (xs : List AV) : (splice cs off xs).map (gm ρ) = splice (cs.map (gm ρ)) off (xs.map (gm ρ)) := by
  unfold splice
  simp [List.map_append, List.map_take, List.map_drop]
theorem wrH_gm (G : Good ρ) (H : HSim ρ h g) {id off : Nat} {xs : List AV} {h' : T Blk} (e : wrH h id off xs = some h') : ∃ g', wrH g (ρ.σ id) off (xs.map (gm ρ)) = some g' ∧ HSim ρ h' g' := by
  unfold wrH at e ⊢
  split at e
  · rename_i cs ty hg
    split at e
    · rename_i hc
      cases e
      rw [H.cells hg]
      simp only
      rw [if_pos (by rw [all_one_gm G]; simpa using hc)]
      refine ⟨_, rfl, ?_⟩
      have := H.put id (.cells (splice cs off xs) false ty)
      simpa only [gB, splice_gm] using this
    · cases e
  · cases e
theorem fillA_gm (G : Good ρ) : ∀ {ps : List (Nat × Nat × AV)} {cs l : List AV}, fillA cs ps = some l → fillA (cs.map (gm ρ)) (ps.map fun p => (p.1, p.2.1, gm ρ p.2.2)) = some (l.map (gm ρ))
  | [], cs, l, e => by cases e; rfl
  | (off, n, x) :: ps, cs, l, e => by
    unfold fillA at e
    split at e
    · rename_i hc
      simp only [List.map_cons, fillA, cells_gm G, List.length_map]
      rw [if_pos hc, ← splice_gm]
      exact fillA_gm G e
    · cases e
def AV.small : AV → Bool
  | .sl _ _ n _ _ => decide (n < BIG)
  | _ => true
theorem gn_small {n : Nat} (h : n < BIG) : gn ρ n = n := by unfold gn; rw [if_pos h]
theorem elemsOf_gm (H : HSim ρ h g) {sz : Nat} {x : AV} {n : Nat} {l : List AV} (hs : x.small = true) (e : elemsOf h sz x = some (n, l)) : elemsOf g sz (gm ρ x) = some (n, l.map (gm ρ)) := by
  unfold elemsOf at e
  split at e
  · rename_i els c
    split at e
    · rename_i hc
      cases e
      simp only [gm, elemsOf, gmLL_map]
      rw [if_pos (by simpa [List.all_map, Function.comp_def] using hc)]
      simp [List.map_flatten]
    · cases e
  · rename_i id off k z c
    simp only [AV.small, decide_eq_true_eq] at hs
    simp only [gm, elemsOf, gn_small hs]
    split at e
    · rename_i hz
      rw [if_pos hz]
      split at e
      · rename_i cs fz ty hg
        rw [H.cells hg]
        simp only [Option.map_eq_some_iff] at e ⊢
        obtain ⟨l', hl, e⟩ := e
        cases e
        exact ⟨_, rdAt_gm hl, rfl⟩
      · cases e
    · cases e
  · rename_i s
    simp only [gm, elemsOf]
    split at e
    · rename_i hz
      cases e
      rw [if_pos hz]
      simp [Function.comp_def, gm]
    · cases e
  · cases e
theorem natOf_gm {x : AV} {n : Nat} (e : natOf x = some n) : natOf (gm ρ x) = some n := by
  unfold natOf at e
  split at e
  · exact e
  · cases e
theorem binA_gm {op : BinOp} {x y v : AV} (e : binA op x y = some v) : binA op (gm ρ x) (gm ρ y) = some v ∧ gm ρ v = v := by
  have h1 : ∀ {op : BinOp} {k : IntKind} {a b : Int} {v : AV}, intBin op k a b = some v → gm ρ v = v := fun {op k a b v} h => by
    unfold intBin at h
    (repeat' split at h) <;> first | (cases h; done) | (cases h; rfl) | (simp only [Option.map_eq_some_iff] at h; obtain ⟨_, _, rfl⟩ := h; rfl)
  have h2 : ∀ {op : BinOp} {k : IntKind} {a b : Int} {v : AV}, shBin op k a b = some v → gm ρ v = v := fun {op k a b v} h => by
    unfold shBin at h
    (repeat' split at h) <;> first | (cases h; done) | (cases h; rfl)
  have h3 : ∀ {op : BinOp} {a b : List UInt8} {v : AV}, strBin op a b = some v → gm ρ v = v := fun {op a b v} h => by
    unfold strBin at h
    (repeat' split at h) <;> first | (cases h; done) | (cases h; rfl)
  unfold binA at e
  split at e
  · refine ⟨e, ?_⟩
    split at e
    · exact h2 e
    · split at e
      · exact h1 e
      · cases e
  · exact ⟨e, h3 e⟩
  · cases e
theorem eqCell_gm {k : Nat} {x y : AV} {b : Bool} (e : eqCell k x y = some b) : eqCell k (gm ρ x) (gm ρ y) = some b := by
  unfold eqCell at e
  split at e <;> first | exact e | cases e
theorem eqCells_gm : ∀ {ks : List Nat} {xs ys : List AV} {b : Bool}, eqCells ks xs ys = some b → eqCells ks (xs.map (gm ρ)) (ys.map (gm ρ)) = some b
  | [], [], [], _, e => e
  | k :: ks, x :: xs, y :: ys, b, e => by
    simp only [eqCells] at e
    split at e
    · rename_i a c h1 h2
      simp only [List.map_cons, eqCells, eqCell_gm h1, eqCells_gm h2]
      exact e
    · cases e
  | [], [], _ :: _, _, e => by simp [eqCells] at e
  | [], _ :: _, _, _, e => by simp [eqCells] at e
  | _ :: _, [], _, _, e => by simp [eqCells] at e
  | _ :: _, _ :: _, [], _, e => by simp [eqCells] at e
theorem isNilA_gm {k : Nat} {x : AV} {b : Bool} (e : isNilA k x = some b) : isNilA k (gm ρ x) = some b := by
  unfold isNilA at e
  split at e <;> first | exact e | cases e
theorem unA_gm {op : UnOp} {x v : AV} (e : unA op x = some v) : unA op (gm ρ x) = some v ∧ gm ρ v = v := by
  unfold unA at e
  split at e
  · cases e; exact ⟨rfl, rfl⟩
  · cases e; exact ⟨rfl, rfl⟩
  · refine ⟨e, ?_⟩
    simp only [Option.map_eq_some_iff] at e
    obtain ⟨_, _, rfl⟩ := e
    rfl
  · cases e
theorem toBytes_gm : ∀ {l : List AV} {b : List UInt8}, toBytes l = some b → toBytes (l.map (gm ρ)) = some b
  | [], _, e => e
  | x :: l, b, e => by
    unfold toBytes at e
    split at e
    · rename_i heq; cases heq
    · rename_i n r heq
      cases heq
      simp only [Option.map_eq_some_iff] at e
      obtain ⟨b', h1, h2⟩ := e
      simp only [List.map_cons, gm, toBytes, toBytes_gm h1, Option.map_some, h2]
    · cases e
theorem toBytesX_gm : ∀ {l : List AV} {b : List UInt8}, toBytesX l = some b → toBytesX (l.map (gm ρ)) = some b
  | [], _, e => e
  | x :: l, b, e => by
    unfold toBytesX at e
    split at e
    · rename_i heq; cases heq
    · rename_i n r heq
      cases heq
      split at e
      · rename_i hn
        simp only [Option.map_eq_some_iff] at e
        obtain ⟨b', h1, h2⟩ := e
        simp only [List.map_cons, gm, toBytesX, toBytesX_gm h1, Option.map_some, h2]
        rw [if_pos hn]
      · cases e
    · cases e
theorem keyEq_gm {x y : AV} {b : Bool} (e : keyEq x y = some b) : keyEq (gm ρ x) (gm ρ y) = some b := by
  unfold keyEq at e
  split at e <;> first | exact e | cases e
theorem findA_gm {k : AV} : ∀ {es : List (AV × AV)} {i : Nat} {r : Option (Nat × AV)}, findA k es i = some r → findA (gm ρ k) (es.map fun p => (gm ρ p.1, gm ρ p.2)) i = some (r.map fun p => (p.1, gm ρ p.2))
  | [], i, r, e => by cases e; rfl
  | (x, v) :: es, i, r, e => by
    unfold findA at e
    simp only [List.map_cons, findA]
    split at e
    · rename_i h; rw [keyEq_gm h]; cases e; rfl
    · rename_i h; rw [keyEq_gm h]; exact findA_gm e
    · cases e
theorem keyOk_gm {k : Nat} {x : AV} (e : keyOk k x = true) : keyOk k (gm ρ x) = true := by
  unfold keyOk at e
  split at e <;> first | rfl | cases e
end
end Go.Proofs.Hz
