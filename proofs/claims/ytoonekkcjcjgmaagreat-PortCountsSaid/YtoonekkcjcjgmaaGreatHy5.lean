/-
  Symbolic runs are sound: what they come to, the evaluator comes to, whatever the unknown stands for.
  Conditions: none (lemmas).
-/
import Derived.Test.YtoonekkcjcjgmaaGreatHy3
import Derived.Test.YtoonekkcjcjgmaaGreatHv
namespace Go.Proofs.Hz

/-- As 'Good', and each stands for something that is itself. -/
def Good2 (ρ : Val) : Prop := Good ρ ∧ ∀ fl i, AV.beq (ρ.v fl i) (ρ.v fl i) = true

mutual
theorem beq_gm {ρ : Val} (G : Good2 ρ) : ∀ {a : AV}, AV.beq a a = true → AV.beq (gm ρ a) (gm ρ a) = true
  | .var f i, _ => by simp only [gm]; exact G.2 f i
  | .ip cs o, h => by simp only [AV.beq, Bool.and_eq_true, gm] at h ⊢; exact ⟨beqL_gm G h.1, h.2⟩
  | .im els c, h => by simp only [AV.beq, Bool.and_eq_true, gm] at h ⊢; exact ⟨beqLL_gm G h.1, h.2⟩
  | .fn f a b, h => by simp only [AV.beq, Bool.and_eq_true, gm] at h ⊢; exact ⟨⟨h.1.1, beqL_gm G h.1.2⟩, beqL_gm G h.2⟩
  | .agg cs, h => by simp only [AV.beq, gm] at h ⊢; exact beqL_gm G h
  | .tup cs, h => by simp only [AV.beq, gm] at h ⊢; exact beqL_gm G h
  | .bool _, h => h
  | .int .., h => h
  | .str _, h => h
  | .nilp, h => h
  | .ptr .., h => by simp [gm, AV.beq]
  | .sl .., h => by simp [gm, AV.beq]
  | .yld _, h => by simp [gm, AV.beq]
  | .nilf, h => h
  | .nilm, h => h
  | .mp _, h => by simp [gm, AV.beq]
  | .nili, h => h
  | .ifv, h => h
  | .ifc t x, h => by simp only [AV.beq, Bool.and_eq_true, gm] at h ⊢; exact ⟨h.1, beq_gm G h.2⟩
  | .nils, h => h
theorem beqL_gm {ρ : Val} (G : Good2 ρ) : ∀ {a : List AV}, beqL a a = true → beqL (gmL ρ a) (gmL ρ a) = true
  | [], _ => rfl
  | x :: xs, h => by simp only [beqL, Bool.and_eq_true, gmL] at h ⊢; exact ⟨beq_gm G h.1, beqL_gm G h.2⟩
theorem beqLL_gm {ρ : Val} (G : Good2 ρ) : ∀ {a : List (List AV)}, beqLL a a = true → beqLL (gmLL ρ a) (gmLL ρ a) = true
  | [], _ => rfl
  | x :: xs, h => by simp only [beqLL, Bool.and_eq_true, gmLL] at h ⊢; exact ⟨beqL_gm G h.1, beqLL_gm G h.2⟩
end

section
variable {ρ : Val} {h g : T Blk}

theorem plain_frz {v : AV} (hp : plainV v = true) (g : T Blk) (n : Nat) : frz g (n + 1) v = some v := by cases v <;> simp only [plainV, Bool.false_eq_true] at hp <;> rfl
theorem plain_fzs {v : AV} (hp : plainV v = true) (g : T Blk) (n : Nat) : fzs (n + 1) g v = some g := by cases v <;> simp only [plainV, Bool.false_eq_true] at hp <;> rfl
theorem plain_sl {v : AV} (hp : plainV v = true) (n : Nat) : AV.hasSl (n + 1) v = false := by cases v <;> simp only [plainV, Bool.false_eq_true] at hp <;> rfl

theorem mapO_map {f f' : AV → Option AV} : ∀ {l r : List AV}, (∀ x ∈ l, ∀ y, f x = some y → f' (gm ρ x) = some (gm ρ y)) → mapO f l = some r → mapO f' (l.map (gm ρ)) = some (r.map (gm ρ))
  | [], r, _, e => by cases e; rfl
  | x :: l, r, hf, e => by
    unfold mapO at e
    split at e
    · cases e
    · rename_i y hy
      split at e
      · cases e
      · rename_i ys hys
        cases e
        simp only [List.map_cons, mapO, hf x (by simp) y hy, mapO_map (fun x hx => hf x (by simp [hx])) hys]
theorem chunk_gm (sz : Nat) : ∀ (k : Nat) (l : List AV), chunk sz k (l.map (gm ρ)) = (chunk sz k l).map (List.map (gm ρ))
  | 0, _ => rfl
  | k + 1, l => by simp only [chunk, List.map_cons, List.map_take, ← List.map_drop, chunk_gm sz k]

theorem mapO_same {f : AV → Option AV} : ∀ {l : List AV}, (∀ x ∈ l, f x = some x) → mapO f l = some l
  | [], _ => rfl
  | x :: l, h => by unfold mapO; rw [h x (by simp), mapO_same fun y hy => h y (by simp [hy])]
theorem chunk_flat {sz : Nat} : ∀ {els : List (List AV)}, (∀ e ∈ els, e.length = sz) → chunk sz els.length els.flatten = els
  | [], _ => rfl
  | e :: es, h => by
    have h1 := h e (by simp)
    simp only [List.length_cons, chunk, List.flatten_cons]
    rw [List.take_left' h1, List.drop_left' h1, chunk_flat fun x hx => h x (by simp [hx])]
theorem flat_len {sz : Nat} : ∀ {els : List (List AV)}, (∀ e ∈ els, e.length = sz) → els.flatten.length = els.length * sz
  | [], _ => by simp
  | e :: es, h => by
    simp only [List.flatten_cons, List.length_append, List.length_cons, h e (by simp), flat_len (els := es) fun x hx => h x (by simp [hx])]
    rw [Nat.add_mul]; omega
theorem flat_chunk {sz : Nat} : ∀ {n : Nat} {l : List AV}, l.length = n * sz → (chunk sz n l).flatten = l ∧ (chunk sz n l).length = n ∧ ∀ e ∈ chunk sz n l, e.length = sz
  | 0, l, h => by
    have : l = [] := List.eq_nil_of_length_eq_zero (by simpa using h)
    subst this
    exact ⟨rfl, rfl, fun e he => by cases he⟩
  | n + 1, l, h => by
    rw [Nat.add_mul] at h
    obtain ⟨h1, h2, h3⟩ := flat_chunk (sz := sz) (n := n) (l := l.drop sz) (by simp; omega)
    refine ⟨by simp only [chunk, List.flatten_cons, h1, List.take_append_drop], by simp only [chunk, List.length_cons, h2], fun e he => ?_⟩
    simp only [chunk, List.mem_cons] at he
    rcases he with rfl | he
    · simp; omega
    · exact h3 e he
theorem rdAt_all {l : List AV} {n : Nat} (h : l.length = n) : rdAt l 0 n = some l := by
  unfold rdAt; rw [if_pos (by omega)]; simp [List.take_of_length_le (Nat.le_of_eq h)]
theorem gn_big {j : Nat} (hj : BIG ≤ j) {els : List (List AV)} {c : Bool} (h : ρ.v false j = .im els c) : gn ρ j = els.length := by
  unfold gn; rw [if_neg (by omega), h]
theorem ownC_of {j : Nat} {els : List (List AV)} {c : Bool} (h : ρ.v false j = .im els c) : ownC ρ j = els.flatten := by
  unfold ownC; rw [h]
theorem rdAt_len {cs l : List AV} {off n : Nat} (e : rdAt cs off n = some l) : l.length = n := by
  unfold rdAt at e
  split at e
  · cases e; simp; omega
  · cases e

theorem frz_gm (G : Good ρ) (H : HSim ρ h g) : ∀ {n : Nat} {v u : AV}, frzS h n v = some u → frz g n (gm ρ v) = some (gm ρ u)
  | 0, _, _, e => by cases e
  | n + 1, v, u, e => by
    have ih : ∀ {l r : List AV}, mapO (frzS h n) l = some r → mapO (frz g n) (l.map (gm ρ)) = some (r.map (gm ρ)) := fun e => mapO_map (fun x _ y hy => frz_gm G H hy) e
    cases v <;> simp only [frzS] at e
    case sl id off k sz c =>
      split at e
      · rename_i cs fz ty hg
        split at e
        · rename_i hk
          split at e
          · rename_i l hl
            split at e
            · rename_i r hr
              cases e
              simp only [gm, frz, H.cells hg, gn_small hk, rdAt_gm hl, ih hr, chunk_gm, gmLL_map]
            · cases e
          · cases e
        · cases e
      · rename_i j fz ty hg
        split at e
        · rename_i hc
          obtain ⟨rfl, rfl, hj, hs, rfl, hn⟩ := hc
          cases e
          obtain ⟨els, h1, h2, h3⟩ := G.own _ hj
          rw [hs] at h2
          obtain ⟨m, rfl⟩ : ∃ m, n = m + 1 := ⟨n - 1, by omega⟩
          have h4 : mapO (frz g (m + 1)) els.flatten = some els.flatten := mapO_same fun x hx => plain_frz (List.all_eq_true.1 h3 x hx) g m
          simp only [gm]
          unfold frz
          simp only [H.own hg, gn_big hj h1, ownC_of h1, rdAt_all (flat_len h2), h4, chunk_flat h2, h1]
          rfl
        · cases e
      · cases e
    case agg cs =>
      simp only [Option.map_eq_some_iff] at e
      obtain ⟨r, hr, rfl⟩ := e
      simp only [gm, frz, gmL_map, ih hr, Option.map_some]
    case tup cs =>
      simp only [Option.map_eq_some_iff] at e
      obtain ⟨r, hr, rfl⟩ := e
      simp only [gm, frz, gmL_map, ih hr, Option.map_some]
    case fn f a b =>
      split at e
      · rename_i a' b' ha hb
        cases e
        simp only [gm, frz, gmL_map, ih ha, ih hb]
      · cases e
    case var fl i => cases e; simp only [gm]; exact plain_frz (G.v fl i).1 g n
    case ifc t x => cases x <;> first | (cases e; rfl) | (cases e; done)
    all_goals first | (cases e; rfl) | (cases e; done)

theorem hasSl_gm (G : Good ρ) : ∀ (n : Nat) (v : AV), AV.hasSl n (gm ρ v) = AV.hasSl n v
  | 0, _ => rfl
  | n + 1, v => by
    have ih : ∀ l : List AV, (l.map (gm ρ)).any (AV.hasSl n) = l.any (AV.hasSl n) := fun l => by
      rw [List.any_map]; congr 1; funext x; exact hasSl_gm G n x
    cases v <;> simp only [gm, AV.hasSl, gmL_map, ih]
    rename_i fl i
    exact plain_sl (G.v fl i).1 n

theorem fzL_gm2 {f f' : T Blk → AV → Option (T Blk)} (hf : ∀ {h g h' : T Blk} {v : AV}, HSim ρ h g → f h v = some h' → ∃ g', f' g (gm ρ v) = some g' ∧ HSim ρ h' g') :
    ∀ {l : List AV} {h g h' : T Blk}, HSim ρ h g → fzL f h l = some h' → ∃ g', fzL f' g (l.map (gm ρ)) = some g' ∧ HSim ρ h' g'
  | [], h, g, h', H, e => by cases e; exact ⟨g, rfl, H⟩
  | x :: l, h, g, h', H, e => by
    unfold fzL at e
    split at e
    · rename_i h1 hx
      obtain ⟨g1, h2, h3⟩ := hf H hx
      obtain ⟨g2, h4, h5⟩ := fzL_gm2 (f := f) hf h3 e
      exact ⟨g2, by simp only [List.map_cons, fzL, h2, h4], h5⟩
    · cases e
theorem fzL_plain {g : T Blk} {n : Nat} : ∀ {l : List AV}, l.all plainV = true → fzL (fzs (n + 1)) g l = some g
  | [], _ => rfl
  | x :: l, h => by
    simp only [List.all_cons, Bool.and_eq_true] at h
    unfold fzL
    rw [plain_fzs h.1]
    exact fzL_plain h.2
theorem fzs_gm (G : Good ρ) : ∀ {n : Nat} {h g h' : T Blk} {v : AV}, HSim ρ h g → fzsS n h v = some h' → ∃ g', fzs n g (gm ρ v) = some g' ∧ HSim ρ h' g'
  | 0, _, _, _, _, _, e => by cases e
  | n + 1, h, g, h', v, H, e => by
    have ih : ∀ {l : List AV} {h g h' : T Blk}, HSim ρ h g → fzL (fzsS n) h l = some h' → ∃ g', fzL (fzs n) g (l.map (gm ρ)) = some g' ∧ HSim ρ h' g' := fun H e => fzL_gm2 (fun H e => fzs_gm G H e) H e
    cases v <;> simp only [fzsS] at e
    case sl id off k sz c =>
      split at e
      · rename_i cs fz ty hg
        simp only [gm, fzs, H.cells hg]
        exact ih (H.put id (.cells cs true ty)) e
      · rename_i j fz ty hg
        split at e
        · rename_i hc
          obtain ⟨hn, hj⟩ := hc
          cases e
          obtain ⟨els, h1, h2, h3⟩ := G.own _ hj
          obtain ⟨m, rfl⟩ : ∃ m, n = m + 1 := ⟨n - 1, by omega⟩
          have := H.put id (.own j true ty)
          simp only [gB, ownC_of h1] at this
          refine ⟨_, ?_, this⟩
          simp only [gm]
          unfold fzs
          simp only [H.own hg, ownC_of h1]
          exact fzL_plain h3
        · cases e
      · cases e
    case agg cs => simp only [gm, fzs, gmL_map]; exact ih H e
    case tup cs => simp only [gm, fzs, gmL_map]; exact ih H e
    case fn f a b =>
      split at e
      · rename_i h1 ha
        obtain ⟨g1, h2, h3⟩ := ih H ha
        simp only [gm, fzs, gmL_map, h2]
        exact ih h3 e
      · cases e
    case var fl i => cases e; exact ⟨g, by simp only [gm]; exact plain_fzs (G.v fl i).1 g n, H⟩
    all_goals (cases e; exact ⟨g, rfl, H⟩)
end

section
variable {ρ : Val} {s s1 c : St} {v : AV} {Φ : Facts} {F : Nat → Option AFn} {KS K : Nat → List AV → Option AV}

theorem truth_ok (hΦ : HoldF ρ Φ.ops) {b : Bool} (h : truthS Φ v = some b) : gm ρ v = .bool b := by
  unfold truthS at h
  split at h
  · cases h; rfl
  · rename_i f i
    split at h
    · rename_i b' hl
      cases h
      have := hΦ _ (lookF_mem hl) { r := .nil, h := .nil, nx := 0 }
      simp only [AOp.gmO, AOp.mapO, AO.gmO, opA, AO.ev, Option.some.injEq, Prod.mk.injEq, and_true] at this
      exact this
    · cases h
  · cases h
theorem want_ok (hΦ : HoldF ρ Φ.ops) (S : Sim ρ s c) {q : Option (Nat × Bool)} {b : Bool} (h : wantS Φ s q = some b) : wantA c q = b := by
  unfold wantS at h
  split at h
  · cases h; rfl
  · rename_i t b'
    unfold wantA
    split at h
    · rename_i x hx
      cases h
      simp only [St.rg, S.regs t _ hx, Option.getD_some, gm]
    · rename_i x hx
      cases h
      simp only [St.rg, S.regs t _ hx, Option.getD_some, gm]
    · rename_i f i hx
      simp only [Option.map_eq_some_iff] at h
      obtain ⟨y, hy, rfl⟩ := h
      have := truth_ok hΦ hy
      simp only [St.rg, S.regs t _ hx, Option.getD_some, this]
    · cases h
theorem opB_ok (G : Good ρ) (S : Sim ρ s c) {o : AOp} (hset : SetIn s o.looks) (hcl : o.cl = true) (h : opB s o = some (v, s1)) : ∃ c1, opA c o = some (gm ρ v, c1) ∧ Sim ρ s1 c1 := by
  unfold opB at h
  split at h
  · rename_i v' s' hr
    split at h
    · rename_i hsm
      cases h
      exact opA_sim G S hset hcl hr hsm
    · cases h
  · cases h
/-- What a value tells of a row: itself, or the bytes of a text. -/
def Tells (ρ : Val) (sz : Nat) (u : AV) (B : List (List AV)) : Prop := (∃ cb, gm ρ u = .im B cb) ∨ sz = 1 ∧ ∃ t, gm ρ u = .str t ∧ B = t.map eB
theorem eB_flat (t : List UInt8) : (t.map eB).flatten = t.map fun b => .int .u8 b.toNat := by
  induction t with
  | nil => rfl
  | cons b t ih => simp only [List.map_cons, List.flatten_cons, ih, eB]; rfl
theorem tellX_ok (G : Good ρ) (S : Sim ρ s c) {sz : Nat} {x u : AV} (h : tellX s sz x = some u) {B : List (List AV)} (hu : Tells ρ sz u B) (hB : ∀ e ∈ B, e.length = sz) : elemsOf c.h sz (gm ρ x) = some (B.length, B.flatten) := by
  have him : ∀ cb, elemsOf c.h sz (.im B cb) = some (B.length, B.flatten) := fun cb => by
    unfold elemsOf
    simp only
    rw [if_pos (List.all_eq_true.2 fun e he => by simp [hB e he])]
  have hstr : ∀ t, sz = 1 → B = t.map eB → elemsOf c.h sz (.str t) = some (B.length, B.flatten) := fun t h1 h2 => by
    subst h1; subst h2
    unfold elemsOf
    simp only [if_true, eB_flat, List.length_map]
  have hself : ∀ {v : AV}, Tells ρ sz v B → elemsOf c.h sz (gm ρ v) = some (B.length, B.flatten) := fun {v} hv => by
    rcases hv with ⟨cb, hv⟩ | ⟨h1, t, hv, h2⟩
    · rw [hv]; exact him cb
    · rw [hv]; exact hstr t h1 h2
  unfold tellX at h
  split at h
  · cases h; exact hself hu
  · split at h
    · cases h; exact hself hu
    · cases h
  · split at h
    · cases h; exact hself hu
    · cases h
  · cases h; exact hself hu
  · rename_i id off n z cc
    split at h
    · rename_i hz
      subst hz
      split at h
      · rename_i j fz ty hg
        split at h
        · rename_i hc
          obtain ⟨rfl, rfl, hj⟩ := hc
          cases h
          obtain ⟨els, e1, _⟩ := G.own _ hj
          have hv : gm ρ (.var false n) = .im els false := by simp only [gm, e1]
          rcases hu with ⟨cb, hu⟩ | ⟨_, t, hu, _⟩
          · simp only [gm] at hu
            simp only [gm, elemsOf, if_true, S.heap.own hg, gn_big hj hu, ownC_of hu, rdAt_all (flat_len hB), Option.map_some]
          · rw [hv] at hu; cases hu
        · cases h
      · rename_i cs fz ty hg
        split at h
        · rename_i hn
          simp only [Option.map_eq_some_iff] at h
          obtain ⟨l, hl, rfl⟩ := h
          have hll := rdAt_len hl
          rcases hu with ⟨cb, hu⟩ | ⟨_, t, hu, _⟩
          · simp only [gm, gmLL_map, ← chunk_gm, AV.im.injEq] at hu
            obtain ⟨rfl, _⟩ := hu
            obtain ⟨h1, h2, _⟩ := flat_chunk (sz := z) (n := n) (l := l.map (gm ρ)) (by simpa using hll)
            simp only [gm, elemsOf, if_true, S.heap.cells hg, gn_small hn, rdAt_gm hl, Option.map_some, h1, h2]
          · simp [gm] at hu
        · cases h
      · cases h
    · cases h
  · cases h
theorem plain_one {x : AV} (h : plainV x = true) : x.one = true := by cases x <;> simp [plainV] at h <;> rfl
theorem appS_ok (G : Good ρ) {l : List AFact} (hl : HoldA ρ l) (S : Sim ρ s c) {t sz by_ : Nat} {d x : AV} {d' x' : AO} (hd : d'.ev c = gm ρ d) (hx : x'.ev c = gm ρ x) (h : appS l s t sz by_ d x = some (v, s1)) : ∃ c1, opA c (.app t sz by_ d' x') = some (gm ρ v, c1) ∧ Sim ρ s1 c1 := by
  unfold appS at h
  split at h
  · cases h
  · rename_i xr hxr
    -- what a fact tells
    have key : ∀ {o : Bool} {b : AV} {k : Nat}, lookA l o sz by_ b xr = some k → ∃ A ca B, gm ρ b = .im A ca ∧ elemsOf c.h sz (gm ρ x) = some (B.length, B.flatten) ∧ (B.flatten.all AV.one = true) ∧ 0 < sz ∧ ρ.v false k = .im (A ++ B) false ∧ BIG ≤ k ∧
        (∀ e ∈ A, e.length = sz) ∧ (A.length + B.length) * by_ ≤ roomB ∧ A.length + B.length ≤ roomB ∧ (o = false → ca = true ∧ B.length ≠ 0) := fun {o b k} hk => by
      obtain ⟨⟨A, ca, B, h1, h2, h3, h4, h5, h6⟩, h7, h8, h9⟩ := lookA_ok hl hk
      obtain ⟨els, e1, e2, e3⟩ := G.own k h7
      rw [h3] at e1
      cases e1
      rw [h8] at e2
      refine ⟨A, ca, B, h1, tellX_ok G S hxr h2 fun e he => e2 e (by simp [he]), ?_, h9, h3, h7, fun e he => e2 e (by simp [he]), h4, h5, fun ho => ⟨(h6 ho).1, fun e => (h6 ho).2 (List.eq_nil_of_length_eq_zero e)⟩⟩
      refine List.all_eq_true.2 fun y hy => plain_one (List.all_eq_true.1 e3 y ?_)
      simp only [List.flatten_append, List.mem_append]
      exact .inr hy
    have newOk : ∀ {k : Nat} {cs : List AV}, ownC ρ k = cs → Sim ρ (s.new (.own k false t)) (c.new (.cells cs false t)) := fun {k cs} e => by
      have := S.new (.own k false t)
      simp only [gB, e] at this
      exact this
    have hall : ∀ {A : List (List AV)}, (∀ e ∈ A, e.length = sz) → A.all (fun e => e.length == sz) = true := fun h => List.all_eq_true.2 fun e he => by simp [h e he]
    split at h
    · rename_i j
      simp only [Option.map_eq_some_iff, Prod.mk.injEq] at h
      obtain ⟨k, hk, rfl, rfl⟩ := h
      obtain ⟨A, ca, B, h1, h2, h3, h4, h5, h6, h7, h8, h9, h10⟩ := key hk
      obtain ⟨rfl, hB⟩ := h10 rfl
      refine ⟨c.new (.cells (A.flatten ++ B.flatten) false t), ?_, newOk (by rw [ownC_of h5]; simp)⟩
      simp only [opA, hd, hx, h2, h1, h3, h4, and_self, if_true, if_neg hB, hall h7, h8, h9]
      simp only [gm, gn_big h6 h5, S.nx, List.length_append]
    · rename_i els cc
      simp only [Option.map_eq_some_iff, Prod.mk.injEq] at h
      obtain ⟨k, hk, rfl, rfl⟩ := h
      obtain ⟨A, ca, B, h1, h2, h3, h4, h5, h6, h7, h8, h9, h10⟩ := key hk
      obtain ⟨rfl, hB⟩ := h10 rfl
      refine ⟨c.new (.cells (A.flatten ++ B.flatten) false t), ?_, newOk (by rw [ownC_of h5]; simp)⟩
      simp only [opA, hd, hx, h2, h1, h3, h4, and_self, if_true, if_neg hB, hall h7, h8, h9]
      simp only [gm, gn_big h6 h5, S.nx, List.length_append]
    · simp only [Option.map_eq_some_iff, Prod.mk.injEq] at h
      obtain ⟨k, hk, rfl, rfl⟩ := h
      obtain ⟨A, ca, B, h1, h2, h3, h4, h5, h6, h7, h8, h9, h10⟩ := key hk
      obtain ⟨_, hB⟩ := h10 rfl
      simp only [gm, gmLL, AV.im.injEq] at h1
      obtain ⟨rfl, _⟩ := h1
      simp only [List.length_nil, Nat.zero_add] at h8 h9
      simp only [List.nil_append] at h5
      refine ⟨c.new (.cells B.flatten false t), ?_, newOk (ownC_of h5)⟩
      simp only [opA, hd, hx, gm, h2, h3, h4, and_self, if_true, if_neg hB, h8, h9]
      simp only [gn_big h6 h5, S.nx]
    · rename_i id off n z cc
      split at h
      · rename_i hz
        subst hz
        have ownOk : ∀ {k : Nat} {A B : List (List AV)}, BIG ≤ k → ρ.v false k = .im (A ++ B) false →
            Sim ρ { s with h := (s.h.put id none).put s.nx (some (.own k false t)), nx := s.nx + 1 } { c with h := (c.h.put (ρ.σ id) none).put c.nx (some (.cells (A.flatten ++ B.flatten) false t)), nx := c.nx + 1 } := fun {k A B} hk e => by
          have := (S.heap.kill id).put s.nx (.own k false t)
          simp only [gB, ownC_of e, List.flatten_append] at this
          refine ⟨S.regs, by rw [← S.nx]; exact this, fun i => ?_, Nat.le_succ_of_le S.lo⟩
          have := S.nxs (i + 1)
          show ρ.σ (s.nx + 1 + i) = c.nx + 1 + i
          rw [show s.nx + 1 + i = s.nx + (i + 1) by omega, this]; omega
        split at h
        · rename_i j ty hg
          split at h
          rotate_left
          · cases h
          rename_i hty
          subst hty
          split at h
          · rename_i hc
            obtain ⟨rfl, rfl, hj⟩ := hc
            simp only [Option.map_eq_some_iff, Prod.mk.injEq] at h
            obtain ⟨k, hk, rfl, rfl⟩ := h
            obtain ⟨A, ca, B, h1, h2, h3, h4, h5, h6, h7, h8, h9, _⟩ := key hk
            simp only [gm] at h1
            refine ⟨_, ?_, ownOk h6 h5⟩
            simp only [opA, hd, hx, gm, h2, h3, h4, and_self, if_true, gn_big hj h1, S.heap.own hg, ownC_of h1, flat_len h7, h8, h9, List.take_of_length_le (Nat.le_of_eq (flat_len h7)), gn_big h6 h5, S.nx, List.length_append]
            simp
          · split at h
            · rename_i hc
              obtain ⟨rfl, rfl⟩ := hc
              simp only [Option.map_eq_some_iff, Prod.mk.injEq] at h
              obtain ⟨k, hk, rfl, rfl⟩ := h
              obtain ⟨A, ca, B, h1, h2, h3, h4, h5, h6, h7, h8, h9, _⟩ := key hk
              simp only [gm, gmLL, AV.im.injEq] at h1
              obtain ⟨rfl, _⟩ := h1
              have h0 : (0 : Nat) < BIG := by decide
              simp only [List.length_nil, Nat.zero_add] at h8 h9
              refine ⟨_, ?_, ownOk h6 h5⟩
              simp only [opA, hd, hx, gm, h2, h3, h4, and_self, if_true, gn_small h0, S.heap.own hg, h8, h9, gn_big h6 h5, S.nx, Nat.zero_mul, Nat.zero_add, Nat.zero_le, List.take_zero, List.nil_append, List.flatten_nil]
              simp
            · cases h
        · rename_i cs ty hg
          split at h
          · rename_i hc
            obtain ⟨rfl, hle, hn, rfl⟩ := hc
            simp only [Option.map_eq_some_iff, Prod.mk.injEq] at h
            obtain ⟨k, hk, rfl, rfl⟩ := h
            obtain ⟨A, ca, B, h1, h2, h3, h4, h5, h6, h7, h8, h9, _⟩ := key hk
            simp only [gm, gmLL_map, ← chunk_gm, AV.im.injEq] at h1
            obtain ⟨rfl, _⟩ := h1
            obtain ⟨q1, q2, _⟩ := flat_chunk (sz := z) (n := n) (l := (cs.take (n * z)).map (gm ρ)) (by simp; omega)
            refine ⟨_, ?_, ownOk h6 h5⟩
            rw [q2] at h8 h9
            simp only [opA, hd, hx, gm, h2, h3, h4, and_self, if_true, gn_small hn, S.heap.cells hg, h8, h9, gn_big h6 h5, S.nx, List.length_append, List.length_map, hle, List.map_take]
            simp only [List.map_take] at q1 q2
            simp [q1, q2]
          · cases h
        · rename_i m cs fz ty hg
          split at h
          · rename_i hc
            obtain ⟨rfl, hn⟩ := hc
            split at h
            · rename_i old hold
              simp only [Option.map_eq_some_iff, Prod.mk.injEq] at h
              obtain ⟨k, hk, rfl, rfl⟩ := h
              obtain ⟨A, ca, B, h1, h2, h3, h4, h5, h6, h7, h8, h9, h10⟩ := key hk
              obtain ⟨_, hB⟩ := h10 rfl
              simp only [gm, gmLL_map, ← chunk_gm, AV.im.injEq] at h1
              obtain ⟨rfl, _⟩ := h1
              obtain ⟨q1, q2, _⟩ := flat_chunk (sz := z) (n := m) (l := old.map (gm ρ)) (by simpa using rdAt_len hold)
              rw [q2] at h8 h9
              have hno : ¬ m + B.length ≤ m := by omega
              refine ⟨c.new (.cells (old.map (gm ρ) ++ B.flatten) false t), ?_, newOk (by rw [ownC_of h5]; simp [q1])⟩
              simp only [opA, hd, hx, gm, h2, h3, h4, and_self, if_true, gn_small hn, S.heap.cells hg, h8, h9, gn_big h6 h5, S.nx, List.length_append, q2, rdAt_gm hold, hno, if_false]
              simp [hB]
            · cases h
          · cases h
        · cases h
      · cases h
    · cases h
theorem appnS_ok (G : Good ρ) {l : List NFact} (hl : HoldN ρ l) (S : Sim ρ s c) {t sz by_ : Nat} {z : List AV} {d x : AV} {d' x' : AO} (hd : d'.ev c = gm ρ d) (hx : x'.ev c = gm ρ x) (h : appnS l s t sz by_ z d x = some (v, s1)) : ∃ c1, opA c (.appn t sz by_ z d' x') = some (gm ρ v, c1) ∧ Sim ρ s1 c1 := by
  unfold appnS at h
  simp only [Option.map_eq_some_iff, Prod.mk.injEq] at h
  obtain ⟨k, hk, rfl, rfl⟩ := h
  obtain ⟨⟨A, N, kk, h1, h2, h3, h4, h5, h6⟩, h7, h8, h9⟩ := lookN_ok hl hk
  obtain ⟨els, e1, e2, e3⟩ := G.own k h7
  rw [h4] at e1
  cases e1
  rw [h8] at e2
  have hz : z ∈ A ++ List.replicate N z := by simp [h3]
  have hA : A.all (fun e => e.length == sz) = true := List.all_eq_true.2 fun e he => by simp [e2 e (by simp [he])]
  have hone : z.all AV.one = true := List.all_eq_true.2 fun y hy => plain_one (List.all_eq_true.1 e3 y (List.mem_flatten.2 ⟨z, hz, hy⟩))
  have hs := S.new (.own k false t)
  simp only [gB, ownC_of h4, List.flatten_append] at hs
  refine ⟨_, ?_, hs⟩
  have hn : natOf (.int kk (N : Int)) = some N := by simp [natOf]
  simp only [opA, hd, hx, h1, h2, hn, if_neg h3, hA, h5, h6, e2 z hz, h9, hone, and_self, if_true]
  simp only [gm, gn_big h7 h4, S.nx, List.length_append, List.length_replicate]
theorem s2bS_ok (G : Good ρ) {l : List AFact} (hl : HoldA ρ l) (S : Sim ρ s c) {t : Nat} {x : AV} {x' : AO} (hx : x'.ev c = gm ρ x) (h : s2bS l s t x = some (v, s1)) : ∃ c1, opA c (.s2b t x') = some (gm ρ v, c1) ∧ Sim ρ s1 c1 := by
  unfold s2bS at h
  split at h
  · rename_i j
    simp only [Option.map_eq_some_iff, Prod.mk.injEq] at h
    obtain ⟨k, hk, rfl, rfl⟩ := h
    obtain ⟨⟨A, ca, B, h1, h2, h3, h4, h5, h6⟩, h7, h8, h9⟩ := lookA_ok hl hk
    simp only [gm, gmLL, AV.im.injEq] at h1
    obtain ⟨rfl, _⟩ := h1
    simp only [List.nil_append] at h3
    have hT := (G.v true j).2
    rcases h2 with ⟨cb, h2⟩ | ⟨_, b, h2, rfl⟩
    · simp only [gm] at h2
      rw [h2] at hT
      cases hT
    · have hs := S.new (.own k false t)
      simp only [gB, ownC_of h3, eB_flat] at hs
      refine ⟨_, ?_, hs⟩
      simp only [opA, hx, h2]
      simp only [gm, gn_big h7 h3, S.nx, List.length_map]
  · cases h
theorem isVt_spec {x : AV} (h : x.isVt = true) : ∃ i, x = .var true i := by
  unfold AV.isVt at h
  split at h
  · exact ⟨_, rfl⟩
  · cases h
theorem textOf_ok : ∀ {l : List AFact} {k : Nat} {x : AV}, HoldA ρ l → textOf l k = some x → (∃ i, x = .var true i) ∧ ∃ o by_, AHold ρ o 1 by_ (.im [] true) x k
  | [], _, _, _, h => by cases h
  | p :: l, k, x, hl, h => by
    unfold textOf at h
    split at h
    · rename_i he
      cases h
      simp only [Bool.and_eq_true, beq_iff_eq] at he
      obtain ⟨h1, h2, h3, h4⟩ := he
      have := hl p (by simp)
      rw [h1, h2, AV.beq_eq h3] at this
      exact ⟨isVt_spec h4, p.own, p.by_, this⟩
    · exact textOf_ok (fun q hq => hl q (List.mem_cons_of_mem _ hq)) h
theorem bytes_of (t : List UInt8) : toBytesX (t.map fun b => .int .u8 b.toNat) = some t := by
  induction t with
  | nil => rfl
  | cons b t ih =>
    have h1 : b.toNat < 256 := b.toNat_lt
    simp only [List.map_cons, toBytesX, ih, Option.map_some]
    rw [if_pos ⟨by omega, by omega⟩]
    simp
theorem ustS_ok (G : Good ρ) (hΦ : HoldF ρ Φ.ops) (hA : HoldA ρ Φ.apps) (S : Sim ρ s c) {t : Nat} {p n : AV} {p' n' : AO} (hp : p'.ev c = gm ρ p) (hn : n'.ev c = gm ρ n) (h : ustS Φ s t p n = some (v, s1)) : ∃ c1, opA c (.ust t p' n') = some (gm ρ v, c1) ∧ Sim ρ s1 c1 := by
  unfold ustS at h
  split at h
  · rename_i id
    split at h
    · rename_i k ty hg
      split at h
      · rename_i hty
        subst hty
        split at h
        · rename_i x hx
          split at h
          · rename_i m h1 h2
            split at h
            · rename_i hm
              cases h
              obtain ⟨⟨i, rfl⟩, o, by_, hh⟩ := textOf_ok hA hx
              obtain ⟨⟨A, ca, B, g1, g2, g3, g4, g5, g6⟩, g7, g8, g9⟩ := hh
              simp only [gm, gmLL, AV.im.injEq] at g1
              obtain ⟨rfl, _⟩ := g1
              simp only [List.nil_append] at g3
              simp only [List.length_nil, Nat.zero_add] at g5
              have hT := (G.v true i).2
              rcases g2 with ⟨cb, g2⟩ | ⟨_, b, g2, rfl⟩
              · simp only [gm] at g2
                rw [g2] at hT
                cases hT
              · have e1 := hΦ _ (lookF_mem h1) c
                simp only [AOp.gmO, AOp.mapO, AO.gmO, opA, AO.ev, g2, Option.some.injEq, Prod.mk.injEq, and_true] at e1
                have e2 := hΦ _ (lookF_mem h2) c
                rw [← AV.beq_eq hm] at hn e2
                simp only [AOp.gmO, AOp.mapO, AO.gmO, opA, AO.ev, gm, ← e1, binA, isSh, intBin] at e2
                have e3 : 0 < (b.length : Int) := by simpa using e2
                refine ⟨_, ?_, S.heap' (S.heap.kill id)⟩
                simp only [List.length_map] at g5
                have hr : rdAt (List.map (fun b => AV.int IntKind.u8 b.toNat) b) 0 b.length = some (List.map (fun b => AV.int IntKind.u8 b.toNat) b) := rdAt_all (by simp)
                have ho := S.heap.own hg
                rw [ownC_of g3, eB_flat] at ho
                simp only [opA, hp, hn, gm, ← e1, ho]
                simp only [gm] at g2
                rw [if_pos ⟨trivial, e3, by omega⟩]
                simp only [Int.toNat_natCast, hr, bytes_of, Option.map_some, g2]
            · cases h
          · cases h
        · cases h
      · cases h
    · cases h
  · cases h
/-- A text out of a row that is told. -/
theorem b2s_tell (G : Good ρ) (S : Sim ρ s c) {x u r : AV} {x' : AO} (hx : x'.ev c = gm ρ x) (h : tellX s 1 x = some u) (hu : opA c (.b2s (.c (gm ρ u))) = some (r, c)) : opA c (.b2s x') = some (r, c) := by
  have same : u = x → opA c (.b2s x') = some (r, c) := fun e => by
    subst e
    simp only [opA, hx]
    simpa only [opA, AO.ev] using hu
  have key : ∀ {id off n z : Nat} {q : Option Nat} {B : List (List AV)} {cb : Bool}, gm ρ x = .sl id off n z q → gm ρ u = .im B cb → (∀ e ∈ B, e.length = 1) → elemsOf c.h 1 (gm ρ x) = some (B.length, B.flatten) → opA c (.b2s x') = some (r, c) := fun {id off n z q B cb} h1 h2 h3 h4 => by
    simp only [opA, AO.ev, h2, elemsOf] at hu
    rw [if_pos (List.all_eq_true.2 fun e he => by simp [h3 e he])] at hu
    simp only [opA, hx, h4]
    rw [h1]
    exact hu
  unfold tellX at h
  split at h
  · cases h; exact same rfl
  · split at h
    · cases h; exact same rfl
    · cases h
  · split at h
    · cases h; exact same rfl
    · cases h
  · cases h; exact same rfl
  · rename_i id off n z cc
    split at h
    · rename_i hz
      subst hz
      split at h
      · rename_i j fz ty hg
        split at h
        · rename_i hc
          obtain ⟨rfl, rfl, hj⟩ := hc
          cases h
          obtain ⟨els, e1, e2, _⟩ := G.own _ hj
          simp only [gm] at key ⊢
          by_cases hall : ∀ e ∈ els, e.length = 1
          · refine key rfl e1 hall ?_
            have hfl : rdAt els.flatten 0 els.length = some els.flatten := rdAt_all (by have := flat_len hall; omega)
            simp only [elemsOf, if_true, S.heap.own hg, gn_big hj e1, ownC_of e1, Nat.mul_one, hfl, Option.map_some]
          · exfalso
            simp only [opA, AO.ev, gm, e1, elemsOf] at hu
            rw [if_neg (fun hq => hall fun e he => by simpa using List.all_eq_true.1 hq e he)] at hu
            cases hu
        · cases h
      · rename_i cs fz ty hg
        split at h
        · rename_i hn
          simp only [Option.map_eq_some_iff] at h
          obtain ⟨l, hl, rfl⟩ := h
          obtain ⟨h1, h2, h3⟩ := flat_chunk (sz := 1) (n := n) (l := l.map (gm ρ)) (by simpa using rdAt_len hl)
          have e1 : gm ρ (.sl id off n 1 cc) = .sl (ρ.σ id) off (gn ρ n) 1 cc := by simp only [gm]
          have e2 : gm ρ (.im (chunk 1 n l) true) = .im (chunk 1 n (l.map (gm ρ))) true := by simp only [gm, gmLL_map, ← chunk_gm]
          refine key e1 e2 h3 ?_
          simp only [gm, elemsOf, if_true, S.heap.cells hg, gn_small hn, rdAt_gm hl, Option.map_some, h1, h2]
        · cases h
      · cases h
    · cases h
  · cases h
theorem opS_ok (G : Good ρ) (hΦ : HoldF ρ Φ.ops) (hA : HoldA ρ Φ.apps) (hN : HoldN ρ Φ.apns) (S : Sim ρ s c) {o : AOp} (hset : SetIn s o.looks) (hcl : o.cl = true) (h : opS Φ s o = some (v, s1)) : ∃ c1, opA c o = some (gm ρ v, c1) ∧ Sim ρ s1 c1 := by
  unfold opS at h
  split at h
  · rename_i r hr
    cases h
    exact opB_ok G S hset hcl hr
  · split at h
    · rename_i ty sz by_ d x
      split at h
      · rename_i r hr
        cases h
        simp only [AOp.looks] at hset
        simp only [AOp.cl, Bool.and_eq_true] at hcl
        exact appS_ok G hA S (ev_sim S hset.left hcl.1) (ev_sim S hset.right hcl.2) hr
      · split at h
        · rename_i r hr
          cases h
          exact ⟨c, fact_ok S hΦ hset hcl hr, S⟩
        · cases h
    · rename_i ty sz by_ z d x
      simp only [AOp.looks] at hset
      simp only [AOp.cl, Bool.and_eq_true] at hcl
      exact appnS_ok G hN S (ev_sim S hset.left hcl.2.1) (ev_sim S hset.right hcl.2.2) h
    · simp only [AOp.looks] at hset
      simp only [AOp.cl] at hcl
      exact s2bS_ok G hA S (ev_sim S hset hcl) h
    · split at h
      · rename_i r hr
        cases h
        exact ⟨c, fact_ok S hΦ hset hcl hr, S⟩
      · split at h
        · rename_i u hu
          simp only [Option.map_eq_some_iff, Prod.mk.injEq] at h
          obtain ⟨r, hr, rfl, rfl⟩ := h
          simp only [AOp.looks] at hset
          simp only [AOp.cl] at hcl
          exact ⟨c, b2s_tell G S (ev_sim S hset hcl) hu (hΦ _ (lookF_mem hr) c), S⟩
        · cases h
    · simp only [AOp.looks] at hset
      simp only [AOp.cl, Bool.and_eq_true] at hcl
      exact ustS_ok G hΦ hA S (ev_sim S hset.left hcl.1) (ev_sim S hset.right hcl.2) h
    · rename_i t a b
      split at h
      · rename_i q hq
        cases h
        simp only [AOp.looks] at hset
        simp only [AOp.cl, Bool.and_eq_true] at hcl
        have e1 := ev_sim S hset.left hcl.1
        rw [truth_ok hΦ hq] at e1
        refine ⟨c, ?_, S⟩
        simp only [opA, e1]
        cases q <;> simp [ev_sim S hset.right.left hcl.2.1, ev_sim S hset.right.right hcl.2.2]
      · cases h
    · split at h
      · rename_i r hr
        cases h
        exact ⟨c, fact_ok S hΦ hset hcl hr, S⟩
      · cases h

theorem Sim.set (S : Sim ρ s c) (d : Option Nat) (v : AV) : Sim ρ (s.set d v) (c.set d (gm ρ v)) := by
  cases d with
  | none => exact S
  | some d =>
    refine ⟨fun t u hu => ?_, S.heap, S.nxs, S.lo⟩
    simp only [St.set, T.get_put] at hu ⊢
    by_cases e : d = t
    · rw [if_pos e] at hu ⊢; cases hu; rfl
    · rw [if_neg e] at hu ⊢; exact S.regs t u hu
theorem Sim.inits {args : List AV} {h g : T Blk} {n m : Nat} (H : HSim ρ h g) (hN : ∀ i, ρ.σ (n + i) = m + i) (hlo : ρ.lo ≤ n) : Sim ρ { r := inits 0 args .nil, h := h, nx := n } { r := inits 0 (args.map (gm ρ)) .nil, h := g, nx := m } := by
  refine ⟨fun t u hu => ?_, H, hN, hlo⟩
  simp only [inits_get, Nat.zero_le, true_and, Nat.zero_add, Nat.sub_zero, List.length_map, T.get_nil] at hu ⊢
  by_cases e : t < args.length
  · rw [if_pos e] at hu ⊢
    rw [List.getElem?_map, hu]; rfl
  · rw [if_neg e] at hu; cases hu
theorem res_sim (S : Sim ρ s c) {fn : AFn} (h : callFS.resS fn s = some v) : resA fn c = some (gm ρ v) := by
  unfold callFS.resS at h
  split at h
  · rename_i hset
    have hset := isSet_spec hset
    have one : ∀ {p : Nat × Option (Bool × Nat)} {u : AV}, (∃ x, s.r.get p.1 = some x) → resOneA s p = some u → resOneA c p = some (gm ρ u) := fun {p u} ⟨x, hx⟩ hu => by
      have hsx : s.rg p.1 = x := by simp [St.rg, hx]
      have hcx : c.rg p.1 = gm ρ x := by simp [St.rg, S.regs _ _ hx]
      unfold resOneA at hu ⊢
      rw [hsx] at hu
      rw [hcx]
      split at hu
      · cases hu; rfl
      · split at hu
        · rename_i cs hr
          rw [rdH_gm S.heap hr]
          exact ofCells_gm hu
        · cases hu
    have key : ∀ {l : List (Nat × Option (Bool × Nat))} {us : List AV}, SetIn s (l.map (·.1)) → mapO (resOneA s) l = some us → mapO (resOneA c) l = some (us.map (gm ρ)) := by
      intro l
      induction l with
      | nil => intro us _ e; cases e; rfl
      | cons p l ih =>
        intro us hs e
        unfold mapO at e ⊢
        split at e
        · cases e
        · rename_i u hu
          split at e
          · cases e
          · rename_i us' hus
            cases e
            rw [one (hs p.1 (by simp)) hu, ih (fun t ht => hs t (by simp at ht ⊢; exact .inr ht)) hus]
            rfl
    unfold resA at h ⊢
    split at h
    · rename_i u hu
      cases h
      rw [key hset hu]; rfl
    · rename_i us hne hu
      cases h
      rw [key hset hu]
      cases us with
      | nil => rfl
      | cons a us =>
        cases us with
        | nil => exact absurd rfl (hne a)
        | cons b us => simp only [List.map_cons, gm, gmL, gmL_map]
    · cases h
  · cases h
end
end Go.Proofs.Hz
