/-
  Regions whose order is drawn: two operations that are apart may change places (abstract; no machine in sight).
  Conditions: none (definitions and lemmas).
-/
import Derived.Test.YtpidaficnfaedaaHzB
namespace Go.Proofs.Hz

def AO.tm : AO → List Nat
  | .t n => [n]
  | .c _ => []
def AO.tmo : Option AO → List Nat
  | none => []
  | some x => x.tm
def AO.tml (l : List AO) : List Nat := l.flatMap AO.tm
def AO.tmp (l : List (Nat × Nat × AO)) : List Nat := l.flatMap fun p => p.2.2.tm
/-- The registers that an operation looks at. -/
def AOp.looks : AOp → List Nat
  | .mov x | .box x | .load _ _ x | .nilck x | .un _ x | .conv _ x | .mvs x | .b2s x | .faddr _ x | .fld _ _ _ x | .a2p _ x | .extr _ x | .len _ x | .cap x => x.tm
  | .pick c a b => c.tm ++ (a.tm ++ b.tm)
  | .alloc _ | .mkmap | .lenc _ | .fail => []
  | .build _ ps => AO.tmp ps
  | .bsl _ _ ps => AO.tmp ps
  | .store _ a x | .bin _ a x | .eqa _ _ a x | .eqn _ _ a x | .eqb _ a x | .iaA _ _ a x | .iaS _ a x | .ixA _ _ _ a x | .ixS a x | .mksl _ _ _ a x | .look _ _ _ a x | .app _ _ a x | .appn _ _ _ a x | .cpy _ a x | .mxi a x | .mni a x | .del _ a x => a.tm ++ x.tm
  | .mkfn _ a b => AO.tml a ++ AO.tml b
  | .slA _ _ x l h m | .slS _ x l h m => x.tm ++ (AO.tmo l ++ (AO.tmo h ++ AO.tmo m))
  | .slT x l h => x.tm ++ (AO.tmo l ++ AO.tmo h)
  | .mapup _ m k x => m.tm ++ (k.tm ++ x.tm)
  | .call f as => f.tm ++ AO.tml as
def AOper.looks (o : AOper) : List Nat := o.op.looks ++ (match o.guard with | some (t, _) => [t] | none => [])

section
variable {s : St} {r : T AV}

theorem ev_same {x : AO} (h : ∀ t ∈ x.tm, (r.get t).getD (.tup []) = s.rg t) : x.ev { s with r := r } = x.ev s := by
  cases x with
  | t n => exact h n (by simp [AO.tm])
  | c v => rfl
theorem evs_same : ∀ {l : List AO}, (∀ t ∈ AO.tml l, (r.get t).getD (.tup []) = s.rg t) → l.map (AO.ev { s with r := r }) = l.map (AO.ev s)
  | [], _ => rfl
  | x :: l, h => by
    simp only [List.map_cons]
    rw [ev_same (x := x) fun t ht => h t (by simp only [AO.tml, List.flatMap_cons, List.mem_append]; exact .inl ht), evs_same (l := l) fun t ht => h t (by simp only [AO.tml, List.flatMap_cons, List.mem_append] at ht ⊢; exact .inr ht)]
theorem evp_same : ∀ {l : List (Nat × Nat × AO)}, (∀ t ∈ AO.tmp l, (r.get t).getD (.tup []) = s.rg t) → evp { s with r := r } l = evp s l
  | [], _ => rfl
  | x :: l, h => by
    have ih := evp_same (l := l) fun t ht => h t (by simp only [AO.tmp, List.flatMap_cons, List.mem_append] at ht ⊢; exact .inr ht)
    unfold evp at ih ⊢
    simp only [List.map_cons]
    rw [ev_same (x := x.2.2) fun t ht => h t (by simp only [AO.tmp, List.flatMap_cons, List.mem_append]; exact .inl ht), ih]
theorem natOpt_same {d : Nat} {x : Option AO} (h : ∀ t ∈ AO.tmo x, (r.get t).getD (.tup []) = s.rg t) : natOpt { s with r := r } d x = natOpt s d x := by
  cases x with
  | none => rfl
  | some x => simp only [natOpt]; rw [ev_same h]
theorem bounds3_same {a b : Nat} {l h m : Option AO} (hl : ∀ t ∈ AO.tmo l, (r.get t).getD (.tup []) = s.rg t) (hh : ∀ t ∈ AO.tmo h, (r.get t).getD (.tup []) = s.rg t) (hm : ∀ t ∈ AO.tmo m, (r.get t).getD (.tup []) = s.rg t) :
    bounds3 { s with r := r } a b l h m = bounds3 s a b l h m := by
  unfold bounds3
  rw [natOpt_same hl, natOpt_same hh, natOpt_same hm]

/-- An operation sees of the registers only what it looks at, and writes none. -/
def withR (r : T AV) (p : AV × St) : AV × St := (p.1, { p.2 with r := r })

theorem opA_same {o : AOp} (h : ∀ t ∈ o.looks, (r.get t).getD (.tup []) = s.rg t) : opA { s with r := r } o = (opA s o).map (withR r) := by
  have hw : ∀ v : AV, withR r (v, s) = (v, { s with r := r }) := fun _ => rfl
  cases o <;> simp only [AOp.looks, List.mem_append] at h
  case mov x =>
    simp only [opA, ev_same h]
    (repeat' split) <;> simp_all [withR]
  case box x =>
    simp only [opA, ev_same h]
    (repeat' split) <;> simp_all [withR, St.new]
  case load g n x =>
    simp only [opA, ev_same h]
    (repeat' split) <;> simp_all [withR, Function.comp_def]
  case nilck x =>
    simp only [opA, ev_same h]
    (repeat' split) <;> simp_all [withR]
  case un op x =>
    simp only [opA, ev_same h]
    (repeat' split) <;> simp_all [withR, Function.comp_def]
  case conv k x =>
    simp only [opA, ev_same h]
    (repeat' split) <;> simp_all [withR]
  case mvs x =>
    simp only [opA, ev_same h]
    (repeat' split) <;> simp_all [withR]
  case b2s x =>
    simp only [opA, ev_same h]
    (repeat' split) <;> simp_all [withR, Function.comp_def]
  case faddr off x =>
    simp only [opA, ev_same h]
    (repeat' split) <;> simp_all [withR]
  case fld g off n x =>
    simp only [opA, ev_same h]
    (repeat' split) <;> simp_all [withR, Function.comp_def]
  case a2p n x =>
    simp only [opA, ev_same h]
    (repeat' split) <;> simp_all [withR]
  case extr i x =>
    simp only [opA, ev_same h]
    (repeat' split) <;> simp_all [withR, Function.comp_def]
  case len k x =>
    simp only [opA, ev_same h]
    (repeat' split) <;> simp_all [withR]
  case cap x =>
    simp only [opA, ev_same h]
    (repeat' split) <;> simp_all [withR]
  case store n a x =>
    simp only [opA, ev_same (x := a) fun t ht => h t (.inl ht), ev_same (x := x) fun t ht => h t (.inr ht)]
    (repeat' split) <;> simp_all [withR, Function.comp_def]
  case bin op a x =>
    simp only [opA, ev_same (x := a) fun t ht => h t (.inl ht), ev_same (x := x) fun t ht => h t (.inr ht)]
    (repeat' split) <;> simp_all [withR, Function.comp_def]
  case eqa neg ks a x =>
    simp only [opA, ev_same (x := a) fun t ht => h t (.inl ht), ev_same (x := x) fun t ht => h t (.inr ht)]
    (repeat' split) <;> simp_all [withR, Function.comp_def]
  case eqn k neg a x =>
    simp only [opA, ev_same (x := a) fun t ht => h t (.inl ht), ev_same (x := x) fun t ht => h t (.inr ht)]
    (repeat' split) <;> simp_all [withR]
  case eqb neg a x =>
    simp only [opA, ev_same (x := a) fun t ht => h t (.inl ht), ev_same (x := x) fun t ht => h t (.inr ht)]
    (repeat' split) <;> simp_all [withR]
  case iaA len sz a x =>
    simp only [opA, ev_same (x := a) fun t ht => h t (.inl ht), ev_same (x := x) fun t ht => h t (.inr ht)]
    (repeat' split) <;> simp_all [withR]
  case iaS sz a x =>
    simp only [opA, ev_same (x := a) fun t ht => h t (.inl ht), ev_same (x := x) fun t ht => h t (.inr ht)]
    (repeat' split) <;> simp_all [withR]
  case ixA g len sz a x =>
    simp only [opA, ev_same (x := a) fun t ht => h t (.inl ht), ev_same (x := x) fun t ht => h t (.inr ht)]
    (repeat' split) <;> simp_all [withR, Function.comp_def]
  case ixS a x =>
    simp only [opA, ev_same (x := a) fun t ht => h t (.inl ht), ev_same (x := x) fun t ht => h t (.inr ht)]
    (repeat' split) <;> simp_all [withR, Function.comp_def]
  case mksl sz b z a x =>
    simp only [opA, ev_same (x := a) fun t ht => h t (.inl ht), ev_same (x := x) fun t ht => h t (.inr ht)]
    (repeat' split) <;> simp_all [withR, St.new]
  case look kk z ok a x =>
    simp only [opA, ev_same (x := a) fun t ht => h t (.inl ht), ev_same (x := x) fun t ht => h t (.inr ht)]
    (repeat' split) <;> simp_all [withR]
  case app sz b a x =>
    simp only [opA, ev_same (x := a) fun t ht => h t (.inl ht), ev_same (x := x) fun t ht => h t (.inr ht)]
    (repeat' split) <;> simp_all [withR, St.new, Function.comp_def]
  case cpy sz a x =>
    simp only [opA, ev_same (x := a) fun t ht => h t (.inl ht), ev_same (x := x) fun t ht => h t (.inr ht)]
    (repeat' split) <;> simp_all [withR, Function.comp_def]
  case mxi a x =>
    simp only [opA, ev_same (x := a) fun t ht => h t (.inl ht), ev_same (x := x) fun t ht => h t (.inr ht)]
    (repeat' split) <;> simp_all [withR]
  case mni a x =>
    simp only [opA, ev_same (x := a) fun t ht => h t (.inl ht), ev_same (x := x) fun t ht => h t (.inr ht)]
    (repeat' split) <;> simp_all [withR]
  case del kk a x =>
    simp only [opA, ev_same (x := a) fun t ht => h t (.inl ht), ev_same (x := x) fun t ht => h t (.inr ht)]
    (repeat' split) <;> simp_all [withR, St.hp]
  case pick c a b =>
    simp only [opA, ev_same (x := c) fun t ht => h t (.inl ht), ev_same (x := a) fun t ht => h t (.inr (.inl ht)), ev_same (x := b) fun t ht => h t (.inr (.inr ht))]
    (repeat' split) <;> simp_all [withR]
  case mapup kk c a b =>
    simp only [opA, ev_same (x := c) fun t ht => h t (.inl ht), ev_same (x := a) fun t ht => h t (.inr (.inl ht)), ev_same (x := b) fun t ht => h t (.inr (.inr ht))]
    (repeat' split) <;> simp_all [withR, St.hp]
  case alloc z =>
    simp only [opA]
    (repeat' split) <;> simp_all [withR, St.new]
  case mkmap =>
    simp only [opA]
    (repeat' split) <;> simp_all [withR, St.new]
  case lenc n =>
    simp only [opA]
    (repeat' split) <;> simp_all [withR]
  case build z ps =>
    simp only [opA, evp_same h]
    (repeat' split) <;> simp_all [withR, Function.comp_def]
  case bsl sz z ps =>
    simp only [opA, evp_same h]
    (repeat' split) <;> simp_all [withR, St.new]
  case mkfn f a b =>
    simp only [opA, evs_same (l := a) fun t ht => h t (.inl ht), evs_same (l := b) fun t ht => h t (.inr ht)]
    (repeat' split) <;> simp_all [withR]
  case slA len sz x lo hi mx =>
    simp only [opA, ev_same (x := x) fun t ht => h t (.inl ht), bounds3_same (l := lo) (h := hi) (m := mx) (fun t ht => h t (.inr (.inl ht))) (fun t ht => h t (.inr (.inr (.inl ht)))) (fun t ht => h t (.inr (.inr (.inr ht))))]
    (repeat' split) <;> simp_all [withR]
  case slS sz x lo hi mx =>
    simp only [opA, ev_same (x := x) fun t ht => h t (.inl ht), bounds3_same (l := lo) (h := hi) (m := mx) (fun t ht => h t (.inr (.inl ht))) (fun t ht => h t (.inr (.inr (.inl ht)))) (fun t ht => h t (.inr (.inr (.inr ht))))]
    (repeat' split) <;> simp_all [withR]
  case slT x lo hi =>
    simp only [opA, ev_same (x := x) fun t ht => h t (.inl ht), bounds3_same (l := lo) (h := hi) (m := none) (fun t ht => h t (.inr (.inl ht))) (fun t ht => h t (.inr (.inr ht))) (fun t ht => by simp [AO.tmo] at ht)]
    (repeat' split) <;> simp_all [withR]
  case call f as => rfl
  case appn sz b z a x =>
    simp only [opA, ev_same (x := a) fun t ht => h t (.inl ht), ev_same (x := x) fun t ht => h t (.inr ht)]
    (repeat' split) <;> simp_all [withR, St.new]
  case fail => rfl

theorem rg_with (t : Nat) : St.rg { s with r := r } t = (r.get t).getD (.tup []) := rfl

section
variable {F : Nat → Option AFn} {K : Nat → List AV → Option AV} {ex : AC → St → Option (AE × St)}
theorem callF_same (f : Nat) (as : List AV) : callF F K ex f as { s with r := r } = (callF F K ex f as s).map (withR r) := by
  unfold callF
  cases F f with
  | none => rfl
  | some fn =>
    simp only
    by_cases hp : fn.pure = true
    · simp only [hp, if_true]
      cases mapO (frz s.h DEEP) as with
      | none => rfl
      | some as' =>
        simp only
        cases K f as' with
        | none => rfl
        | some v =>
          simp only
          split
          · rfl
          · cases fzL (fzs DEEP) s.h as <;> rfl
    · simp only [hp, if_false, Bool.false_eq_true]
      (repeat' split) <;> simp_all [withR]
theorem roundA_same (id : Nat) (as : List AV) : roundA ex id as { s with r := r } = (roundA ex id as s).map (withR r) := by
  unfold roundA
  simp only [St.hp]
  (repeat' split) <;> simp_all [withR]
theorem stepA_same {o : AOp} (h : ∀ t ∈ o.looks, (r.get t).getD (.tup []) = s.rg t) : stepA F K ex o { s with r := r } = (stepA F K ex o s).map (withR r) := by
  unfold stepA
  split
  · rename_i f as
    simp only [AOp.looks, List.mem_append] at h
    rw [ev_same (x := f) fun t ht => h t (.inl ht), evs_same (l := as) fun t ht => h t (.inr ht)]
    unfold callV
    split
    · exact callF_same _ _
    · exact roundA_same _ _
    · rfl
  · exact opA_same h
end

/-! ### What an operation sees of the heap -/
def T.Sub {α : Type} (a b : T α) : Prop := ∀ i x, a.get i = some x → b.get i = some x

theorem rdH_sub {h h' : T Blk} (hs : h.Sub h') {x : AV} {n : Nat} {cs : List AV} (e : rdH h x n = some cs) : rdH h' x n = some cs := by
  unfold rdH at e ⊢
  split
  · rename_i id off
    simp only at e
    split at e
    · rename_i l fz hg; rw [hs _ _ hg]; exact e
    · cases e
  · exact e
  · simp_all
theorem elemsOf_sub {h h' : T Blk} (hs : h.Sub h') {sz : Nat} {x : AV} {p : Nat × List AV} (e : elemsOf h sz x = some p) : elemsOf h' sz x = some p := by
  unfold elemsOf at e ⊢
  split
  · exact e
  · rename_i id off n z c
    simp only at e
    split at e
    · rename_i hz
      rw [if_pos hz]
      split at e
      · rename_i l fz hg; rw [hs _ _ hg]; exact e
      · cases e
    · cases e
  · exact e
  · simp_all

theorem read_ok {o : AOp} (hr : readOp o = true) {v : AV} {s' : St} (e : opA s o = some (v, s')) : s' = s := by
  cases o <;> simp only [readOp, Bool.false_eq_true] at hr
  all_goals
    simp only [opA] at e
    (repeat' split at e) <;> simp_all
  all_goals (obtain ⟨_, _, _, h3⟩ := e; exact h3.symm)
theorem read_sub {o : AOp} (hr : readOp o = true) {v : AV} {s' : St} (e : opA s o = some (v, s')) {h : T Blk} (hs : s.h.Sub h) : opA { s with h := h } o = some (v, { s with h := h }) := by
  have ev : ∀ x : AO, x.ev { s with h := h } = x.ev s := fun x => by cases x <;> rfl
  have eb : ∀ a b l m n, bounds3 { s with h := h } a b l m n = bounds3 s a b l m n := fun a b l m n => by
    unfold bounds3
    have : ∀ d x, natOpt { s with h := h } d x = natOpt s d x := fun d x => by cases x <;> simp [natOpt, ev]
    simp only [this]
  cases o <;> simp only [readOp, Bool.false_eq_true] at hr
  case load g n a =>
    simp only [opA, ev] at e ⊢
    split at e
    · rename_i cs hc
      rw [rdH_sub hs hc]
      simp only
      cases hv : ofCells g cs with
      | none => simp [hv] at e
      | some u => simp [hv] at e ⊢; exact e.1
    · cases e
  case look kk z ok m k =>
    simp only [opA, ev] at e ⊢
    split at e
    · rename_i id hm
      split at e
      · rename_i es hg
        rw [hs _ _ hg]
        simp only
        (repeat' split at e) <;> simp_all
      · cases e
    · cases e
  case b2s x =>
    simp only [opA, ev] at e ⊢
    split at e
    · rename_i n cs hc
      rw [elemsOf_sub hs hc]
      simp only
      split at e
      · cases e
      · cases hv : toBytes cs with
        | none => simp [hv] at e
        | some u => simp [hv] at e ⊢; exact e.1
    · cases e
  case slA len sz x lo hi mx =>
    simp only [opA, ev, eb] at e ⊢
    split at e
    · split at e
      · rename_i cs fz hg
        rw [hs _ _ hg]
        simp only
        (repeat' split at e) <;> simp_all
      · cases e
    · cases e
  case len k x =>
    simp only [opA, ev] at e ⊢
    split at e
    · simp_all
    · simp_all
    · simp_all
    · split at e
      · rename_i es hg
        rw [hs _ _ hg]
        simp_all
      · cases e
    · cases e

theorem quiet_same {o : AOp} (hq : quietOp o = true) {v : AV} {s' : St} (e : opA s o = some (v, s')) : s' = s := by
  cases o <;> simp only [quietOp, Bool.false_eq_true] at hq
  all_goals
    simp only [opA] at e
    (repeat' split at e) <;> simp_all
  all_goals (first | (rcases e with ⟨_, _, h3⟩ | ⟨_, _, h3⟩ <;> exact h3.symm) | (obtain ⟨_, _, _, h3⟩ := e; exact h3.symm))
def withH (h : T Blk) (n : Nat) (p : AV × St) : AV × St := (p.1, { p.2 with h := h, nx := n })
theorem quiet_ok {o : AOp} (hq : quietOp o = true) (h : T Blk) (n : Nat) : opA { s with h := h, nx := n } o = (opA s o).map (withH h n) := by
  have ev : ∀ x : AO, x.ev { s with h := h, nx := n } = x.ev s := fun x => by cases x <;> rfl
  have evs : ∀ l : List AO, l.map (AO.ev { s with h := h, nx := n }) = l.map (AO.ev s) := fun l => List.map_congr_left fun x _ => ev x
  have evps : ∀ l : List (Nat × Nat × AO), evp { s with h := h, nx := n } l = evp s l := fun l => List.map_congr_left fun x _ => by rw [ev]
  have eb : ∀ a b l m k, bounds3 { s with h := h, nx := n } a b l m k = bounds3 s a b l m k := fun a b l m k => by
    unfold bounds3
    have : ∀ d x, natOpt { s with h := h, nx := n } d x = natOpt s d x := fun d x => by cases x <;> simp [natOpt, ev]
    simp only [this]
  cases o <;> simp only [quietOp, Bool.false_eq_true] at hq
  all_goals
    simp only [opA, ev, evs, evps, eb]
    (repeat' split) <;> simp_all [withH, Function.comp_def]

theorem new_blk {o : AOp} (hn : newOp o = true) {v : AV} {s' : St} (e : opA s o = some (v, s')) :
    ∃ b, s' = s.new b ∧ ∀ h : T Blk, opA { s with h := h } o = some (v, St.new { s with h := h } b) := by
  have ev : ∀ (h : T Blk) (x : AO), x.ev { s with h := h } = x.ev s := fun h x => by cases x <;> rfl
  have evps : ∀ (h : T Blk) (l : List (Nat × Nat × AO)), evp { s with h := h } l = evp s l := fun h l => List.map_congr_left fun x _ => by rw [ev]
  cases o <;> simp only [newOp, Bool.false_eq_true] at hn
  all_goals
    simp only [opA, ev, evps] at e ⊢
    (repeat' split at e) <;> first | (cases e; done) | (cases e; exact ⟨_, rfl, fun h => by simp_all [St.new]⟩)
end
end Go.Proofs.Hz
