/-
  Symbolic runs, put to use: what stands for the unknown, given by lists; facts; a cut's state under new names.
  Conditions: none (definitions and lemmas).
-/
import Derived.Test.YtoonekkcjcjgmaaGreatHz1
import Derived.KernelRfl
namespace Go.Proofs.Hz

/-- What stands for the unknown, by lists: plain values, other values, rows that are the run's own (with the elements' size). -/
def valL (ts fs : List AV) (os : List (Nat × List (List AV))) (σ : Nat → Nat) (lo : Nat) : Val where
  v := fun fl i => if fl then ts.getD i (.bool false) else if i < BIG then fs.getD i .nilp else match os[(i - BIG) / 1000]? with
    | some (sz, l) => if i % 1000 = sz then .im l false else .im [] false
    | none => .im [] false
  σ := σ
  lo := lo

def AllP {α : Type} (P : α → Prop) : List α → Prop
  | [] => True
  | a :: as => P a ∧ AllP P as
theorem AllP.mem {α : Type} {P : α → Prop} : ∀ {l : List α}, AllP P l → ∀ a ∈ l, P a
  | [], _, _, h => by cases h
  | b :: l, h, a, ha => by
    rcases List.mem_cons.1 ha with rfl | ha
    · exact h.1
    · exact AllP.mem h.2 a ha
theorem AllP.append {α : Type} {P : α → Prop} : ∀ {l m : List α}, AllP P l → AllP P m → AllP P (l ++ m)
  | [], _, _, h => h
  | _ :: _, _, h, k => ⟨h.1, AllP.append h.2 k⟩

def OkT (v : AV) : Prop := plainV v = true ∧ v.flat = true ∧ AV.beq v v = true
def OkF (v : AV) : Prop := plainV v = true ∧ v.flat = false ∧ AV.beq v v = true
def OkO (p : Nat × List (List AV)) : Prop := (∀ e ∈ p.2, e.length = p.1) ∧ p.2.flatten.all plainV = true ∧ beqLL p.2 p.2 = true
/-- Each element of a row by its cells. -/
structure Enc {α : Type} (e : α → List AV) (sz : Nat) : Prop where
  len : ∀ x, (e x).length = sz
  plain : ∀ x, (e x).all plainV = true
  self : ∀ x, beqL (e x) (e x) = true
def eI (n : Int) : List AV := [.int .i64 n]
theorem eI_ok : Enc eI 1 := ⟨fun _ => rfl, fun _ => rfl, fun _ => by simp [eI, beqL, AV.beq]⟩
theorem Enc.selfLL {α : Type} {e : α → List AV} {sz : Nat} (h : Enc e sz) : ∀ l : List α, beqLL (l.map e) (l.map e) = true
  | [] => rfl
  | x :: l => by simp only [List.map_cons, beqLL, Bool.and_eq_true]; exact ⟨h.self x, h.selfLL l⟩
theorem OkT.int (k : IntKind) (n : Int) : OkT (.int k n) := ⟨rfl, rfl, by simp [AV.beq]⟩
theorem OkT.bool (b : Bool) : OkT (.bool b) := ⟨rfl, rfl, by simp [AV.beq]⟩
theorem OkT.str (b : List UInt8) : OkT (.str b) := ⟨rfl, rfl, by simp [AV.beq]⟩
theorem OkF.im {α : Type} {e : α → List AV} {sz : Nat} (h : Enc e sz) (l : List α) (b : Bool) : OkF (.im (l.map e) b) := ⟨rfl, rfl, by simp only [AV.beq, Bool.and_eq_true, h.selfLL l, beq_self_eq_true, and_self]⟩
theorem OkF.ip {α : Type} {e : α → List AV} {sz : Nat} (h : Enc e sz) (x : α) (o : Nat) : OkF (.ip (e x) o) := ⟨rfl, rfl, by simp only [AV.beq, Bool.and_eq_true, h.self x, beq_self_eq_true, and_self]⟩
theorem OkO.own {α : Type} {e : α → List AV} {sz : Nat} (h : Enc e sz) (l : List α) : OkO (sz, l.map e) := ⟨fun x hx => by
  obtain ⟨y, _, rfl⟩ := List.mem_map.1 hx
  exact h.len y, List.all_eq_true.2 fun y hy => by
  obtain ⟨x, hx, hy⟩ := List.mem_flatten.1 hy
  obtain ⟨z, _, rfl⟩ := List.mem_map.1 hx
  exact List.all_eq_true.1 (h.plain z) y hy, h.selfLL l⟩

theorem getD_all {P : AV → Prop} {d : AV} (hd : P d) {l : List AV} (h : AllP P l) (i : Nat) : P (l.getD i d) := by
  rw [List.getD_eq_getElem?_getD]
  cases e : l[i]? with
  | none => exact hd
  | some v => exact h.mem v (List.mem_of_getElem? e)
theorem valL_good {ts fs : List AV} {os : List (Nat × List (List AV))} {σ : Nat → Nat} {lo : Nat} (hσ : ∀ i j, σ i = σ j → i = j) (ht : AllP OkT ts) (hf : AllP OkF fs) (ho : AllP OkO os) : Good2 (valL ts fs os σ lo) := by
  have hv : ∀ fl i, plainV ((valL ts fs os σ lo).v fl i) = true ∧ ((valL ts fs os σ lo).v fl i).flat = fl ∧ AV.beq ((valL ts fs os σ lo).v fl i) ((valL ts fs os σ lo).v fl i) = true := fun fl i => by
    unfold valL
    cases fl with
    | true =>
      simp only [if_true]
      exact getD_all (P := OkT) (.bool false) ht i
    | false =>
      simp only [Bool.false_eq_true, if_false]
      split
      · exact getD_all (P := OkF) ⟨rfl, rfl, rfl⟩ hf i
      · split
        · rename_i sz l hl
          split
          · exact ⟨rfl, rfl, by simp only [AV.beq, Bool.and_eq_true, beq_self_eq_true, and_true]; exact (ho.mem _ (List.mem_of_getElem? hl)).2.2⟩
          · exact ⟨rfl, rfl, rfl⟩
        · exact ⟨rfl, rfl, rfl⟩
  refine ⟨⟨fun fl i => ⟨(hv fl i).1, (hv fl i).2.1⟩, hσ, fun k hk => ?_⟩, fun fl i => (hv fl i).2.2⟩
  unfold valL
  simp only [Bool.false_eq_true, if_false]
  rw [if_neg (by omega)]
  split
  · rename_i sz l hl
    split
    · rename_i hs
      obtain ⟨h1, h2, _⟩ := ho.mem _ (List.mem_of_getElem? hl)
      exact ⟨l, rfl, by rw [hs]; exact h1, h2⟩
    · exact ⟨[], rfl, (fun e he => by cases he), rfl⟩
  · exact ⟨[], rfl, (fun e he => by cases he), rfl⟩

/-! ### Facts -/
def FOp (ρ : Val) (p : AOp × AV) : Prop := ∀ s : St, opA s (p.1.gmO ρ) = some (gm ρ p.2, s)
theorem holdF_of {ρ : Val} {l : List (AOp × AV)} (h : AllP (FOp ρ) l) : HoldF ρ l := h.mem
def FApp (ρ : Val) (p : AFact) : Prop := AHold ρ p.own p.sz p.by_ p.b p.x p.k
theorem holdA_of {ρ : Val} {l : List AFact} (h : AllP (FApp ρ) l) : HoldA ρ l := h.mem
def FApn (ρ : Val) (p : NFact) : Prop := NHold ρ p.sz p.by_ p.z p.b p.n p.k
theorem holdN_of {ρ : Val} {l : List NFact} (h : AllP (FApn ρ) l) : HoldN ρ l := h.mem
def FCall [Gl] (F : Nat → Option AFn) (ρ : Val) (p : Nat × List AV × AV) : Prop := Spec F p.1 (p.2.1.map (gm ρ)) (gm ρ p.2.2)
theorem holdS_of {G : Gl} {F : Nat → Option AFn} {ρ : Val} {l : List (Nat × List AV × AV)} (h : AllP (FCall F ρ) l) : HoldS F ρ l := h.mem

section
variable {ρ : Val}
theorem fT {x : AV} {b c : Bool} (hx : gm ρ x = .bool b) (h : b = c) : FOp ρ (.mov (.c x), .bool c) := fun s => by
  subst h; simp only [AOp.gmO, AOp.mapO, AO.gmO, opA, AO.ev, hx, gm]
theorem fLen {α : Type} {e : α → List AV} {x r : AV} {l : List α} {b : Bool} (hx : gm ρ x = .im (l.map e) b) (hr : gm ρ r = .int .i64 (l.length : Int)) : FOp ρ (.len 0 (.c x), r) := fun s => by
  simp only [AOp.gmO, AOp.mapO, AO.gmO, opA, AO.ev, hx, hr, List.length_map]
theorem fIa {α : Type} {e : α → List AV} {sz : Nat} (he : Enc e sz) {x i : AV} {r : List AV} {l : List α} {b : Bool} {k : IntKind} {n : Int} {y : α} (hx : gm ρ x = .im (l.map e) b) (hi : gm ρ i = .int k n) (h0 : 0 ≤ n) (hy : l[n.toNat]? = some y) (hr : gm ρ (.ip r 0) = .ip (e y) 0) : FOp ρ (.iaS sz (.c x) (.c i), .ip r 0) := fun s => by
  simp only [AOp.gmO, AOp.mapO, AO.gmO, opA, AO.ev, hx, hi, hr, natOf, if_pos h0, List.getElem?_map, hy, Option.map_some, he.len, if_true]
theorem nat_of {x : AV} {k : IntKind} {n : Int} (hx : gm ρ x = .int k n) (h0 : 0 ≤ n) : natOf (gm ρ x) = some n.toNat := by rw [hx]; simp [natOf, h0]
def optN (s : Option (AV × Int)) (d : Int) : Int := match s with
  | some p => p.2
  | none => d
def optA (s : Option (AV × Int)) : Option AO := s.map fun p => .c p.1
def OptOk (ρ : Val) (s : Option (AV × Int)) : Prop := match s with
  | some p => ∃ k, gm ρ p.1 = .int k p.2
  | none => True
theorem natOpt_of {s : Option (AV × Int)} (h : OptOk ρ s) {d : Nat} (h0 : 0 ≤ optN s d) (st : St) : natOpt st d ((optA s).map (AO.gmO ρ)) = some (optN s d).toNat := by
  cases s with
  | none => simp [optA, natOpt, optN]
  | some p =>
    obtain ⟨k, hk⟩ := h
    simp only [optA, Option.map_some, natOpt, AO.gmO, AO.ev, hk, optN] at h0 ⊢
    simp [natOf, h0]
/-- A part of a row. -/
theorem fSl {α : Type} {e : α → List AV} {sz : Nat} (he : Enc e sz) {x r : AV} {l l' : List α} {b b' : Bool} {lo hi mx : Option (AV × Int)} (hx : gm ρ x = .im (l.map e) b) (hlo : OptOk ρ lo) (hhi : OptOk ρ hi) (hmx : OptOk ρ mx)
    (h : 0 ≤ optN lo 0 ∧ optN lo 0 ≤ optN hi l.length ∧ optN hi l.length ≤ optN mx l.length ∧ optN mx l.length ≤ l.length) (hm : mx.isSome → hi.isSome)
    (hl : l' = (l.drop (optN lo 0).toNat).take ((optN hi l.length).toNat - (optN lo 0).toNat)) (hb : b' = if mx.isSome then optN mx l.length == optN hi l.length else b && optN hi l.length == l.length)
    (hr : gm ρ r = .im (l'.map e) b') : FOp ρ (.slS sz (.c x) (optA lo) (optA hi) (optA mx), r) := fun s => by
  obtain ⟨h1, h2, h3, h4⟩ := h
  have e1 : natOpt s 0 ((optA lo).map (AO.gmO ρ)) = some (optN lo 0).toNat := natOpt_of (d := 0) hlo h1 s
  have e2 := natOpt_of (d := l.length) hhi (by omega) s
  have e3 := natOpt_of (d := l.length) hmx (by omega) s
  have hss : ∀ q : Option (AV × Int), ((optA q).map (AO.gmO ρ)).isSome = q.isSome := fun q => by cases q <;> rfl
  simp only [AOp.gmO, AOp.mapO, opA, AO.gmO, AO.ev, hx, bounds3, List.length_map, e1, e2, e3, hss]
  rw [if_pos ⟨by omega, by omega, by omega, hm⟩]
  simp only
  rw [if_pos (List.all_eq_true.2 fun y hy => by
    obtain ⟨z, _, rfl⟩ := List.mem_map.1 hy
    simp [he.len])]
  rw [hr, hl, hb]
  simp only [List.map_take, List.map_drop]
  congr 3
  by_cases hs : mx.isSome = true
  · rw [if_pos hs, if_pos hs]
    by_cases hq : optN mx (l.length : Int) = optN hi (l.length : Int)
    · rw [hq]; simp
    · rw [beq_eq_false_iff_ne.2 hq, beq_eq_false_iff_ne.2 (by omega)]
  · rw [if_neg hs, if_neg hs]
    congr 1
    by_cases hq : optN hi (l.length : Int) = (l.length : Int)
    · rw [hq]; simp
    · rw [beq_eq_false_iff_ne.2 hq, beq_eq_false_iff_ne.2 (by omega)]
/-- Rows, one behind the other. -/
theorem fApp {α : Type} {e : α → List AV} {sz by_ k : Nat} {own : Bool} {b x : AV} {l m : List α} {cb cx : Bool} (hb : gm ρ b = .im (l.map e) cb) (hx : gm ρ x = .im (m.map e) cx) (hk : ρ.v false k = .im ((l ++ m).map e) false)
    (hroom : (l.length + m.length) * by_ ≤ roomB ∧ l.length + m.length ≤ roomB) (ho : own = true ∨ cb = true ∧ m ≠ []) (hbig : BIG ≤ k) (hs : k % 1000 = sz) (hp : 0 < sz) : FApp ρ ⟨own, sz, by_, b, x, k⟩ := by
  refine ⟨⟨_, _, _, hb, .inl ⟨_, hx⟩, by rw [hk, List.map_append], by simpa using hroom.1, by simpa using hroom.2, fun hn => ?_⟩, hbig, hs, hp⟩
  rcases ho with h | h
  · rw [h] at hn; cases hn
  · exact ⟨h.1, fun e => h.2 (by simpa using e)⟩
theorem eB_ok : Enc eB 1 := ⟨fun _ => rfl, fun _ => by simp [eB, plainV], fun b => by simp [eB, beqL, AV.beq]⟩
/-- A text's bytes behind a row of bytes. -/
theorem fAppS {by_ k : Nat} {own : Bool} {b x : AV} {l t : List UInt8} {cb : Bool} (hb : gm ρ b = .im (l.map eB) cb) (hx : gm ρ x = .str t) (hk : ρ.v false k = .im ((l ++ t).map eB) false)
    (hroom : (l.length + t.length) * by_ ≤ roomB ∧ l.length + t.length ≤ roomB) (ho : own = true ∨ cb = true ∧ t ≠ []) (hbig : BIG ≤ k) (hs : k % 1000 = 1) : FApp ρ ⟨own, 1, by_, b, x, k⟩ := by
  refine ⟨⟨_, _, _, hb, .inr ⟨rfl, t, hx, rfl⟩, by rw [hk, List.map_append], by simpa using hroom.1, by simpa using hroom.2, fun hn => ?_⟩, hbig, hs, Nat.one_pos⟩
  rcases ho with h | h
  · rw [h] at hn; cases hn
  · exact ⟨h.1, fun e => h.2 (by simpa using e)⟩
/-- Nothing laid behind a row. -/
theorem fApp0 {ty sz by_ : Nat} {d x : AV} {A : List (List AV)} {ca c : Bool} (hd : gm ρ d = .im A ca) (hx : gm ρ x = .im [] c) (hp : 0 < sz) : FOp ρ (.app ty sz by_ (.c d) (.c x), d) := fun s => by
  simp [AOp.gmO, AOp.mapO, AO.gmO, opA, AO.ev, hd, hx, elemsOf, hp]
/-- Zeros behind a row. -/
theorem fApn {α : Type} {e : α → List AV} {sz by_ k : Nat} {b x : AV} {l : List α} {z : α} {n : Int} {kk : IntKind} (hb : gm ρ b = .im (l.map e) true) (hx : gm ρ x = .int kk n) (h0 : 0 < n) (hk : ρ.v false k = .im ((l ++ List.replicate n.toNat z).map e) false)
    (hroom : (l.length + n.toNat) * by_ ≤ roomB ∧ l.length + n.toNat ≤ roomB) (hbig : BIG ≤ k) (hs : k % 1000 = sz) (hp : 0 < sz) : FApn ρ ⟨sz, by_, e z, b, x, k⟩ :=
  ⟨⟨_, n.toNat, kk, hb, by rw [hx]; congr 1; omega, by omega, by rw [hk, List.map_append, List.map_replicate], by simpa using hroom.1, by simpa using hroom.2⟩, hbig, hs, hp⟩
end

section
variable {ρ : Val}
abbrev w64 (n : Int) : Int := IntKind.i64.wrap n
def bvT (op : BinOp) (k : IntKind) (x y : Int) : Int := (bvBits op k x y).getD 0
def shT (op : BinOp) (k : IntKind) (x y : Int) : Int := match shBin op k x y with
  | some (.int _ n) => n
  | _ => 0
theorem nT {P : Prop} [Decidable P] (h : P) : (!decide P) = false := by simp [h]
theorem nF {P : Prop} [Decidable P] (h : ¬ P) : (!decide P) = true := by simp [h]
theorem bF {b : Bool} (h : ¬ b = true) : b = false := by simpa using h
/-- The length of a row of the run's own. -/
theorem fLenOwn {α : Type} {e : α → List AV} {id j z : Nat} {l : List α} {r : AV} (hj : BIG ≤ j) (hv : ρ.v false j = .im (l.map e) false) (hr : gm ρ r = .int .i64 (l.length : Int)) : FOp ρ (.len 0 (.c (.sl id 0 j z none)), r) := fun s => by
  simp only [AOp.gmO, AOp.mapO, AO.gmO, opA, AO.ev, gm, gn_big hj hv, hr, List.length_map]
theorem fCap {α : Type} {e : α → List AV} {x r : AV} {l : List α} (hx : gm ρ x = .im (l.map e) true) (hr : gm ρ r = .int .i64 (l.length : Int)) : FOp ρ (.cap (.c x), r) := fun s => by
  simp only [AOp.gmO, AOp.mapO, AO.gmO, opA, AO.ev, hx, hr, List.length_map]
/-- A place in an array, by a number that is known. -/
theorem fIaP {len sz id o j : Nat} {i : AV} {k : IntKind} {n : Int} (hi : gm ρ i = .int k n) (h : n = (j : Nat)) (hj : j < len) : FOp ρ (.iaA len sz (.c (.ptr id o)) (.c i), .ptr id (o + j * sz)) := fun s => by
  subst h
  simp [AOp.gmO, AOp.mapO, AO.gmO, opA, AO.ev, gm, hi, natOf, hj]
theorem fIaI {len sz o j : Nat} {cs : List AV} {i : AV} {k : IntKind} {n : Int} (hi : gm ρ i = .int k n) (h : n = (j : Nat)) (hj : j < len) : FOp ρ (.iaA len sz (.c (.ip cs o)) (.c i), .ip cs (o + j * sz)) := fun s => by
  subst h
  simp [AOp.gmO, AOp.mapO, AO.gmO, opA, AO.ev, gm, hi, natOf, hj]
theorem fIxA {g : Bool} {len sz j : Nat} {cs : List AV} {l : List AV} {i r : AV} {k : IntKind} {n : Int} (hi : gm ρ i = .int k n) (h : n = (j : Nat)) (hj : j < len) (hl : rdAt (gmL ρ cs) (j * sz) sz = some l) (hr : ofCells g l = some (gm ρ r)) : FOp ρ (.ixA g len sz (.c (.agg cs)) (.c i), r) := fun s => by
  subst h
  simp [AOp.gmO, AOp.mapO, AO.gmO, opA, AO.ev, gm, hi, natOf, hj, hl, hr]
theorem fApp0s {ty sz by_ id off k : Nat} {x : AV} {m : Nat} {c : Bool} (hx : gm ρ x = .im [] c) (hp : 0 < sz) : FOp ρ (.app ty sz by_ (.c (.sl id off k sz (some m))) (.c x), .sl id off k sz (some m)) := fun s => by
  simp [AOp.gmO, AOp.mapO, AO.gmO, opA, AO.ev, gm, hx, elemsOf, hp]
theorem fQuo {k : IntKind} {a b : Int} {x y r : AV} (hx : gm ρ x = .int k a) (hy : gm ρ y = .int k b) (h : b ≠ 0) (hr : gm ρ r = .int k (k.wrap (a.tdiv b))) : FOp ρ (.bin .quo (.c x) (.c y), r) := fun s => by
  simp [AOp.gmO, AOp.mapO, AO.gmO, opA, AO.ev, hx, hy, hr, binA, isSh, intBin, h]
theorem fRem {k : IntKind} {a b : Int} {x y r : AV} (hx : gm ρ x = .int k a) (hy : gm ρ y = .int k b) (h : b ≠ 0) (hr : gm ρ r = .int k (a.tmod b)) : FOp ρ (.bin .rem (.c x) (.c y), r) := fun s => by
  simp [AOp.gmO, AOp.mapO, AO.gmO, opA, AO.ev, hx, hy, hr, binA, isSh, intBin, h]
end

theorem fSh {ρ : Val} {op : BinOp} {k k' : IntKind} {a b : Int} {x y r : AV} (ho : op = .shl ∨ op = .shr) (hx : gm ρ x = .int k a) (hy : gm ρ y = .int k' b) (h : 0 ≤ b) (hr : gm ρ r = .int k (shT op k a b)) : FOp ρ (.bin op (.c x) (.c y), r) := fun s => by
  have hn : ¬ b < 0 := by omega
  rcases ho with rfl | rfl <;> simp [AOp.gmO, AOp.mapO, AO.gmO, opA, AO.ev, hx, hy, hr, binA, isSh, shBin, shT, hn]
theorem fBv {ρ : Val} {op : BinOp} {k : IntKind} {a b : Int} {x y r : AV} (ho : op = .and ∨ op = .or ∨ op = .xor ∨ op = .andNot) (hx : gm ρ x = .int k a) (hy : gm ρ y = .int k b) (hr : gm ρ r = .int k (bvT op k a b)) : FOp ρ (.bin op (.c x) (.c y), r) := fun s => by
  rcases ho with rfl | rfl | rfl | rfl <;> simp [AOp.gmO, AOp.mapO, AO.gmO, opA, AO.ev, hx, hy, hr, binA, isSh, intBin, bvBits, bvT]
theorem drop_full {α : Type} (l : List α) (i : Nat) : l.drop i = (l.drop i).take (l.length - i) := by rw [List.take_of_length_le (by simp)]
/-- Nothing of a row of the run's own. -/
theorem fSlOwn0 {ρ : Val} {id j sz : Nat} {k : IntKind} : FOp ρ (.slS sz (.c (.sl id 0 j sz none)) none (some (.c (.int k 0))) none, .sl id 0 0 sz none) := fun s => by
  have h0 : gn ρ 0 = 0 := gn_small (by decide)
  simp [AOp.gmO, AOp.mapO, AO.gmO, opA, AO.ev, gm, bounds3, natOpt, natOf, h0]

/-! ### States by lists -/
def ofL {α : Type} : List (Nat × α) → T α
  | [] => .nil
  | (i, v) :: l => (ofL l).put i (some v)
theorem ofL_get {α : Type} : ∀ {l : List (Nat × α)} {t : Nat} {v : α}, (ofL l).get t = some v → (t, v) ∈ l
  | [], t, v, h => by rw [ofL, T.get_nil] at h; cases h
  | (i, w) :: l, t, v, h => by
    rw [ofL, T.get_put] at h
    split at h
    · rename_i e; cases h; subst e; simp
    · exact List.mem_cons_of_mem _ (ofL_get h)
namespace T
def dom {α : Type} : T α → List Nat
  | nil => []
  | node l v r => (if v.isSome then [0] else []) ++ ((dom l).map fun j => 2 * j + 1) ++ (dom r).map fun j => 2 * j + 2
theorem mem_dom {α : Type} : ∀ {t : T α} {n : Nat} {v : α}, t.get n = some v → n ∈ t.dom
  | nil, n, v, h => by rw [get_nil] at h; cases h
  | node l w r, n, v, h => by
    unfold get at h
    unfold dom
    simp only [List.mem_append, List.mem_map]
    split at h
    · rename_i h0
      left; left
      rw [h, h0]; simp
    · split at h
      · exact .inl (.inr ⟨n / 2, mem_dom h, by omega⟩)
      · exact .inr ⟨n / 2 - 1, mem_dom h, by omega⟩
end T

/-- New names for a cut's blocks: those that are kept ('ids'), and those from 'nx' on. -/
def sig (σ : Nat → Nat) (ids : List Nat) (nx : Nat) (j : Nat) : Nat := if j < ids.length then σ (ids.getD j 0) else σ (nx + (j - ids.length))
theorem sig_inj {σ : Nat → Nat} (hσ : ∀ i j, σ i = σ j → i = j) {ids : List Nat} {nx : Nat} (hn : ids.Nodup) (hl : ∀ i ∈ ids, i < nx) : ∀ i j, sig σ ids nx i = sig σ ids nx j → i = j := fun i j h => by
  unfold sig at h
  have hg : ∀ i, i < ids.length → ids.getD i 0 ∈ ids := fun i hi => by rw [List.getD_eq_getElem?_getD, List.getElem?_eq_getElem hi]; simp
  split at h
  · rename_i hi
    split at h
    · rename_i hj
      have := hσ _ _ h
      rw [List.getD_eq_getElem?_getD, List.getD_eq_getElem?_getD, List.getElem?_eq_getElem hi, List.getElem?_eq_getElem hj] at this
      simp only [Option.getD_some] at this
      exact (List.getElem_inj hn).1 this
    · have := hσ _ _ h
      have := hl _ (hg i hi)
      omega
  · split at h
    · rename_i hj
      have := hσ _ _ h
      have := hl _ (hg j hj)
      omega
    · have := hσ _ _ h; omega

/-- What is kept of a cut's state: registers, blocks, the next block's number. -/
def keep (ts ids : List Nat) : Option Stop → Option (List Fr × AC × List AV × List Blk × Nat)
  | some (.cut k a s) => match mapO s.r.get ts, mapO s.h.get ids with
    | some vs, some bs => if s.h.dom.all (fun i => decide (i < s.nx)) && (decide ids.Nodup && ids.all (fun i => decide (i < s.nx))) then some (k, a, vs, bs, s.nx) else none
    | _, _ => none
  | _ => none
def idx {α : Type} : Nat → List α → List (Nat × α)
  | _, [] => []
  | i, a :: as => (i, a) :: idx (i + 1) as
theorem idx_mem {α : Type} : ∀ {l : List α} {i j : Nat} {a : α}, (j, a) ∈ idx i l → i ≤ j ∧ l[j - i]? = some a
  | [], _, _, _, h => by cases h
  | b :: l, i, j, a, h => by
    unfold idx at h
    rcases List.mem_cons.1 h with h | h
    · cases h; simp
    · obtain ⟨h1, h2⟩ := idx_mem h
      refine ⟨by omega, ?_⟩
      rw [show j - i = (j - (i + 1)) + 1 by omega, List.getElem?_cons_succ]
      exact h2
theorem mapO_get {α β : Type} {f : α → Option β} : ∀ {l : List α} {r : List β}, mapO f l = some r → r.length = l.length ∧ ∀ (j : Nat) (a : α), l[j]? = some a → ∃ b, r[j]? = some b ∧ f a = some b
  | [], r, h => by cases h; exact ⟨rfl, fun j a h => by simp at h⟩
  | a :: l, r, h => by
    unfold mapO at h
    split at h
    · cases h
    · rename_i b hb
      split at h
      · cases h
      · rename_i bs hbs
        cases h
        obtain ⟨h1, h2⟩ := mapO_get hbs
        refine ⟨by simp [h1], fun j x hx => ?_⟩
        cases j with
        | zero => simp at hx; subst hx; exact ⟨b, rfl, hb⟩
        | succ j => simp only [List.getElem?_cons_succ] at hx ⊢; exact h2 j x hx

def tmpl (ts : List Nat) (vs : List AV) (bs : List Blk) : St := { r := ofL (ts.zip vs), h := ofL (idx 0 bs), nx := bs.length }

section
variable {G : Gl} {F : Nat → Option AFn} {ρ : Val} {Φ : Facts} {stops : List Nat}
/-- A cut, and its state under new names. -/
theorem J_next (H : Hold F ρ Φ) {n : Nat} {fn : AFn} {k k1 : List Fr} {cfg : Cfg} {a : AC} {s c : St} {r : AV} (S : Sim ρ s c) {ts ids : List Nat} {vs : List AV} {bs : List Blk} {nx : Nat}
    (h : keep ts ids (stepK Φ F stops n k cfg s) = some (k1, a, vs, bs, nx)) (ws : List AV) (cs : List Blk) (ρ' : Val) {X : List AV} {Y : List Blk}
    (hσ : ρ'.σ = sig ρ.σ ids nx) (hlo : ρ'.lo = cs.length) (hv1 : vs.map (gm ρ) = X) (hv2 : ws.map (gm ρ') = X) (hb1 : bs.map (gB ρ) = Y) (hb2 : cs.map (gB ρ') = Y)
    (hj : ∀ c1, (∀ i j, ρ'.σ i = ρ'.σ j → i = j) → Sim ρ' (tmpl ts ws cs) c1 → J F fn k1 (.code a) c1 r) : J F fn k cfg c r := by
  have hv := hv1.trans hv2.symm
  have hb := hb1.trans hb2.symm
  unfold keep at h
  split at h
  · rename_i k2 a2 s2 hx
    split at h
    · rename_i vs2 bs2 h1 h2
      split at h
      · rename_i hc
        cases h
        simp only [Bool.and_eq_true, decide_eq_true_eq] at hc
        obtain ⟨hd, hn, hl⟩ := hc
        have hl' : ∀ i ∈ ids, i < s2.nx := fun i hi => by simpa using List.all_eq_true.1 hl i hi
        obtain ⟨v1, v2⟩ := mapO_get h1
        obtain ⟨b1, b2⟩ := mapO_get h2
        have hcl : cs.length = ids.length := by rw [← b1]; have := congrArg List.length hb; simpa using this.symm
        refine J_cut H S hx fun c1 S1 => hj c1 (by rw [hσ]; exact sig_inj H.good.1.inj hn hl') ?_
        have hinj : ∀ i j, ρ'.σ i = ρ'.σ j → i = j := by rw [hσ]; exact sig_inj H.good.1.inj hn hl'
        refine ⟨fun t v hv' => ?_, ⟨fun id k hk => ?_, fun id hid hno => ?_, hinj⟩, fun i => ?_, ?_⟩
        · have hm := ofL_get (show (ofL (ts.zip ws)).get t = some v from hv')
          obtain ⟨j, hj1⟩ := List.getElem?_of_mem hm
          rw [List.getElem?_zip_eq_some] at hj1
          obtain ⟨u, hu1, hu2⟩ := v2 j t hj1.1
          have e1 := congrArg (·[j]?) hv
          simp only [List.getElem?_map, hu1, hj1.2, Option.map_some, Option.some.injEq] at e1
          rw [S1.regs t u hu2, e1]
        · have hm := ofL_get (show (ofL (idx 0 cs)).get id = some k from hk)
          obtain ⟨_, hj1⟩ := idx_mem hm
          rw [Nat.sub_zero] at hj1
          have hlt : id < ids.length := by rw [← hcl]; exact (List.getElem?_eq_some_iff.1 hj1).1
          obtain ⟨u, hu1, hu2⟩ := b2 id (ids.getD id 0) (by rw [List.getD_eq_getElem?_getD, List.getElem?_eq_getElem hlt]; rfl)
          have e1 := congrArg (·[id]?) hb
          simp only [List.getElem?_map, hu1, hj1, Option.map_some, Option.some.injEq] at e1
          have : ρ'.σ id = ρ.σ (ids.getD id 0) := by rw [hσ]; unfold sig; rw [if_pos hlt]
          rw [this, S1.heap.get _ _ hu2, e1]
        · rw [hlo] at hid
          have hge : ¬ id < ids.length := by omega
          have : ρ'.σ id = ρ.σ (s2.nx + (id - ids.length)) := by rw [hσ]; unfold sig; rw [if_neg hge]
          rw [this]
          refine S1.heap.absent _ (Nat.le_trans S1.lo (Nat.le_add_right _ _)) ?_
          cases hg : s2.h.get (s2.nx + (id - ids.length)) with
          | none => rfl
          | some k =>
            have := List.all_eq_true.1 hd _ (T.mem_dom hg)
            simp at this
            omega
        · show ρ'.σ (cs.length + i) = c1.nx + i
          rw [hσ]; unfold sig
          rw [if_neg (by omega), show s2.nx + (cs.length + i - ids.length) = s2.nx + i by omega]
          exact S1.nxs i
        · rw [hlo]; exact Nat.le_refl _
      · cases h
    · cases h
  · cases h
/-- The same state, with more told. -/
theorem Sim.more {ρ ρ' : Val} {ts : List Nat} {ws : List AV} {cs : List Blk} {X : List AV} {Y : List Blk} {c : St} {s0 : Nat → Nat} {n0 : Nat} (S : Sim ρ (tmpl ts ws cs) c) (hσ1 : ρ.σ = s0) (hσ2 : ρ'.σ = s0) (hlo1 : ρ.lo = n0) (hlo2 : ρ'.lo = n0) (hv1 : ws.map (gm ρ) = X) (hb1 : cs.map (gB ρ) = Y) (hv2 : ws.map (gm ρ') = X) (hb2 : cs.map (gB ρ') = Y) : Sim ρ' (tmpl ts ws cs) c := by
  have hv := hv1.trans hv2.symm
  have hb := hb1.trans hb2.symm
  have hσ := hσ2.trans hσ1.symm
  have hlo := hlo2.trans hlo1.symm
  refine ⟨fun t v h => ?_, ⟨fun id k hk => ?_, fun id h1 h2 => ?_, by rw [hσ]; exact S.heap.inj⟩, by rw [hσ]; exact S.nxs, by rw [hlo]; exact S.lo⟩
  · have hm := ofL_get (show (ofL (ts.zip ws)).get t = some v from h)
    have hw := List.of_mem_zip hm
    obtain ⟨j, hj⟩ := List.getElem?_of_mem hw.2
    have e1 := congrArg (·[j]?) hv
    simp only [List.getElem?_map, hj, Option.map_some, Option.some.injEq] at e1
    rw [S.regs t v h, e1]
  · have hm := ofL_get (show (ofL (idx 0 cs)).get id = some k from hk)
    obtain ⟨_, hj⟩ := idx_mem hm
    have e1 := congrArg (·[id - 0]?) hb
    simp only [List.getElem?_map, hj, Option.map_some, Option.some.injEq] at e1
    rw [hσ, S.heap.get _ _ hk, e1]
  · rw [hσ]; exact S.heap.absent id (by rw [← hlo]; exact h1) h2
theorem jE {fn : AFn} {k : List Fr} {cfg : Cfg} {c : St} {R r : AV} (h : some R = some r) (hj : J F fn k cfg c R) : J F fn k cfg c r := by cases h; exact hj
theorem jR {fn : AFn} {k : List Fr} {cfg : Cfg} {c : St} {R r : AV} (e : R = r) (hj : J F fn k cfg c R) : J F fn k cfg c r := e ▸ hj
/-- A function's code, and where it begins. -/
def fnOf (F : Nat → Option AFn) (f : Nat) : AFn := match F f with
  | some fn => fn
  | none => ⟨0, [], .skip, false⟩
theorem spec_begin {f : Nat} (hF : F f = some (fnOf F f)) {xs bs : List AV} {r : AV} (hσ : ρ.σ = fun i => i) (hlo : ρ.lo = 0) (hb : xs.map (gm ρ) = bs) (h : ∀ c, Sim ρ (tmpl (List.range xs.length) xs []) c → J F (fnOf F f) [] (.code (fnOf F f).body) c r) (hX : Gl.X f = none := by kernel_rfl) : Spec F f bs r := by
  rw [← hb]
  refine spec_J hF hX (h _ ⟨fun t v hv => ?_, ⟨fun id k hk => ?_, fun id _ _ => T.get_nil _, fun i j e => by rw [hσ] at e; exact e⟩, fun i => by rw [hσ]; rfl, by rw [hlo]; exact Nat.zero_le _⟩)
  · have hm := ofL_get (show (ofL ((List.range xs.length).zip xs)).get t = some v from hv)
    obtain ⟨j, hj⟩ := List.getElem?_of_mem hm
    rw [List.getElem?_zip_eq_some] at hj
    have hlt : j < xs.length := (List.getElem?_eq_some_iff.1 hj.2).1
    have hjt : j = t := by
      have := hj.1
      rw [List.getElem?_range hlt] at this
      exact Option.some.inj this
    subst hjt
    show (inits 0 (xs.map (gm ρ)) .nil).get j = some (gm ρ v)
    rw [inits_get]
    simp only [Nat.zero_le, true_and, Nat.zero_add, Nat.sub_zero, List.length_map, hlt, if_true, List.getElem?_map, hj.2, Option.map_some]
  · rw [show (tmpl (List.range xs.length) xs []).h.get id = none from T.get_nil _] at hk; cases hk
/-- The begin of a function. -/
theorem spec_start {f : Nat} {fn : AFn} (hF : F f = some fn) {as : List AV} {r : AV} (hσ : ρ.σ = fun i => i) (hlo : ρ.lo = 0) (h : ∀ c, Sim ρ { r := inits 0 as .nil, h := .nil, nx := 0 } c → J F fn [] (.code fn.body) c r) (hX : Gl.X f = none := by kernel_rfl) : Spec F f (as.map (gm ρ)) r :=
  spec_J hF hX (h _ (Sim.inits ⟨(fun i k hk => by rw [T.get_nil] at hk; cases hk), (fun _ _ _ => rfl), (fun i j e => by rw [hσ] at e; exact e)⟩ (fun i => by rw [hσ]) (by rw [hlo]; exact Nat.le_refl _)))
end

/-! ### What is computed, as a term -/
theorem iteE {β : Type} {P : Prop} [Decidable P] {a b : Option β} {r : β} {Q : Prop} (h : (if P then a else b) = some r) (h1 : P → a = some r → Q) (h2 : ¬ P → b = some r → Q) : Q := by
  by_cases hp : P
  · rw [if_pos hp] at h; exact h1 hp h
  · rw [if_neg hp] at h; exact h2 hp h
def letB {α β : Type} (e : α) (f : α → Option β) : Option β := f e
theorem bindE {α β : Type} {o : Option α} {f : α → Option β} {r : β} {Q : Prop} (h : o.bind f = some r) (h1 : ∀ x, o = some x → f x = some r → Q) : Q := by
  cases o with
  | none => cases h
  | some x => exact h1 x rfl h
theorem letE {α β : Type} {e : α} {f : α → Option β} {r : β} {Q : Prop} (h : letB e f = some r) (h1 : ∀ x, x = e → f x = some r → Q) : Q := h1 e rfl h
theorem reqE {β : Type} {P : Prop} [Decidable P] {a : Option β} {r : β} {Q : Prop} (h : (if P then a else none) = some r) (h1 : P → a = some r → Q) : Q := by
  by_cases hp : P
  · rw [if_pos hp] at h; exact h1 hp h
  · rw [if_neg hp] at h; cases h
theorem AllP.n {α : Type} {P : α → Prop} : AllP P [] := trivial
theorem AllP.c {α : Type} {P : α → Prop} {a : α} {l : List α} (h : P a) (t : AllP P l) : AllP P (a :: l) := ⟨h, t⟩
/-- Facts that hold as they are. -/
theorem rflF {ρ : Val} : ∀ {l : List (AOp × AV)}, (∀ s : St, l.map (fun p => opA s (p.1.gmO ρ)) = l.map (fun p => some (gm ρ p.2, s))) → AllP (FOp ρ) l
  | [], _ => trivial
  | _ :: _, h => ⟨fun s => (List.cons.inj (h s)).1, rflF fun s => (List.cons.inj (h s)).2⟩
/-- Unknown ones, one after the other. -/
def vT (i n : Nat) : List AV := (List.range n).map fun j => .var true (i + j)
def vF (i n : Nat) : List AV := (List.range n).map fun j => .var false (i + j)
/-- Short names. -/
def vt (i : Nat) : AV := .var true i
def vf (i : Nat) : AV := .var false i
def cT (i : Nat) : AO := .c (.var true i)
def cF (i : Nat) : AO := .c (.var false i)
def cI (n : Int) : AO := .c (.int .i64 n)
def mT (i : Nat) : AOp × AV := (.mov (.c (.var true i)), .bool true)
def mF (i : Nat) : AOp × AV := (.mov (.c (.var true i)), .bool false)
def isT : AV → Bool
  | .int _ _ => true
  | .bool _ => true
  | .str _ => true
  | _ => false
theorem okL : ∀ {l : List AV}, l.all isT = true → AllP OkT l
  | [], _ => trivial
  | x :: l, h => by
    simp only [List.all_cons, Bool.and_eq_true] at h
    refine ⟨?_, okL h.2⟩
    cases x <;> simp only [isT, Bool.false_eq_true] at h <;> first | exact .int _ _ | exact .bool _ | exact .str _ | exact h.1.elim
/-- One row of values behind another one. -/
def ap (a b : List AV) : List AV := List.append a b
theorem AllP.ap {P : AV → Prop} {l m : List AV} (h : AllP P l) (k : AllP P m) : AllP P (Hz.ap l m) := AllP.append h k
/-- What is known of a call, put to use. -/
theorem sC {G : Gl} {F : Nat → Option AFn} {ρ : Val} {f : Nat} {as bs : List AV} {r q : AV} (h : Spec F f bs q) (h1 : as.map (gm ρ) = bs) (h2 : gm ρ r = q) : FCall F ρ (f, as, r) := by
  unfold FCall
  rw [h1, h2]; exact h
theorem fCat {ρ : Val} {a b : List UInt8} {x y r : AV} (hx : gm ρ x = .str a) (hy : gm ρ y = .str b) (h : a.length + b.length ≤ 140737488355328) (hr : gm ρ r = .str (a ++ b)) : FOp ρ (.bin .add (.c x) (.c y), r) := fun s => by
  simp [AOp.gmO, AOp.mapO, AO.gmO, opA, AO.ev, hx, hy, hr, binA, strBin, h]
end Go.Proofs.Hz
