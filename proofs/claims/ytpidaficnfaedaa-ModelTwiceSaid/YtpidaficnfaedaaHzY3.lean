/-
  Symbolic runs: facts, calls, regions, code.
  Conditions: none (definitions).
-/
import Derived.Test.YtpidaficnfaedaaHzY2
namespace Go.Proofs.Hz

def AOp.mapO (f : AO → AO) : AOp → AOp
  | .mov x => .mov (f x)
  | .pick c a b => .pick (f c) (f a) (f b)
  | .alloc z => .alloc z
  | .box x => .box (f x)
  | .build z ps => .build z (ps.map fun p => (p.1, p.2.1, f p.2.2))
  | .bsl sz z ps => .bsl sz z (ps.map fun p => (p.1, p.2.1, f p.2.2))
  | .load g n a => .load g n (f a)
  | .store n a x => .store n (f a) (f x)
  | .nilck x => .nilck (f x)
  | .bin op x y => .bin op (f x) (f y)
  | .eqa neg ks x y => .eqa neg ks (f x) (f y)
  | .eqn k neg x y => .eqn k neg (f x) (f y)
  | .eqb neg x y => .eqb neg (f x) (f y)
  | .un op x => .un op (f x)
  | .conv k x => .conv k (f x)
  | .mvs x => .mvs (f x)
  | .b2s x => .b2s (f x)
  | .mkfn g a b => .mkfn g (a.map f) (b.map f)
  | .faddr off x => .faddr off (f x)
  | .fld g off n x => .fld g off n (f x)
  | .iaA n sz x i => .iaA n sz (f x) (f i)
  | .iaS sz x i => .iaS sz (f x) (f i)
  | .ixA g n sz x i => .ixA g n sz (f x) (f i)
  | .ixS x i => .ixS (f x) (f i)
  | .slA n sz x lo hi mx => .slA n sz (f x) (lo.map f) (hi.map f) (mx.map f)
  | .slS sz x lo hi mx => .slS sz (f x) (lo.map f) (hi.map f) (mx.map f)
  | .slT x lo hi => .slT (f x) (lo.map f) (hi.map f)
  | .a2p n x => .a2p n (f x)
  | .mksl sz b z l c => .mksl sz b z (f l) (f c)
  | .mkmap => .mkmap
  | .look kk z ok m k => .look kk z ok (f m) (f k)
  | .mapup kk m k x => .mapup kk (f m) (f k) (f x)
  | .extr i x => .extr i (f x)
  | .app sz b d x => .app sz b (f d) (f x)
  | .appn sz b z d x => .appn sz b z (f d) (f x)
  | .cpy sz d x => .cpy sz (f d) (f x)
  | .len k x => .len k (f x)
  | .lenc n => .lenc n
  | .cap x => .cap (f x)
  | .mxi x y => .mxi (f x) (f y)
  | .mni x y => .mni (f x) (f y)
  | .del kk m k => .del kk (f m) (f k)
  | .call g as => .call (f g) (as.map f)
  | .fail => .fail

/-- An operation with its operands' values put in. -/
def AOp.inst (s : St) (o : AOp) : AOp := o.mapO fun x => .c (x.ev s)
def AO.gmO (ρ : Val) : AO → AO
  | .t n => .t n
  | .c v => .c (gm ρ v)
def AOp.gmO (ρ : Val) (o : AOp) : AOp := o.mapO (AO.gmO ρ)

theorem opA_inst (s : St) (o : AOp) : opA s (o.inst s) = opA s o := by
  have hl : ∀ l : List AO, (l.map fun x => AO.c (x.ev s)).map (AO.ev s) = l.map (AO.ev s) := fun l => by rw [List.map_map]; rfl
  have hp : ∀ l : List (Nat × Nat × AO), evp s (l.map fun p => (p.1, p.2.1, AO.c (p.2.2.ev s))) = evp s l := fun l => by unfold evp; rw [List.map_map]; rfl
  have hn : ∀ d (x : Option AO), natOpt s d (x.map fun x => AO.c (x.ev s)) = natOpt s d x := fun d x => by cases x <;> rfl
  have hs : ∀ x : Option AO, (x.map fun x => AO.c (x.ev s)).isSome = x.isSome := fun x => by cases x <;> rfl
  have hb : ∀ a b (l h m : Option AO), bounds3 s a b (l.map fun x => AO.c (x.ev s)) (h.map fun x => AO.c (x.ev s)) (m.map fun x => AO.c (x.ev s)) = bounds3 s a b l h m := fun a b l h m => by
    unfold bounds3; simp only [hn, hs]
  have hb0 : ∀ a b (l h : Option AO), bounds3 s a b (l.map fun x => AO.c (x.ev s)) (h.map fun x => AO.c (x.ev s)) none = bounds3 s a b l h none := fun a b l h => hb a b l h none
  have hc : ∀ v, AO.ev s (.c v) = v := fun _ => rfl
  cases o <;> simp only [AOp.inst, AOp.mapO, opA, hc, hl, hp, hb, hb0, hs]

/-- A row behind another one ('b', then 'x') is the row that is named by 'k'. 'own': the first one belongs to the run, and is used up. -/
structure AFact where
  own : Bool
  sz : Nat
  by_ : Nat
  b : AV
  x : AV
  k : Nat
/-- A row ('b') and behind it as many zeros ('z') as 'n' tells are the row that is named by 'k'. -/
structure NFact where
  sz : Nat
  by_ : Nat
  z : List AV
  b : AV
  n : AV
  k : Nat
/-- What a region's or a path's facts are: an operation on values, and what it comes to; rows laid together; a call on values, and what it comes to. -/
structure Facts where
  ops : List (AOp × AV)
  apps : List AFact
  apns : List NFact
  calls : List (Nat × List AV × AV)

def AO.eqB : AO → AO → Bool
  | .c a, .c b => AV.beq a b
  | _, _ => false
def AO.eqO : Option AO → Option AO → Bool
  | none, none => true
  | some a, some b => a.eqB b
  | _, _ => false
/-- The same operation? (Only those that facts are told of.) -/
def AOp.eqB : AOp → AOp → Bool
  | .mov x, .mov x' => x.eqB x'
  | .bin op x y, .bin op' x' y' => decide (op = op') && (x.eqB x' && y.eqB y')
  | .un op x, .un op' x' => decide (op = op') && x.eqB x'
  | .conv k x, .conv k' x' => decide (k = k') && x.eqB x'
  | .len k x, .len k' x' => k == k' && x.eqB x'
  | .eqa n ks x y, .eqa n' ks' x' y' => n == n' && (ks == ks' && (x.eqB x' && y.eqB y'))
  | .eqn k n x y, .eqn k' n' x' y' => k == k' && (n == n' && (x.eqB x' && y.eqB y'))
  | .eqb n x y, .eqb n' x' y' => n == n' && (x.eqB x' && y.eqB y')
  | .iaS sz x i, .iaS sz' x' i' => sz == sz' && (x.eqB x' && i.eqB i')
  | .ixS x i, .ixS x' i' => x.eqB x' && i.eqB i'
  | .slS sz x l h m, .slS sz' x' l' h' m' => sz == sz' && (x.eqB x' && (AO.eqO l l' && (AO.eqO h h' && AO.eqO m m')))
  | .slT x l h, .slT x' l' h' => x.eqB x' && (AO.eqO l l' && AO.eqO h h')
  | .b2s x, .b2s x' => x.eqB x'
  | .mvs x, .mvs x' => x.eqB x'
  | .mxi x y, .mxi x' y' => x.eqB x' && y.eqB y'
  | .mni x y, .mni x' y' => x.eqB x' && y.eqB y'
  | .cap x, .cap x' => x.eqB x'
  | .nilck x, .nilck x' => x.eqB x'
  | .app a b x y, .app a' b' x' y' => a == a' && (b == b' && (x.eqB x' && y.eqB y'))
  | .iaA n sz x i, .iaA n' sz' x' i' => n == n' && (sz == sz' && (x.eqB x' && i.eqB i'))
  | .ixA g n sz x i, .ixA g' n' sz' x' i' => g == g' && (n == n' && (sz == sz' && (x.eqB x' && i.eqB i')))
  | _, _ => false

theorem AO.eqB_eq {a b : AO} (h : a.eqB b = true) : a = b := by
  cases a <;> cases b <;> simp only [AO.eqB, Bool.false_eq_true] at h
  rw [AV.beq_eq h]
theorem AO.eqO_eq {a b : Option AO} (h : AO.eqO a b = true) : a = b := by
  cases a <;> cases b <;> simp only [AO.eqO, Bool.false_eq_true] at h
  · rfl
  · rw [AO.eqB_eq h]
theorem AOp.eqB_eq {a b : AOp} (h : a.eqB b = true) : a = b := by
  unfold AOp.eqB at h
  split at h <;> (try simp only [Bool.and_eq_true, decide_eq_true_eq, beq_iff_eq, Bool.false_eq_true] at h)
  · rw [AO.eqB_eq h]
  · rw [h.1, AO.eqB_eq h.2.1, AO.eqB_eq h.2.2]
  · rw [h.1, AO.eqB_eq h.2]
  · rw [h.1, AO.eqB_eq h.2]
  · rw [h.1, AO.eqB_eq h.2]
  · rw [h.1, h.2.1, AO.eqB_eq h.2.2.1, AO.eqB_eq h.2.2.2]
  · rw [h.1, h.2.1, AO.eqB_eq h.2.2.1, AO.eqB_eq h.2.2.2]
  · rw [h.1, AO.eqB_eq h.2.1, AO.eqB_eq h.2.2]
  · rw [h.1, AO.eqB_eq h.2.1, AO.eqB_eq h.2.2]
  · rw [AO.eqB_eq h.1, AO.eqB_eq h.2]
  · rw [h.1, AO.eqB_eq h.2.1, AO.eqO_eq h.2.2.1, AO.eqO_eq h.2.2.2.1, AO.eqO_eq h.2.2.2.2]
  · rw [AO.eqB_eq h.1, AO.eqO_eq h.2.1, AO.eqO_eq h.2.2]
  · rw [AO.eqB_eq h]
  · rw [AO.eqB_eq h]
  · rw [AO.eqB_eq h.1, AO.eqB_eq h.2]
  · rw [AO.eqB_eq h.1, AO.eqB_eq h.2]
  · rw [AO.eqB_eq h]
  · rw [AO.eqB_eq h]
  · rw [h.1, h.2.1, AO.eqB_eq h.2.2.1, AO.eqB_eq h.2.2.2]
  · rw [h.1, h.2.1, AO.eqB_eq h.2.2.1, AO.eqB_eq h.2.2.2]
  · rw [h.1, h.2.1, h.2.2.1, AO.eqB_eq h.2.2.2.1, AO.eqB_eq h.2.2.2.2]

def lookF : List (AOp × AV) → AOp → Option AV
  | [], _ => none
  | (o, r) :: l, x => if o.eqB x then some r else lookF l x
def lookC : List (Nat × List AV × AV) → Nat → List AV → Option AV
  | [], _, _ => none
  | (g, as, r) :: l, f, xs => if g == f && beqL as xs then some r else lookC l f xs

def lookA : List AFact → Bool → Nat → Nat → AV → AV → Option Nat
  | [], _, _, _, _, _ => none
  | p :: l, o, sz, by_, b, x => if p.own == o && (p.sz == sz && (p.by_ == by_ && (AV.beq p.b b && AV.beq p.x x))) then some p.k else lookA l o sz by_ b x
structure AHold (ρ : Val) (o : Bool) (sz by_ : Nat) (b x : AV) (k : Nat) : Prop where
  told : ∃ A ca B cb, gm ρ b = .im A ca ∧ gm ρ x = .im B cb ∧ ρ.v false k = .im (A ++ B) false ∧ (A.length + B.length) * by_ ≤ roomB ∧ A.length + B.length ≤ roomB ∧ (o = false → ca = true ∧ B ≠ [])
  big : BIG ≤ k
  size : k % 1000 = sz
  pos : 0 < sz
def HoldA (ρ : Val) (l : List AFact) : Prop := ∀ p ∈ l, AHold ρ p.own p.sz p.by_ p.b p.x p.k
theorem lookA_ok {ρ : Val} : ∀ {l : List AFact} {o : Bool} {sz by_ : Nat} {b x : AV} {k : Nat}, HoldA ρ l → lookA l o sz by_ b x = some k → AHold ρ o sz by_ b x k
  | [], _, _, _, _, _, _, _, h => by cases h
  | p :: l, o, sz, by_, b, x, k, hl, h => by
    unfold lookA at h
    split at h
    · rename_i he
      cases h
      simp only [Bool.and_eq_true, beq_iff_eq] at he
      obtain ⟨h1, h2, h3, h4, h5⟩ := he
      have := hl p (by simp)
      rw [h1, h2, h3, AV.beq_eq h4, AV.beq_eq h5] at this
      exact this
    · exact lookA_ok (fun q hq => hl q (List.mem_cons_of_mem _ hq)) h

def lookN : List NFact → Nat → Nat → List AV → AV → AV → Option Nat
  | [], _, _, _, _, _ => none
  | p :: l, sz, by_, z, b, n => if p.sz == sz && (p.by_ == by_ && (beqL p.z z && (AV.beq p.b b && AV.beq p.n n))) then some p.k else lookN l sz by_ z b n
structure NHold (ρ : Val) (sz by_ : Nat) (z : List AV) (b n : AV) (k : Nat) : Prop where
  told : ∃ A N kk, gm ρ b = .im A true ∧ gm ρ n = .int kk (N : Nat) ∧ N ≠ 0 ∧ ρ.v false k = .im (A ++ List.replicate N z) false ∧ (A.length + N) * by_ ≤ roomB ∧ A.length + N ≤ roomB
  big : BIG ≤ k
  size : k % 1000 = sz
  pos : 0 < sz
def HoldN (ρ : Val) (l : List NFact) : Prop := ∀ p ∈ l, NHold ρ p.sz p.by_ p.z p.b p.n p.k
theorem lookN_ok {ρ : Val} : ∀ {l : List NFact} {sz by_ : Nat} {z : List AV} {b n : AV} {k : Nat}, HoldN ρ l → lookN l sz by_ z b n = some k → NHold ρ sz by_ z b n k
  | [], _, _, _, _, _, _, _, h => by cases h
  | p :: l, sz, by_, z, b, n, k, hl, h => by
    unfold lookN at h
    split at h
    · rename_i he
      cases h
      simp only [Bool.and_eq_true, beq_iff_eq] at he
      obtain ⟨h1, h2, h3, h4, h5⟩ := he
      have := hl p (by simp)
      rw [h1, h2, beqL_eq h3, AV.beq_eq h4, AV.beq_eq h5] at this
      exact this
    · exact lookN_ok (fun q hq => hl q (List.mem_cons_of_mem _ hq)) h

/-- Facts that hold. -/
def HoldF (ρ : Val) (l : List (AOp × AV)) : Prop := ∀ p ∈ l, ∀ s : St, opA s (p.1.gmO ρ) = some (gm ρ p.2, s)
def HoldC (ρ : Val) (K : Nat → List AV → Option AV) (l : List (Nat × List AV × AV)) : Prop := ∀ p ∈ l, K p.1 (p.2.1.map (gm ρ)) = some (gm ρ p.2.2)

theorem lookF_mem : ∀ {l : List (AOp × AV)} {o : AOp} {r : AV}, lookF l o = some r → (o, r) ∈ l
  | [], _, _, h => by cases h
  | (o', r') :: l, o, r, h => by
    unfold lookF at h
    split at h
    · rename_i he
      cases h
      rw [AOp.eqB_eq he]; simp
    · exact List.mem_cons_of_mem _ (lookF_mem h)
theorem lookC_mem : ∀ {l : List (Nat × List AV × AV)} {f : Nat} {xs : List AV} {r : AV}, lookC l f xs = some r → (f, xs, r) ∈ l
  | [], _, _, _, h => by cases h
  | (g, as, r') :: l, f, xs, r, h => by
    unfold lookC at h
    split at h
    · rename_i he
      cases h
      simp only [Bool.and_eq_true, beq_iff_eq] at he
      rw [he.1, beqL_eq he.2]; simp
    · exact List.mem_cons_of_mem _ (lookC_mem h)

/-- A fact, put to use: where the symbolic state stands for a state, and a fact is told of the operation there. -/
theorem fact_ok {ρ : Val} {s c : St} (S : Sim ρ s c) {l : List (AOp × AV)} (hl : HoldF ρ l) {o : AOp} (hset : SetIn s o.looks) (hcl : o.cl = true) {r : AV} (h : lookF l (o.inst s) = some r) : opA c o = some (gm ρ r, c) := by
  have h1 := hl _ (lookF_mem h) c
  simp only at h1
  rw [← h1, ← opA_inst c o]
  congr 1
  have hl : ∀ {l : List AO}, SetIn s (AO.tml l) → l.all AO.cl = true → (l.map fun x => AO.c (x.ev c)) = (l.map fun x => AO.c (x.ev s)).map (AO.gmO ρ) := fun {l} h1 h2 => by
    have := evs_sim S h1 h2
    have h3 : (l.map (AO.ev c)).map AO.c = ((l.map (AO.ev s)).map (gm ρ)).map AO.c := by rw [this]
    simp only [List.map_map] at h3 ⊢
    exact h3
  have hp : ∀ {l : List (Nat × Nat × AO)}, SetIn s (AO.tmp l) → (l.all fun p => p.2.2.cl) = true → (l.map fun p => (p.1, p.2.1, AO.c (p.2.2.ev c))) = (l.map fun p => (p.1, p.2.1, AO.c (p.2.2.ev s))).map fun p => (p.1, p.2.1, AO.gmO ρ p.2.2) := fun {l} h1 h2 => by
    have := evp_sim S h1 h2
    have h3 : (evp c l).map (fun p => (p.1, p.2.1, AO.c p.2.2)) = ((evp s l).map fun p => (p.1, p.2.1, gm ρ p.2.2)).map (fun p => (p.1, p.2.1, AO.c p.2.2)) := by rw [this]
    simp only [evp, List.map_map] at h3 ⊢
    exact h3
  have ho : ∀ {x : Option AO}, SetIn s (AO.tmo x) → AO.clo x = true → (x.map fun x => AO.c (x.ev c)) = (x.map fun x => AO.c (x.ev s)).map (AO.gmO ρ) := fun {x} h1 h2 => by
    cases x with
    | none => rfl
    | some x => simp only [Option.map_some, AO.gmO]; rw [ev_sim S h1 h2]
  cases o <;> simp only [AOp.looks] at hset <;> simp only [AOp.cl, Bool.and_eq_true] at hcl <;> simp only [AOp.inst, AOp.gmO, AOp.mapO]
  case mov x => simp only [AO.gmO, ev_sim S hset hcl]
  case box x => simp only [AO.gmO, ev_sim S hset hcl]
  case load g n x => simp only [AO.gmO, ev_sim S hset hcl]
  case nilck x => simp only [AO.gmO, ev_sim S hset hcl]
  case un op x => simp only [AO.gmO, ev_sim S hset hcl]
  case conv k x => simp only [AO.gmO, ev_sim S hset hcl]
  case mvs x => simp only [AO.gmO, ev_sim S hset hcl]
  case b2s x => simp only [AO.gmO, ev_sim S hset hcl]
  case faddr o x => simp only [AO.gmO, ev_sim S hset hcl]
  case fld g o n x => simp only [AO.gmO, ev_sim S hset hcl]
  case a2p n x => simp only [AO.gmO, ev_sim S hset hcl]
  case extr i x => simp only [AO.gmO, ev_sim S hset hcl]
  case len k x => simp only [AO.gmO, ev_sim S hset hcl]
  case cap x => simp only [AO.gmO, ev_sim S hset hcl]
  case store n a x => simp only [AO.gmO, ev_sim S hset.left hcl.1, ev_sim S hset.right hcl.2]
  case bin op a x => simp only [AO.gmO, ev_sim S hset.left hcl.1, ev_sim S hset.right hcl.2]
  case eqa neg ks a x => simp only [AO.gmO, ev_sim S hset.left hcl.1, ev_sim S hset.right hcl.2]
  case eqn k neg a x => simp only [AO.gmO, ev_sim S hset.left hcl.1, ev_sim S hset.right hcl.2]
  case eqb neg a x => simp only [AO.gmO, ev_sim S hset.left hcl.1, ev_sim S hset.right hcl.2]
  case iaA n sz a x => simp only [AO.gmO, ev_sim S hset.left hcl.1, ev_sim S hset.right hcl.2]
  case iaS sz a x => simp only [AO.gmO, ev_sim S hset.left hcl.1, ev_sim S hset.right hcl.2]
  case ixA g n sz a x => simp only [AO.gmO, ev_sim S hset.left hcl.1, ev_sim S hset.right hcl.2]
  case ixS a x => simp only [AO.gmO, ev_sim S hset.left hcl.1, ev_sim S hset.right hcl.2]
  case mksl sz b z a x => simp only [AO.gmO, ev_sim S hset.left hcl.2.1, ev_sim S hset.right hcl.2.2]
  case look kk z ok a x => simp only [AO.gmO, ev_sim S hset.left hcl.2.1, ev_sim S hset.right hcl.2.2]
  case appn sz b z a x => simp only [AO.gmO, ev_sim S hset.left hcl.2.1, ev_sim S hset.right hcl.2.2]
  case app sz b a x => simp only [AO.gmO, ev_sim S hset.left hcl.1, ev_sim S hset.right hcl.2]
  case cpy sz a x => simp only [AO.gmO, ev_sim S hset.left hcl.1, ev_sim S hset.right hcl.2]
  case mxi a x => simp only [AO.gmO, ev_sim S hset.left hcl.1, ev_sim S hset.right hcl.2]
  case mni a x => simp only [AO.gmO, ev_sim S hset.left hcl.1, ev_sim S hset.right hcl.2]
  case del kk a x => simp only [AO.gmO, ev_sim S hset.left hcl.1, ev_sim S hset.right hcl.2]
  case pick c a b => simp only [AO.gmO, ev_sim S hset.left hcl.1, ev_sim S hset.right.left hcl.2.1, ev_sim S hset.right.right hcl.2.2]
  case mapup kk c a b => simp only [AO.gmO, ev_sim S hset.left hcl.1, ev_sim S hset.right.left hcl.2.1, ev_sim S hset.right.right hcl.2.2]
  case build z ps => rw [hp hset hcl.2]
  case bsl sz z ps => rw [hp hset hcl.2]
  case mkfn f a b => rw [hl hset.left hcl.1, hl hset.right hcl.2]
  case slA n sz x lo hi mx => rw [ev_sim S hset.left hcl.1, ho hset.right.left hcl.2.1, ho hset.right.right.left hcl.2.2.1, ho hset.right.right.right hcl.2.2.2]; rfl
  case slS sz x lo hi mx => rw [ev_sim S hset.left hcl.1, ho hset.right.left hcl.2.1, ho hset.right.right.left hcl.2.2.1, ho hset.right.right.right hcl.2.2.2]; rfl
  case slT x lo hi => rw [ev_sim S hset.left hcl.1, ho hset.right.left hcl.2.1, ho hset.right.right hcl.2.2]; rfl
  case call f xs => rw [ev_sim S hset.left hcl.1, hl hset.right hcl.2]; rfl
end Go.Proofs.Hz
