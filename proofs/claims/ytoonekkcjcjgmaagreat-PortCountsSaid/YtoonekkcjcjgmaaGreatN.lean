/-
  Chapters 13 and 14: what the functions that are met tell, plainly. (Plain definitions.)
  Conditions: none.
-/
import Derived.Test.YtoonekkcjcjgmaaGreatHz3
import Derived.Test.YtoonekkcjcjgmaaGreatProg
open Go Go.Proofs
namespace Go.Proofs.Hz
structure FrS where
  op : Int
  pc : Int
  r0 : Int
  r1 : Int
  r2 : Int
  r3 : Int
  r4 : Int
  r5 : Int
  r6 : Int
  r7 : Int
  s : List Int
  bs : Bool
def eFr (f : FrS) : List AV := [.int .i64 f.op, .int .i64 f.pc, .int .i64 f.r0, .int .i64 f.r1, .int .i64 f.r2, .int .i64 f.r3, .int .i64 f.r4, .int .i64 f.r5, .int .i64 f.r6, .int .i64 f.r7, .im (f.s.map eI) f.bs]
theorem selfI (l : List Int) (b : Bool) : AV.beq (.im (l.map eI) b) (.im (l.map eI) b) = true := by simp only [AV.beq, Bool.and_eq_true, eI_ok.selfLL l, beq_self_eq_true, and_self]
theorem eFr_ok : Enc eFr 11 := ⟨fun _ => rfl, fun _ => rfl, fun f => by
  have := selfI f.s f.bs
  simp [eFr, beqL, this]
  simp [AV.beq]⟩
structure CoS where
  f : List FrS
  bf : Bool
  v : Int
  e : Int
  x0 : Int
  x1 : Int
  x2 : Int
  ret : List Int
  bret : Bool
def eCo (c : CoS) : List AV := [.im (c.f.map eFr) c.bf, .int .i64 c.v, .int .i64 c.e, .int .i64 c.x0, .int .i64 c.x1, .int .i64 c.x2, .im (c.ret.map eI) c.bret]
theorem selfF (l : List FrS) (b : Bool) : AV.beq (.im (l.map eFr) b) (.im (l.map eFr) b) = true := by simp only [AV.beq, Bool.and_eq_true, eFr_ok.selfLL l, beq_self_eq_true, and_self]
theorem eCo_ok : Enc eCo 7 := ⟨fun _ => rfl, fun _ => rfl, fun c => by
  have h1 := selfI c.ret c.bret
  have h2 := selfF c.f c.bf
  simp [eCo, beqL, h1, h2]
  simp [AV.beq]⟩
structure EvS where
  core : Int
  kind : Int
  a : Int
  b : Int
  v : Int
def eEv (x : EvS) : List AV := [.int .i64 x.core, .int .i64 x.kind, .int .i64 x.a, .int .i64 x.b, .int .i64 x.v]
theorem eEv_ok : Enc eEv 5 := ⟨fun _ => rfl, fun _ => rfl, fun x => by simp [eEv, beqL, AV.beq]⟩
structure SyS where
  w : List Int
  bw : Bool
  g : List Int
  bg : Bool
  bad : Bool
  c : List CoS
  bc : Bool
  l : List EvS
  bl : Bool
def SyS.cells (s : SyS) : List AV := [.im (s.w.map eI) s.bw, .im (s.g.map eI) s.bg, .bool s.bad, .im (s.c.map eCo) s.bc, .im (s.l.map eEv) s.bl]
def SyS.av (s : SyS) : AV := .agg s.cells
end Go.Proofs.Hz
open Go Go.Proofs
namespace Go.Proofs.Hz
/-- Which functions are pure (1: with rows among their parameters, 2: without). -/
def puN (i : Nat) : Nat := [2, 2, 2, 1, 1, 1, 1, 1, 2, 1, 1, 1, 2, 1, 2, 1, 1, 1, 1, 1, 1, 1, 1, 1, 2, 2, 1, 1, 2, 1, 1, 2, 1, 1, 1, 1, 1, 1, 2, 1, 1, 1, 1, 2, 2, 1, 1, 2, 1, 1, 1, 1, 1, 1, 1, 1, 2, 2, 1, 1, 2, 1, 1, 1, 2, 2, 0, 0, 2, 1, 0, 1, 1, 2, 1, 1, 1, 1, 2, 1, 2, 1, 1, 2, 0, 1, 2, 0, 0, 1, 1, 1, 1, 1, 1, 1, 2, 2, 1, 2, 1, 1, 1, 1, 1, 2, 2, 0, 0, 1, 2, 2, 0, 0, 2, 1, 0, 0, 0, 0, 0, 0, 1, 2, 0, 1, 0, 1, 2, 0, 1, 2, 1, 1, 2, 1, 2, 1, 1, 1, 1, 1, 1, 1, 1, 1, 1, 1, 2, 1, 0, 2, 0, 0, 0, 0, 0, 0, 2, 0, 2, 2, 1, 0, 0, 0, 1, 0, 0, 2, 2, 2, 2, 2, 1, 2, 0, 0, 0, 0, 0, 0, 0, 0, 1, 0, 0, 0, 0, 1, 1, 1, 1, 1, 1, 1, 1, 2, 2, 0, 2, 0, 0, 0, 0, 1, 0, 2, 0, 0, 0, 2, 2, 2, 0, 0, 0, 0, 0, 0, 1, 1, 1, 1, 1, 2, 2, 2, 1, 1, 0, 0, 0, 0, 0, 0, 2, 0, 0, 0, 0, 0, 0, 1, 0, 0, 2, 2, 2, 2, 2, 1, 2, 1, 1, 1, 1, 1, 1, 2, 2, 2, 2, 1, 1, 2, 1, 1, 2, 1, 1, 0, 1, 1, 1, 0, 0, 0, 0, 0, 0, 0, 0, 0, 0, 0, 0, 0, 0, 0, 0, 0, 0, 0, 0, 0, 0, 0, 1, 1, 2, 2, 1, 1, 1, 2, 1, 1, 1, 1, 1, 1, 0, 0, 0, 0, 2, 0, 0, 1, 1, 2, 1, 1, 2, 0, 1, 1, 1, 1, 2, 1, 1, 1, 2, 2, 2, 2, 2, 2, 2, 2, 0, 0, 0, 0, 0, 0, 0, 2].getD i 0
instance gl13 : Gl where
  tab := fun _ => none
  X := fun _ => none
  fact := fun _ _ => True
  fact_ext := fun _ _ h => h
noncomputable def FF : Nat → Option AFn := compF Tryz.prog puN
end Go.Proofs.Hz
open Go Go.Proofs
namespace Go.Proofs.Hz
def nearF (n : Int) : Bool := decide (-2305843009213693952 ≤ n ∧ n ≤ 2305843009213693952)
def belowF (n m : Int) : Bool := decide (0 ≤ n ∧ n < m)
def isPortF (p : Int) : Bool := decide (0 ≤ p ∧ p < 8)
def modF (a b : Int) : Int := if Int.tmod a b < 0 then w64 (Int.tmod a b + b) else Int.tmod a b
/-- A word's index, by the document; by the code. -/
def idxR (w : Int) : Int := IntKind.wrap .i64 (Int.tdiv (modF w 2097152) 2)
def idxC (w : Int) : Int := bvT .and .i64 (shT .shr .i64 w 1) 1048575
def small2F (w g : List Int) : Bool := decide ((g.length : Int) ≤ 61 ∧ (w.length : Int) ≤ 368)
def right2F (w g : List Int) : Bool := decide (2 ≤ g.length ∧ g.length ≤ 201 ∧ w.length + 4 = 128 + 4 * g.length) && (decide (g[0]? = some 0) && g.all fun x => decide (0 ≤ x ∧ x ≤ 2))
def frF (f : FrS) : Bool := nearF f.r0 && (nearF f.r1 && (nearF f.r2 && (nearF f.r3 && (nearF f.r4 && (nearF f.r5 && (nearF f.r6 && nearF f.r7))))))
def coreF (c : CoS) : Bool := nearF c.v && (nearF c.x0 && (nearF c.x1 && (nearF c.x2 && c.f.all frF)))
def smallC (c : CoS) : Bool := decide (c.f.length ≤ 45 ∧ c.ret.length ≤ 210) && c.f.all fun f => decide (f.s.length ≤ 30)
def small3F (s : SyS) : Bool := small2F s.w s.g && (decide (s.c.length ≤ 9 ∧ s.l.length ≤ 200) && s.c.all smallC)
def rightC (c : CoS) : Bool := coreF c && (decide (c.f.length ≤ 40 ∧ c.ret.length ≤ 200) && c.f.all fun f => decide (f.s.length ≤ 24))
def right3F (s : SyS) : Bool := right2F s.w s.g && (decide (1 ≤ s.c.length ∧ s.c.length ≤ 8) && s.c.all rightC)
def mayF (s : SyS) : Bool := small3F s && right3F s
def stR (w : List Int) (t : Int) : Int := if 0 ≤ t ∧ t < 16 then idxR (w.getD (96 + t).toNat 0) else 0
def stC (w : List Int) (t : Int) : Int := if 0 ≤ t ∧ t < 16 then idxC (w.getD (96 + t).toNat 0) else 0
/-- The threads from one on that wait at a port. -/
def waitsG (w : List Int) (p : Int) : Nat → Nat → List Int
  | 0, _ => []
  | k + 1, t => if stC w t = 8 + p then (t : Int) :: waitsG w p k (t + 1) else waitsG w p k (t + 1)
def waitsF (w : List Int) (p : Int) : List Int := if isPortF p = true then waitsG w p 16 0 else []
def inF (l : List Int) (n : Int) : Bool := decide (n ∈ l)
end Go.Proofs.Hz
