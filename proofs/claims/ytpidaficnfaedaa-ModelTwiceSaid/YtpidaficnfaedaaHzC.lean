/-
  What an abstract value says of the machine's value: the relation 'R', of heaps 'HRel', of frames 'SRel'; how they go on ('Ext').
  Conditions: none (definitions and small lemmas).
-/
import Derived.Test.YtpidaficnfaedaaHzB
import Derived.Below
namespace Go.Proofs.Hz
open Go.RowKit

abbrev Ren := Nat → Option Nat
abbrev Ids := Nat → Prop
def Ids.none : Ids := fun _ => False
def Ids.upto (n : Nat) : Ids := fun i => i < n
def Ids.add (V : Ids) (i : Nat) : Ids := fun j => V j ∨ j = i
def Ren.none : Ren := fun _ => Option.none
def Ren.set (ρ : Ren) (i : Nat) (b : Option Nat) : Ren := fun j => if i = j then b else ρ j

inductive R (D : Nat → Prop) (w : World) : Ids → Ren → AV → Value → Prop
  | bool {V : Ids} {ρ : Ren} (b : Bool) : R D w V ρ (.bool b) (.bool b)
  | int {V : Ids} {ρ : Ren} (k : IntKind) (n : Int) : R D w V ρ (.int k n) (.int k n)
  | str {V : Ids} {ρ : Ren} (s : ByteArray) {l : List UInt8} (h : l = s.data.toList) : R D w V ρ (.str l) (.string s)
  | nilp {V : Ids} {ρ : Ren} : R D w V ρ .nilp (.pointer none)
  | ptr {V : Ids} {ρ : Ren} {id off : Nat} {a : Addr} (h : V id) (ha : ∀ b, ρ id = some b → a = ⟨b, off, none⟩) : R D w V ρ (.ptr id off) (.pointer (some a))
  | ip {V : Ids} {ρ : Ren} {cs : List AV} {off b o : Nat} (c : Nat → Value) (hD : D b) (hc : ∀ j, j < cs.length → w.cell? ⟨b, o + j, none⟩ = some (c j))
      (h1 : ∀ (j : Nat) (x : AV), cs[j]? = some x → R D w Ids.none Ren.none x (c j)) : R D w V ρ (.ip cs off) (.pointer (some ⟨b, o + off, none⟩))
  | sl {V : Ids} {ρ : Ren} {id off n sz : Nat} {c : Option Nat} {a : Addr} {cap : Nat} (h : V id) (hn : n ≤ cap) (hc : ∀ k, c = some k → cap = k)
      (ha : ∀ b, ρ id = some b → cap = 0 ∨ (a = ⟨b, off, none⟩ ∧ ∃ (real : Array Value) (ty : TypeId) (mk : Nat × Nat), w.heap[b]? = some (Obj.cells real ty mk) ∧ off + cap * sz ≤ real.size)) : R D w V ρ (.sl id off n sz c) (.slice (some a) n cap)
  | imn {V : Ids} {ρ : Ren} {clip : Bool} {a : Option Addr} {cap : Nat} (hc : clip = true → cap = 0) (ha : a = none → cap = 0) : R D w V ρ (.im [] clip) (.slice a 0 cap)
  | im {V : Ids} {ρ : Ren} {els : List (List AV)} {clip : Bool} {b o sz cap : Nat} (c : Nat → Nat → Value) (hn : els.length ≤ cap) (hcl : clip = true → cap = els.length) (hD : D b)
      (hl : ∀ e ∈ els, e.length = sz) (hc : ∀ i j, i < els.length → j < sz → w.cell? ⟨b, o + (i * sz + j), none⟩ = some (c i j))
      (h1 : ∀ (i j : Nat) (e : List AV) (x : AV), els[i]? = some e → e[j]? = some x → R D w Ids.none Ren.none x (c i j)) : R D w V ρ (.im els clip) (.slice (some ⟨b, o, none⟩) els.length cap)
  | fn {V : Ids} {ρ : Ren} {f : Nat} {first caps : List AV} {vf vc : Array Value} (lf : first.length = vf.size) (lc : caps.length = vc.size)
      (hf : ∀ (j : Nat) (x : AV) (v : Value), first[j]? = some x → vf[j]? = some v → R D w V ρ x v) (hc : ∀ (j : Nat) (x : AV) (v : Value), caps[j]? = some x → vc[j]? = some v → R D w V ρ x v) : R D w V ρ (.fn f first caps) (.func (.func f) vf vc)
  | yld {V : Ids} {ρ : Ren} {id l : Nat} (h : V id) (hl : ∀ b, ρ id = some b → l = b) : R D w V ρ (.yld id) (.func (.yield l) #[] #[])
  | nilf {V : Ids} {ρ : Ren} : R D w V ρ .nilf .nilFunc
  | mp {V : Ids} {ρ : Ren} {id r : Nat} (h : V id) (hr : ∀ b, ρ id = some b → r = b) : R D w V ρ (.mp id) (.map (some r))
  | nili {V : Ids} {ρ : Ren} : R D w V ρ .nili .nilIface
  | ifv {V : Ids} {ρ : Ren} {t : TypeId} {v : Value} : R D w V ρ .ifv (.iface t v)
  | agg {V : Ids} {ρ : Ren} {cs : List AV} {vs : Array Value} (hl : cs.length = vs.size) (h : ∀ (j : Nat) (x : AV) (v : Value), cs[j]? = some x → vs[j]? = some v → R D w V ρ x v) : R D w V ρ (.agg cs) (.agg vs)
  | tup {V : Ids} {ρ : Ren} {cs : List AV} {vs : Array Value} (hl : cs.length = vs.size) (h : ∀ (j : Nat) (x : AV) (v : Value), cs[j]? = some x → vs[j]? = some v → R D w V ρ x v) : R D w V ρ (.tup cs) (.tuple vs)

/-- How a world goes on: what is told never turns, what belongs to nobody here stays, the call's own blocks keep their size. -/
structure Ext (D : Nat → Prop) (ρ : Ren) (w : World) (V : Ids) (D' : Nat → Prop) (ρ' : Ren) (w' : World) (V' : Ids) : Prop where
  ids : ∀ i, V i → V' i
  os : w'.os = w.os
  tape : w'.tape = w.tape
  output : w'.output = w.output
  size : w.heap.size ≤ w'.heap.size
  sub : ∀ b, D b → D' b
  frame : ∀ b, b < w.heap.size → (D b ∨ ∀ id, ρ id ≠ some b) → w'.heap[b]? = w.heap[b]?
  shape : ∀ (b : Nat) (real : Array Value) (ty : TypeId) (mk : Nat × Nat), w.heap[b]? = some (Obj.cells real ty mk) → ∃ real' : Array Value, w'.heap[b]? = some (Obj.cells real' ty mk) ∧ real'.size = real.size
  ren : ∀ id b, V id → ρ' id = some b → ρ id = some b
  new : ∀ id b, ρ' id = some b → (∃ i, ρ i = some b) ∨ w.heap.size ≤ b
  dnew : ∀ b, D' b → D b ∨ (∃ i, ρ i = some b) ∨ w.heap.size ≤ b

theorem cell_of_heap {w w' : World} {b : Nat} (h : w'.heap[b]? = w.heap[b]?) (o : Nat) (s : Option Nat) : w'.cell? ⟨b, o, s⟩ = w.cell? ⟨b, o, s⟩ := by
  simp only [World.cell?, h]

/-- A value that says something still says it. -/
theorem R.mono {D D' : Nat → Prop} {w w' : World} (sub : ∀ b, D b → D' b) (fr : ∀ b, D b → w'.heap[b]? = w.heap[b]?)
    (shape : ∀ (b : Nat) (real : Array Value) (ty : TypeId) (mk : Nat × Nat), w.heap[b]? = some (Obj.cells real ty mk) → ∃ real' : Array Value, w'.heap[b]? = some (Obj.cells real' ty mk) ∧ real'.size = real.size)
    {V : Ids} {ρ : Ren} {x : AV} {v : Value} (h : R D w V ρ x v) :
    ∀ {V' : Ids} {ρ' : Ren}, (∀ i, V i → V' i) → (∀ id b, V id → ρ' id = some b → ρ id = some b) → R D' w' V' ρ' x v := by
  induction h with
  | bool b => intros; exact .bool b
  | int k n => intros; exact .int k n
  | str s h => intros; exact .str s h
  | nilp => intros; exact .nilp
  | ptr h ha => intro V' ρ' hn hr; exact .ptr (hn _ h) fun b hb => ha b (hr _ _ h hb)
  | ip c hD hc _ ih => intro V' ρ' _ _; exact .ip c (sub _ hD) (fun j hj => by rw [cell_of_heap (fr _ hD)]; exact hc j hj) (fun j x hx => ih j x hx (fun _ h => h) (fun _ _ h _ => h.elim))
  | sl h hn hc ha =>
    intro V' ρ' hn' hr
    refine .sl (hn' _ h) hn hc fun b hb => ?_
    rcases ha b (hr _ _ h hb) with h0 | ⟨h1, real, ty, mk, h2, h3⟩
    · exact .inl h0
    · obtain ⟨real', h4, h5⟩ := shape _ _ _ _ h2
      exact .inr ⟨h1, real', ty, mk, h4, by omega⟩
  | imn hc ha => intros; exact .imn hc ha
  | im c hn hcl hD hl hc _ ih => intro V' ρ' _ _; exact .im c hn hcl (sub _ hD) hl (fun i j hi hj => by rw [cell_of_heap (fr _ hD)]; exact hc i j hi hj) (fun i j e x he hx => ih i j e x he hx (fun _ h => h) (fun _ _ h _ => h.elim))
  | fn lf lc _ _ ihf ihc => intro V' ρ' hn hr; exact .fn lf lc (fun j x v hx hv => ihf j x v hx hv hn hr) (fun j x v hx hv => ihc j x v hx hv hn hr)
  | yld h hl => intro V' ρ' hn hr; exact .yld (hn _ h) fun b hb => hl b (hr _ _ h hb)
  | nilf => intros; exact .nilf
  | mp h hl => intro V' ρ' hn hr; exact .mp (hn _ h) fun b hb => hl b (hr _ _ h hb)
  | nili => intros; exact .nili
  | ifv => intros; exact .ifv
  | agg hl _ ih => intro V' ρ' hn hr; exact .agg hl (fun j x v hx hv => ih j x v hx hv hn hr)
  | tup hl _ ih => intro V' ρ' hn hr; exact .tup hl (fun j x v hx hv => ih j x v hx hv hn hr)

section
variable {D D' D₂ : Nat → Prop} {ρ ρ' ρ₂ : Ren} {w w' w₂ : World} {V V' V₂ : Ids}

theorem Ext.refl (D : Nat → Prop) (ρ : Ren) (w : World) (V : Ids) : Ext D ρ w V D ρ w V :=
  ⟨fun _ h => h, rfl, rfl, rfl, Nat.le_refl _, fun _ h => h, fun _ _ _ => rfl, fun _ real _ _ h => ⟨real, h, rfl⟩, fun _ _ _ h => h, fun id _ h => .inl ⟨id, h⟩, fun _ h => .inl h⟩

theorem Ext.trans (h : Ext D ρ w V D' ρ' w' V') (k : Ext D' ρ' w' V' D₂ ρ₂ w₂ V₂) : Ext D ρ w V D₂ ρ₂ w₂ V₂ where
  ids := fun i hi => k.ids i (h.ids i hi)
  os := k.os.trans h.os
  tape := k.tape.trans h.tape
  output := k.output.trans h.output
  size := Nat.le_trans h.size k.size
  sub := fun b hb => k.sub b (h.sub b hb)
  frame := fun b hb hf => by
    refine (k.frame b (Nat.lt_of_lt_of_le hb h.size) ?_).trans (h.frame b hb hf)
    rcases hf with hf | hf
    · exact .inl (h.sub b hf)
    · refine .inr fun id hid => ?_
      rcases h.new id b hid with ⟨i, hi⟩ | hge
      · exact hf i hi
      · omega
  shape := fun b real ty mk hb => by
    obtain ⟨r1, h1, h2⟩ := h.shape b real ty mk hb
    obtain ⟨r2, h3, h4⟩ := k.shape b r1 ty mk h1
    exact ⟨r2, h3, h4.trans h2⟩
  ren := fun id b hid hb => h.ren id b hid (k.ren id b (h.ids id hid) hb)
  new := fun id b hb => by
    rcases k.new id b hb with ⟨i, hi⟩ | hge
    · exact h.new i b hi
    · exact .inr (Nat.le_trans h.size hge)
  dnew := fun b hb => by
    rcases k.dnew b hb with hb | ⟨i, hi⟩ | hge
    · exact h.dnew b hb
    · exact .inr (h.new i b hi)
    · exact .inr (.inr (Nat.le_trans h.size hge))

theorem R.ext (e : Ext D ρ w V D' ρ' w' V') (db : ∀ b, D b → b < w.heap.size) {x : AV} {v : Value} (h : R D w V ρ x v) : R D' w' V' ρ' x v :=
  h.mono e.sub (fun b hb => e.frame b (db b hb) (.inl hb)) e.shape e.ids e.ren

/-- What leads nowhere says it under every naming. -/
theorem R.any {x : AV} {v : Value} (h : R D w Ids.none Ren.none x v) : R D w V ρ x v :=
  h.mono (fun _ h => h) (fun _ _ => rfl) (fun _ real _ _ h => ⟨real, h, rfl⟩) (fun _ h => h.elim) (fun _ _ h _ => h.elim)

theorem R.sub {x : AV} {v : Value} (hs : ∀ b, D b → D' b) (h : R D w V ρ x v) : R D' w V ρ x v :=
  h.mono hs (fun _ _ => rfl) (fun _ real _ _ h => ⟨real, h, rfl⟩) (fun _ h => h) (fun _ _ _ h => h)
end

/-- No cell of the row is marked. -/
def noMark (mk : Nat × Nat) (n : Nat) : Prop := ∀ j, j < n → ¬ (mk.1 ≤ j ∧ j < mk.2)

structure LRel (D : Nat → Prop) (w : World) (V : Ids) (ρ : Ren) (l : ALoop) (r : Loop) (cs : Code → AC → Prop) : Prop where
  st : (match r.state with | .ready => 0 | .busy => 1 | .done => 2 | .exhausted => 3) = l.st
  pend : (match r.pending, l.pend with
    | none, none => True
    | some (.exit i), some (.ext j) => i = j
    | some (.goto i), some (.gto j) => i = j
    | some .ret, some .ret => True
    | _, _ => False)
  size : l.nt ≤ r.tmps.size
  tmps : ∀ t, R D w V ρ ((l.r.get t).getD (.tup [])) (r.tmps.getD t undef)
  ps : r.params.toList = l.ps
  asg : cs r.assign l.asg
  body : cs r.body l.body

/-- Which code is told by which abstract code (filled in where the code is compiled). -/
structure CodeRel where
  rel : Nat → Code → AC → Prop

def BRel (C : CodeRel) (D : Nat → Prop) (w : World) (V : Ids) (ρ : Ren) (b : Nat) : Blk → Prop
  | .cells cs fz => (fz = true → D b) ∧ (fz = false → ¬ D b) ∧ ∃ (real : Array Value) (ty : TypeId) (mk : Nat × Nat), w.heap[b]? = some (Obj.cells real ty mk) ∧ noMark mk real.size ∧ cs.length ≤ real.size ∧
      ∀ (j : Nat) (x : AV), cs[j]? = some x → ∃ v, real[j]? = some v ∧ R D w V ρ x v
  | .map es => ¬ D b ∧ ∃ (ents : Array MapEntry) (clock : Nat), w.heap[b]? = some (.map ents clock) ∧ ents.size = es.length ∧
      ∀ (j : Nat) (x : AV × AV), es[j]? = some x → ∃ e : MapEntry, ents[j]? = some e ∧ R D w V ρ x.1 e.key ∧ R D w V ρ x.2 e.val
  | .loop l => ¬ D b ∧ ∃ r, w.heap[b]? = some (.loop r) ∧ LRel D w V ρ l r (C.rel l.nt)
  | .own .. => False

structure HRel (C : CodeRel) (D : Nat → Prop) (w : World) (V : Ids) (ρ : Ren) (h : T Blk) : Prop where
  lo : ∀ id, ¬ V id → h.get id = none
  dom : ∀ id b, ρ id = some b → ∃ k, h.get id = some k
  inj : ∀ i j b, ρ i = some b → ρ j = some b → i = j
  bk : ∀ id k, h.get id = some k → ∃ b, ρ id = some b ∧ BRel C D w V ρ b k

structure SRel (C : CodeRel) (D : Nat → Prop) (w : World) (V : Ids) (ρ : Ren) (nt : Nat) (s : St) (a : Act) : Prop where
  size : nt ≤ a.tmps.size
  regs : ∀ t, R D w V ρ (s.rg t) (a.tmps.getD t undef)
  heap : HRel C D w V ρ s.h
  top : ∀ i, V i → i < s.nx
  db : ∀ b, D b → b < w.heap.size

theorem HRel.lt {C : CodeRel} {D : Nat → Prop} {w : World} {V : Ids} {ρ : Ren} {h : T Blk} (H : HRel C D w V ρ h) {id b : Nat} (hb : ρ id = some b) : V id := by
  obtain ⟨k, hk⟩ := H.dom id b hb
  refine Classical.byContradiction fun hle => ?_
  rw [H.lo id hle] at hk; cases hk
theorem BRel.lt {C : CodeRel} {D : Nat → Prop} {w : World} {V : Ids} {ρ : Ren} {b : Nat} {k : Blk} (h : BRel C D w V ρ b k) : b < w.heap.size := by
  have key : ∀ o, w.heap[b]? = some o → b < w.heap.size := fun o ho => (Array.getElem?_eq_some_iff.1 ho).1
  cases k with
  | cells cs fz => obtain ⟨_, _, _, _, _, h, _⟩ := h; exact key _ h
  | map es => obtain ⟨_, _, _, h, _⟩ := h; exact key _ h
  | loop l => obtain ⟨_, _, h, _⟩ := h; exact key _ h
  | own => exact h.elim
theorem HRel.blt {C : CodeRel} {D : Nat → Prop} {w : World} {V : Ids} {ρ : Ren} {h : T Blk} (H : HRel C D w V ρ h) {id b : Nat} (hb : ρ id = some b) : b < w.heap.size := by
  obtain ⟨k, hk⟩ := H.dom id b hb
  obtain ⟨b', h1, h2⟩ := H.bk id k hk
  rw [hb] at h1; cases h1; exact h2.lt
end Go.Proofs.Hz
