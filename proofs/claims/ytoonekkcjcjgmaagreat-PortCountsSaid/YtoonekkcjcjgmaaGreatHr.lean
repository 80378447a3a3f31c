/-
  From a reading of an argument to the evaluator's values; from an answer to the row's 'post'.
  Conditions: none (lemmas).
-/
import Derived.Test.YtoonekkcjcjgmaaGreatHz2
import Derived.Test.YtoonekkcjcjgmaaGreatHv
import Derived.ProofKit
import Derived.OpenShut
namespace Go.Proofs.Hz
open Go.ChangeShapes Go.WideShapes Go.RowKit

/-- The shape of what a type's cells say. -/
def SH (P : Program) : Nat → TypeId → List AV → Prop
  | 0, _, _ => False
  | n + 1, t, xs => match P.underlying t with
    | some .bool => ∃ b, xs = [.bool b]
    | some (.int k) => ∃ m, xs = [.int k m] ∧ (Lit.int k m).wf = true
    | some .string => ∃ s : List UInt8, xs = [.str s] ∧ s.length ≤ maxLen
    | some (.slice e) => ∃ els c, xs = [.im els c] ∧ els.length ≤ maxLen ∧ ∀ el ∈ els, SH P n e el
    | some (.struct fs) => ∃ parts : List (List AV), xs = parts.flatten ∧ parts.length = fs.size ∧ ∀ (i : Nat) (f : Field) (p : List AV), fs[i]? = some f → parts[i]? = some p → SH P n f.type p
    | some (.array k e) => ∃ parts : List (List AV), xs = parts.flatten ∧ parts.length = k ∧ ∀ p ∈ parts, SH P n e p
    | _ => False
/-- Each field stands behind the one ahead of it. -/
def offsOk (P : Program) : Nat → List Field → Nat → Bool
  | acc, [], n => decide (acc = n)
  | acc, f :: fs, n => decide (f.offset = acc) && offsOk P (acc + P.cellsOf f.type) fs n
/-- Types whose values are plain, all the way down. -/
def plainTy (P : Program) : Nat → TypeId → Bool
  | 0, _ => false
  | n + 1, t => match P.underlying t with
    | some .bool => true
    | some (.int _) => true
    | some .string => true
    | some (.slice e) => decide (0 < P.cellsOf e) && plainTy P n e
    | some (.struct fs) => fs.toList.all (fun f => plainTy P n f.type) && offsOk P 0 fs.toList (P.cellsOf t)
    | some (.array k e) => plainTy P n e && decide (k * P.cellsOf e = P.cellsOf t)
    | _ => false

section
variable {H : Type} {enc : TypeId × Value → H} {P : Program} {w : World} {held : Bool}

theorem pieces_fields {D : Nat → Prop} : ∀ (fs : List Field) (acc n : Nat) (cs : List Value) (parts : List (List AV)), offsOk P acc fs n = true → cs.length = n → acc ≤ n → parts.length = fs.length →
    (∀ (i : Nat) (f : Field) (p : List AV), fs[i]? = some f → parts[i]? = some p → RL D w Ids.none Ren.none p ((cs.drop f.offset).take (P.cellsOf f.type))) → RL D w Ids.none Ren.none parts.flatten (cs.drop acc)
  | [], acc, n, cs, parts, ho, hl, ha, hp, _ => by
    have : parts = [] := List.eq_nil_of_length_eq_zero (by simpa using hp)
    subst this
    simp only [offsOk, decide_eq_true_eq] at ho
    subst ho
    rw [List.drop_of_length_le (by omega)]
    exact RL.nil
  | f :: fs, acc, n, cs, parts, ho, hl, ha, hp, h => by
    simp only [offsOk, Bool.and_eq_true, decide_eq_true_eq] at ho
    cases parts with
    | nil => simp at hp
    | cons p ps =>
      have h0 := h 0 f p rfl rfl
      rw [ho.1] at h0
      have hle : acc + P.cellsOf f.type ≤ n := by
        have key : ∀ (gs : List Field) (a : Nat), offsOk P a gs n = true → a ≤ n := by
          intro gs
          induction gs with
          | nil => intro a h; simp only [offsOk, decide_eq_true_eq] at h; omega
          | cons g gs ih => intro a h; simp only [offsOk, Bool.and_eq_true, decide_eq_true_eq] at h; have := ih _ h.2; omega
        exact key _ _ ho.2
      have h1 := pieces_fields fs (acc + P.cellsOf f.type) n cs ps ho.2 hl hle (by simpa using hp) (fun i g q hg hq => h (i + 1) g q (by simpa using hg) (by simpa using hq))
      have := h0.append h1
      rw [← List.drop_drop, List.take_append_drop] at this
      simpa using this
theorem pieces_elems {D : Nat → Prop} (sz : Nat) : ∀ (parts : List (List AV)) (i : Nat) (cs : List Value), cs.length = (i + parts.length) * sz →
    (∀ (j : Nat) (p : List AV), parts[j]? = some p → RL D w Ids.none Ren.none p ((cs.drop ((i + j) * sz)).take sz)) → RL D w Ids.none Ren.none parts.flatten (cs.drop (i * sz))
  | [], i, cs, hl, _ => by
    rw [List.drop_of_length_le (by simp at hl; omega)]
    exact RL.nil
  | p :: ps, i, cs, hl, h => by
    have h0 := h 0 p rfl
    have h1 := pieces_elems sz ps (i + 1) cs (by rw [hl]; simp only [List.length_cons]; congr 1; omega) (fun j q hq => by
      have := h (j + 1) q (by simpa using hq)
      rwa [show i + 1 + j = i + (j + 1) by omega])
    have := h0.append h1
    rw [Nat.add_zero, show (i + 1) * sz = i * sz + sz by rw [Nat.add_mul]; omega, ← List.drop_drop, List.take_append_drop] at this
    simpa using this

/-- What is read of a value of a plain type, the evaluator can say. -/
theorem trod_abs : ∀ (n : Nat) (fuel : Nat) (t : TypeId) (cs : List Value) (x : DataW H × List MemPlace), plainTy P n t = true → DataW.trod enc P w 0 (fun _ => true) held fuel t cs = some x →
    ∃ xs : List AV, RL (fun b => b < w.heap.size) w Ids.none Ren.none xs cs ∧ SH P n t xs := by
  intro n
  induction n with
  | zero => intro fuel t cs x h; cases h
  | succ n ih =>
    intro fuel t cs x hp hx
    unfold plainTy at hp
    split at hp
    · rename_i ht
      obtain ⟨b, rfl, _⟩ := DataW.trod_bool ht hx
      exact ⟨[.bool b], RL.cons (.bool b) RL.nil, by unfold SH; rw [ht]; exact ⟨b, rfl⟩⟩
    · rename_i k ht
      obtain ⟨m, rfl, _, hw⟩ := DataW.trod_int ht hx
      exact ⟨[.int k m], RL.cons (.int k m) RL.nil, by unfold SH; rw [ht]; exact ⟨m, rfl, hw⟩⟩
    · rename_i ht
      obtain ⟨s, rfl, _, hl⟩ := DataW.trod_string ht hx
      refine ⟨[.str s.data.toList], RL.cons (.str s rfl) RL.nil, ?_⟩
      unfold SH; rw [ht]
      exact ⟨_, rfl, by simpa using hl⟩
    · rename_i e ht
      rcases DataW.trod_slice ht hx with ⟨rfl, _⟩ | ⟨a, len, cap, elems, rest, m, _, rfl, _, _, hlc, hcm, hel, hels, hrest, _⟩
      · refine ⟨[.im [] true], RL.cons (.imn (fun _ => rfl) (fun _ => rfl)) RL.nil, ?_⟩
        unfold SH; rw [ht]
        exact ⟨[], true, rfl, Nat.zero_le _, fun el h => by cases h⟩
      · simp only [Bool.and_eq_true, decide_eq_true_eq] at hp
        obtain ⟨hsz, hp⟩ := hp
        by_cases hl0 : len = 0
        · subst hl0
          refine ⟨[.im [] (decide (cap = 0))], RL.cons (.imn (fun h => by simpa using h) (fun h => by cases h)) RL.nil, ?_⟩
          unfold SH; rw [ht]
          exact ⟨[], _, rfl, Nat.zero_le _, fun el h => by cases h⟩
        · -- the address is plain
          have hab : a.spot = none ∧ a.block < w.heap.size := by
            have h1 := hels 0 (by omega)
            rw [List.getElem?_eq_getElem (by omega)] at h1
            cases hc : w.cells? 0 (a.add (0 * P.cellsOf e)) (P.cellsOf e) with
            | none => rw [hc] at h1; cases h1
            | some cs =>
              obtain ⟨_, hl, hg⟩ := World.cells?_some hc
              have := hg 0 hsz
              rw [List.getElem?_eq_getElem (by omega)] at this
              rw [show (a.add (0 * P.cellsOf e)).add 0 = a by simp [Addr.add]] at this
              unfold World.cell? at this
              split at this
              · rename_i hh
                split at this
                · cases this
                · rename_i h; exact ⟨by simpa using h, (Array.getElem?_eq_some_iff.1 hh).1⟩
              · cases this
          obtain ⟨ab, ao, asp⟩ := a
          obtain ⟨h1, hblk⟩ := hab
          simp only at h1 hblk
          subst h1
          have one : ∀ i, i < len → ∃ xs : List AV, SH P n e xs ∧ xs.length = P.cellsOf e ∧ ∀ (j : Nat), j < P.cellsOf e → ∃ v, w.cell? ⟨ab, ao + (i * P.cellsOf e + j), none⟩ = some v ∧ ∀ y, xs[j]? = some y → R (fun b => b < w.heap.size) w Ids.none Ren.none y v := fun i hi => by
            have h1 := hels i hi
            rw [List.getElem?_eq_getElem (by omega)] at h1
            cases hc : w.cells? 0 ((⟨ab, ao, none⟩ : Addr).add (i * P.cellsOf e)) (P.cellsOf e) with
            | none => rw [hc] at h1; cases h1
            | some cs =>
              rw [hc] at h1
              obtain ⟨_, hl, hg⟩ := World.cells?_some hc
              obtain ⟨xs, hR, hS⟩ := ih m e cs _ hp h1
              refine ⟨xs, hS, by rw [hR.1, hl], fun j hj => ⟨cs[j], ?_, fun y hy => hR.2 j y _ hy (List.getElem?_eq_getElem (by omega))⟩⟩
              have := hg j hj
              rw [List.getElem?_eq_getElem (by omega), addr_add, addr_add, Nat.add_assoc] at this
              exact this
          -- choose
          have ⟨f, hf⟩ : ∃ f : Nat → List AV, ∀ i, i < len → SH P n e (f i) ∧ (f i).length = P.cellsOf e ∧ ∀ (j : Nat), j < P.cellsOf e → ∃ v, w.cell? ⟨ab, ao + (i * P.cellsOf e + j), none⟩ = some v ∧ ∀ y, (f i)[j]? = some y → R (fun b => b < w.heap.size) w Ids.none Ren.none y v :=
            ⟨fun i => if h : i < len then (one i h).choose else [], fun i hi => by simp only [dif_pos hi]; exact (one i hi).choose_spec⟩
          let els := (List.range len).map f
          have hle : els.length = len := by simp [els]
          have hgt : ∀ i, i < len → els[i]? = some (f i) := fun i hi => by simp [els, hi]
          have hmem : ∀ el ∈ els, ∃ i, i < len ∧ el = f i := fun el he => by
            obtain ⟨i, hi, rfl⟩ := List.mem_map.1 he
            exact ⟨i, List.mem_range.1 hi, rfl⟩
          have hS : SH P (n + 1) t [.im els (decide (cap = len))] := by
            unfold SH; rw [ht]
            exact ⟨els, _, rfl, by rw [hle]; omega, fun el he => by obtain ⟨i, hi, rfl⟩ := hmem el he; exact (hf i hi).1⟩
          refine ⟨_, ?_, hS⟩
          refine RL.cons ?_ RL.nil
          have := R.im (D := fun b => b < w.heap.size) (w := w) (V := Ids.none) (ρ := Ren.none) (els := els) (clip := decide (cap = len)) (b := ab) (o := ao) (sz := P.cellsOf e) (cap := cap)
            (fun i j => (w.cell? ⟨ab, ao + (i * P.cellsOf e + j), none⟩).getD (.bool false)) (by omega) (fun h => by simpa [hle] using h) hblk (fun el he => by obtain ⟨i, hi, rfl⟩ := hmem el he; exact (hf i hi).2.1)
            (fun i j hi hj => by
              obtain ⟨v, hv, _⟩ := (hf i (by omega)).2.2 j hj
              rw [hv]; rfl)
            (fun i j el y he hy => by
              have hi : i < len := by rw [← hle]; exact (List.getElem?_eq_some_iff.1 he).1
              rw [hgt i hi] at he; cases he
              have hj : j < P.cellsOf e := by rw [← (hf i hi).2.1]; exact (List.getElem?_eq_some_iff.1 hy).1
              obtain ⟨v, hv, h1⟩ := (hf i hi).2.2 j hj
              rw [hv]; exact h1 y hy)
          rw [hle] at this
          exact this
    · rename_i fs ht
      simp only [Bool.and_eq_true] at hp
      obtain ⟨xs, m, _, _, hl, hxl, hxs⟩ := DataW.trod_struct ht hx
      have one : ∀ i (hi : i < fs.size), ∃ p : List AV, RL (fun b => b < w.heap.size) w Ids.none Ren.none p ((cs.drop fs[i].offset).take (P.cellsOf fs[i].type)) ∧ SH P n fs[i].type p := fun i hi => by
        have h1 := hxs i fs[i] (Array.getElem?_eq_getElem hi)
        rw [List.getElem?_eq_getElem (by omega)] at h1
        exact ih m _ _ _ (List.all_eq_true.1 hp.1 fs[i] (by simp)) h1
      have ⟨f, hf⟩ : ∃ f : Nat → List AV, ∀ i (hi : i < fs.size), RL (fun b => b < w.heap.size) w Ids.none Ren.none (f i) ((cs.drop fs[i].offset).take (P.cellsOf fs[i].type)) ∧ SH P n fs[i].type (f i) :=
        ⟨fun i => if h : i < fs.size then (one i h).choose else [], fun i hi => by simp only [dif_pos hi]; exact (one i hi).choose_spec⟩
      refine ⟨((List.range fs.size).map f).flatten, ?_, ?_⟩
      · have := pieces_fields (P := P) (w := w) (D := fun b => b < w.heap.size) fs.toList 0 (P.cellsOf t) cs ((List.range fs.size).map f) hp.2 hl (Nat.zero_le _) (by simp) (fun i g p hg hq => by
          have hi : i < fs.size := by have := (List.getElem?_eq_some_iff.1 hg).1; simpa using this
          have e1 : fs[i] = g := by
            have := (List.getElem?_eq_some_iff.1 hg).2; simpa using this
          have e2 : f i = p := by simpa [hi] using hq
          rw [← e1, ← e2]; exact (hf i hi).1)
        simpa using this
      · unfold SH; rw [ht]
        refine ⟨_, rfl, by simp, fun i g p hg hq => ?_⟩
        obtain ⟨hi, e1⟩ := Array.getElem?_eq_some_iff.1 hg
        have e2 : f i = p := by simpa [hi] using hq
        rw [← e1, ← e2]; exact (hf i hi).2
    · rename_i k e ht
      simp only [Bool.and_eq_true, decide_eq_true_eq] at hp
      obtain ⟨xs, m, _, _, hl, hxl, hxs⟩ := DataW.trod_array ht hx
      have one : ∀ i, i < k → ∃ p : List AV, RL (fun b => b < w.heap.size) w Ids.none Ren.none p ((cs.drop (i * P.cellsOf e)).take (P.cellsOf e)) ∧ SH P n e p := fun i hi => by
        have h1 := hxs i hi
        rw [List.getElem?_eq_getElem (by omega)] at h1
        exact ih m _ _ _ hp.1 h1
      have ⟨f, hf⟩ : ∃ f : Nat → List AV, ∀ i, i < k → RL (fun b => b < w.heap.size) w Ids.none Ren.none (f i) ((cs.drop (i * P.cellsOf e)).take (P.cellsOf e)) ∧ SH P n e (f i) :=
        ⟨fun i => if h : i < k then (one i h).choose else [], fun i hi => by simp only [dif_pos hi]; exact (one i hi).choose_spec⟩
      refine ⟨((List.range k).map f).flatten, ?_, ?_⟩
      · have := pieces_elems (w := w) (D := fun b => b < w.heap.size) (P.cellsOf e) ((List.range k).map f) 0 cs (by rw [hl, ← hp.2]; simp) (fun j p hq => by
          have hj : j < k := by have := (List.getElem?_eq_some_iff.1 hq).1; simpa using this
          have e2 : f j = p := by simpa [hj] using hq
          rw [← e2, Nat.zero_add]; exact (hf j hj).1)
        simpa using this
      · unfold SH; rw [ht]
        refine ⟨_, rfl, by simp, fun p hp' => ?_⟩
        obtain ⟨i, hi, rfl⟩ := List.mem_map.1 hp'
        exact (hf i (List.mem_range.1 hi)).2
    · cases hp

/-- The value of an argument, by its cells. -/
def argV (P : Program) (t : TypeId) (xs : List AV) : AV := match P.underlying t with
  | some (.struct _) => .agg xs
  | some (.array _ _) => .agg xs
  | _ => xs.headD .nilp
theorem arg_abs {n : Nat} {t : TypeId} {v : Value} {d : DataW H} {ps : List MemPlace} {base : Nat} (hp : plainTy P n t = true) (hval : Value.okWide P w .any base t v) (h : DataW.Trod enc P w 0 (fun _ => true) held t v d ps) :
    ∃ xs : List AV, SH P n t xs ∧ R (fun b => b < w.heap.size) w Ids.none Ren.none (argV P t xs) v := by
  obtain ⟨fuel, hf⟩ := h
  obtain ⟨xs, hR, hS⟩ := trod_abs n fuel t _ _ hp hf
  refine ⟨xs, hS, ?_⟩
  cases n with
  | zero => cases hp
  | succ n =>
    unfold plainTy at hp
    unfold Value.okWide at hval
    unfold argV
    have single : ∀ {x : AV}, xs = [x] → (∀ cs, v ≠ .agg cs) → R (fun b => b < w.heap.size) w Ids.none Ren.none (xs.headD .nilp) v := fun {x} hx hne => by
      subst hx
      have hc : v.cells.toList = [v] := by cases v <;> first | rfl | exact absurd rfl (hne _)
      rw [hc] at hR
      exact hR.2 0 _ _ rfl rfl
    have noagg : ∀ {q : TypeDesc}, P.underlying t = some q → (match q with | .struct _ => False | .array _ _ => False | _ => True) → (∀ cs, v ≠ .agg cs) := fun {q} hq hn cs hv => by
      subst hv
      rw [hq] at hval
      unfold SH at hS
      rw [hq] at hS hp
      cases q <;> first | exact hn.elim | (exact hS.elim) | (simp [Cell.okWide, Cell.ok, hq] at hval)
    cases hu : P.underlying t with
    | none => rw [hu] at hp; cases hp
    | some q =>
      rw [hu] at hp
      have hna := noagg hu
      unfold SH at hS
      rw [hu] at hS hval
      cases q <;> first | (cases hp; done) | skip
      case bool => obtain ⟨b, hx⟩ := hS; exact single hx (hna trivial)
      case int k => obtain ⟨m, hx, _⟩ := hS; exact single hx (hna trivial)
      case string => obtain ⟨m, hx, _⟩ := hS; exact single hx (hna trivial)
      case slice e => obtain ⟨els, c, hx, _⟩ := hS; exact single hx (hna trivial)
      case struct fs =>
        obtain ⟨cs, rfl, _, _⟩ := hval
        exact .agg (by simpa [Value.cells] using hR.1) (fun j x u hx hu' => hR.2 j x u hx (by simpa [Value.cells, Array.getElem?_toList] using hu'))
      case array k e =>
        obtain ⟨cs, rfl, _, _⟩ := hval
        exact .agg (by simpa [Value.cells] using hR.1) (fun j x u hx hu' => hR.2 j x u hx (by simpa [Value.cells, Array.getElem?_toList] using hu'))

theorem trodAll_stays {W W' : World} (hl : laidOutB P = true) (hb : Below W.heap.size W W') : ∀ {ts : List TypeId} {vs : List Value} {ds : List (DataW H)} {ps : List MemPlace}, ts.all (fun t => P.readableRec t && decide (t < P.types.size)) = true →
    DataW.TrodAll enc P W 0 (fun _ => true) true ts vs ds ps → (∀ x ∈ ps, x.block < W.heap.size) → DataW.TrodAll enc P W' 0 (fun b => decide (b < W.heap.size)) true ts vs ds ps
  | [], [], [], _, _, h, _ => h
  | t :: ts, v :: vs, d :: ds, ps, hr, ⟨p, q, h1, h2, e⟩, hlt => by
    simp only [List.all_cons, Bool.and_eq_true, decide_eq_true_eq] at hr
    exact ⟨p, q, Below.trod hl hr.1.1 hr.1.2 h1 hb (fun x hx => hlt x (by rw [e]; simp [hx])), trodAll_stays hl hb hr.2 h2 (fun x hx => hlt x (by rw [e]; simp [hx])), e⟩
  | [], [], _ :: _, _, _, h, _ => h.elim
  | [], _ :: _, _, _, _, h, _ => h.elim
  | _ :: _, [], _, _, _, h, _ => h.elim
  | _ :: _, _ :: _, [], _, _, h, _ => h.elim
/-- A law's 'post': true, and all is as it was. -/
theorem law_post {fn : Func} {s : ChangeSpec} {W W' : World} {args : Array Value} {ds : List (DataW H)} {before : List MemPlace} {tb : TypeId} (hl : laidOutB P = true) (hsv : s.vars = [])
    (hW : DataW.Whole enc P fn.params.toList s.vars false W args.toList ds [] before) (htr : DataW.TrodAll enc P W 0 (fun _ => true) true fn.params.toList args.toList ds before)
    (hs : s.fn H (ds ++ []) = { results := [.lit (.bool true)], args := ds }) (hr : fn.params.toList.all (fun t => P.readableRec t && decide (t < P.types.size)) = true)
    (hres : fn.resultTypes = #[tb]) (hb : P.underlying tb = some .bool) (hbl : Below W.heap.size W W') : s.post enc P fn false true false false W args (.bool true) W' := by
  refine ⟨ds, [], before, [], before, [], hW, ?_, ?_, ?_, hbl.frame _, fun h => by cases h⟩
  · rw [hs, hres]
    exact trodAll_mk1 ⟨1, by simp [DataW.trod, Value.cells, hb]⟩
  · rw [hs]
    exact trodAll_stays hl hbl hr htr (fun x hx => by simpa using hW.lt x hx)
  · rw [hs, hsv]; rfl
/-- A law's call, by what it answers. -/
theorem law_calls {G : Gl} {F : Nat → Option AFn} {pu : Nat → Nat} (hF : FOk P pu F) (hX : ∀ f k, Gl.X f = some k → KOk1 P f k) (gl : GOk (fun b => b < w.heap.size) w) {f : Nat} {args : List AV} {vals : List Value} (hs : Spec F f args (.bool true)) (hR : RL (fun b => b < w.heap.size) w Ids.none Ren.none args vals) :
    Calls P f vals.toArray w fun e w' => e = .returned (.bool true) ∧ Below w.heap.size w w' := by
  obtain ⟨n, hn⟩ := hs
  refine (run_ok hF (X := Gl.X) hX hn (fun b hb => hb) gl hR).mono fun e w' ⟨val, D', h1, h2, h3⟩ => ?_
  cases h2
  exact ⟨h1, h3.os, h3.tape, h3.output, h3.size, fun k hk => h3.frame k hk (.inl hk)⟩
theorem ints_of {P : Program} {n : Nat} {e : TypeId} (he : P.underlying e = some (.int .i64)) : ∀ {els : List (List AV)}, (∀ el ∈ els, SH P (n + 1) e el) → ∃ l : List Int, els = l.map eI ∧ ∀ x ∈ l, -9223372036854775808 ≤ x ∧ x ≤ 9223372036854775807
  | [], _ => ⟨[], rfl, fun x h => by cases h⟩
  | el :: els, h => by
    obtain ⟨l, rfl, hl⟩ := ints_of he (els := els) fun x hx => h x (List.mem_cons_of_mem _ hx)
    have h0 := h el (List.mem_cons_self ..)
    unfold SH at h0
    rw [he] at h0
    obtain ⟨m, rfl, hw⟩ := h0
    refine ⟨m :: l, rfl, fun x hx => ?_⟩
    rcases List.mem_cons.1 hx with rfl | hx
    · exact bounds_i64 hw
    · exact hl x hx
end
end Go.Proofs.Hz
