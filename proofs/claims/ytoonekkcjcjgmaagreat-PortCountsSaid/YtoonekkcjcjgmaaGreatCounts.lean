/-
  'hazellaw14.PortCounts' returns true for every system, and its argument reads afterwards as it read before.
  Conditions: none.
-/
import Derived.Test.YtoonekkcjcjgmaaGreatRows
import Derived.Test.YtoonekkcjcjgmaaGreatN
import Derived.Test.YtoonekkcjcjgmaaGreatHr
import Derived.Test.YtoonekkcjcjgmaaGreatWe
namespace Go.Proofs.YtoonekkcjcjgmaaGreat
open Go.ChangeShapes Go.WideShapes Go.ChangeAt Go.RowKit Go.Proofs.Hz
set_option maxRecDepth 100000

theorem own : ownKnob Tryz.prog.godebug = none := by kernel_rfl
theorem laidOut : laidOutB Tryz.prog = true := by kernel_rfl
theorem u3 : Tryz.prog.underlying 3 = some (.int .i64) := by kernel_rfl
theorem u4 : Tryz.prog.underlying 4 = some .bool := by kernel_rfl
theorem u33 : Tryz.prog.underlying 33 = some (.int .i64) := by kernel_rfl
theorem u22 : Tryz.prog.underlying 22 = some (.slice 3) := by kernel_rfl
theorem u25 : Tryz.prog.underlying 25 = some (.slice 57) := by kernel_rfl
theorem u54 : Tryz.prog.underlying 54 = some (.slice 50) := by kernel_rfl
theorem u48 : Tryz.prog.underlying 48 = some (.array 8 3) := by kernel_rfl
theorem u55 : Tryz.prog.underlying 55 = some (.array 3 3) := by kernel_rfl
theorem u24 : ∃ fs : Array Field, Tryz.prog.underlying 24 = some (.struct fs) ∧ fs.toList.map (·.type) = [22, 22, 4] := ⟨_, rfl, by kernel_rfl⟩
theorem u28 : ∃ fs : Array Field, Tryz.prog.underlying 28 = some (.struct fs) ∧ fs.toList.map (·.type) = [24, 25, 26] := ⟨_, rfl, by kernel_rfl⟩
theorem u50 : ∃ fs : Array Field, Tryz.prog.underlying 50 = some (.struct fs) ∧ fs.toList.map (·.type) = [3, 3, 48, 22] := ⟨_, rfl, by kernel_rfl⟩
theorem u57 : ∃ fs : Array Field, Tryz.prog.underlying 57 = some (.struct fs) ∧ fs.toList.map (·.type) = [54, 3, 33, 55, 22] := ⟨_, rfl, by kernel_rfl⟩
theorem u143 : ∃ fs : Array Field, Tryz.prog.underlying 143 = some (.struct fs) ∧ fs.toList.map (·.type) = [3, 3, 3, 3, 3] := ⟨_, rfl, by kernel_rfl⟩

theorem int_of {n : Nat} {xs : List AV} (h : SH Tryz.prog (n + 1) 3 xs) : ∃ m, xs = [.int .i64 m] ∧ -9223372036854775808 ≤ m ∧ m ≤ 9223372036854775807 := by
  unfold SH at h
  rw [u3] at h
  obtain ⟨m, rfl, hw⟩ := h
  exact ⟨m, rfl, bounds_i64 hw⟩
theorem err_of {n : Nat} {xs : List AV} (h : SH Tryz.prog (n + 1) 33 xs) : ∃ m, xs = [.int .i64 m] := by
  unfold SH at h
  rw [u33] at h
  obtain ⟨m, rfl, _⟩ := h
  exact ⟨m, rfl⟩
theorem bool_of {n : Nat} {xs : List AV} (h : SH Tryz.prog (n + 1) 4 xs) : ∃ b, xs = [.bool b] := by
  unfold SH at h
  rw [u4] at h
  exact h
theorem parts_of {n t : Nat} {xs : List AV} {fs : Array Field} {ts : List Nat} (hu : Tryz.prog.underlying t = some (.struct fs)) (hf : fs.toList.map (·.type) = ts) (h : SH Tryz.prog (n + 1) t xs) :
    ∃ parts : List (List AV), xs = parts.flatten ∧ parts.length = ts.length ∧ ∀ (i : Nat) (u : Nat) (p : List AV), ts[i]? = some u → parts[i]? = some p → SH Tryz.prog n u p := by
  unfold SH at h
  rw [hu] at h
  obtain ⟨parts, rfl, hl, hp⟩ := h
  refine ⟨parts, rfl, by rw [hl, ← hf]; simp, fun i u p hi hq => ?_⟩
  rw [← hf, List.getElem?_map, Option.map_eq_some_iff] at hi
  obtain ⟨f, h1, h2⟩ := hi
  rw [← h2]
  exact hp i f p (by rwa [Array.getElem?_toList] at h1) hq
theorem ints {n : Nat} {xs : List AV} (h : SH Tryz.prog (n + 2) 22 xs) : ∃ (l : List Int) (b : Bool), xs = [.im (l.map eI) b] ∧ ∀ x ∈ l, -9223372036854775808 ≤ x ∧ x ≤ 9223372036854775807 := by
  unfold SH at h
  rw [u22] at h
  obtain ⟨els, c, rfl, _, he⟩ := h
  obtain ⟨l, rfl, hl⟩ := ints_of u3 he
  exact ⟨l, c, rfl, hl⟩
theorem arr_of {n t k : Nat} {xs : List AV} (hu : Tryz.prog.underlying t = some (.array k 3)) (h : SH Tryz.prog (n + 2) t xs) : ∃ l : List Int, xs = l.map (AV.int .i64) ∧ l.length = k ∧ ∀ x ∈ l, -9223372036854775808 ≤ x ∧ x ≤ 9223372036854775807 := by
  unfold SH at h
  rw [hu] at h
  obtain ⟨parts, rfl, hl, hp⟩ := h
  obtain ⟨l, rfl, hb⟩ := ints_of u3 hp
  refine ⟨l, ?_, by simpa using hl, hb⟩
  clear hl hp hb
  induction l with
  | nil => rfl
  | cons a l ih => simp [eI] at ih ⊢; exact ih
/-- The numbers of a frame and of a core are numbers of 64 bits. -/
def FrS.small (f : FrS) : Prop := (∀ x ∈ [f.op, f.pc, f.r0, f.r1, f.r2, f.r3, f.r4, f.r5, f.r6, f.r7], -9223372036854775808 ≤ x ∧ x ≤ 9223372036854775807) ∧ ∀ x ∈ f.s, -9223372036854775808 ≤ x ∧ x ≤ 9223372036854775807
theorem frame_of {n : Nat} {xs : List AV} (h : SH Tryz.prog (n + 3) 50 xs) : ∃ f : FrS, xs = eFr f ∧ FrS.small f := by
  obtain ⟨fs, hu, hf⟩ := u50
  obtain ⟨parts, rfl, hl, hp⟩ := parts_of hu hf h
  match parts, hl with
  | [p0, p1, p2, p3], _ =>
    obtain ⟨a, rfl, ha⟩ := int_of (hp 0 3 p0 rfl rfl)
    obtain ⟨b, rfl, hb⟩ := int_of (hp 1 3 p1 rfl rfl)
    obtain ⟨r, rfl, hr, hr1⟩ := arr_of u48 (hp 2 48 p2 rfl rfl)
    obtain ⟨s, bs, rfl, hs⟩ := ints (hp 3 22 p3 rfl rfl)
    match r, hr with
    | [r0, r1, r2, r3, r4, r5, r6, r7], _ =>
      refine ⟨⟨a, b, r0, r1, r2, r3, r4, r5, r6, r7, s, bs⟩, rfl, ?_, hs⟩
      intro x hx
      rcases List.mem_cons.1 hx with rfl | hx
      · exact ha
      · rcases List.mem_cons.1 hx with rfl | hx
        · exact hb
        · exact hr1 x hx
theorem list_of {α : Type} {n t : Nat} {e : α → List AV} {Q : α → Prop} (h1 : ∀ xs, SH Tryz.prog n t xs → ∃ a, xs = e a ∧ Q a) : ∀ {els : List (List AV)}, (∀ el ∈ els, SH Tryz.prog n t el) → ∃ l : List α, els = l.map e ∧ ∀ x ∈ l, Q x
  | [], _ => ⟨[], rfl, fun x h => by cases h⟩
  | el :: els, h => by
    obtain ⟨l, rfl, hl⟩ := list_of h1 (els := els) fun x hx => h x (List.mem_cons_of_mem _ hx)
    obtain ⟨a, rfl, ha⟩ := h1 el (h el (List.mem_cons_self ..))
    refine ⟨a :: l, rfl, fun x hx => ?_⟩
    rcases List.mem_cons.1 hx with rfl | hx
    · exact ha
    · exact hl x hx
theorem core_of {n : Nat} {xs : List AV} (h : SH Tryz.prog (n + 5) 57 xs) : ∃ c : CoS, xs = eCo c ∧ ∀ f ∈ c.f, FrS.small f := by
  obtain ⟨fs, hu, hf⟩ := u57
  obtain ⟨parts, rfl, hl, hp⟩ := parts_of hu hf h
  match parts, hl with
  | [p0, p1, p2, p3, p4], _ =>
    have h0 := hp 0 54 p0 rfl rfl
    unfold SH at h0
    rw [u54] at h0
    obtain ⟨els, bf, rfl, _, he⟩ := h0
    obtain ⟨l, rfl, hl⟩ := list_of (fun xs => frame_of) he
    obtain ⟨v, rfl, _⟩ := int_of (hp 1 3 p1 rfl rfl)
    obtain ⟨e, rfl⟩ := err_of (hp 2 33 p2 rfl rfl)
    obtain ⟨x, rfl, hx, _⟩ := arr_of u55 (hp 3 55 p3 rfl rfl)
    obtain ⟨r, br, rfl, _⟩ := ints (hp 4 22 p4 rfl rfl)
    match x, hx with
    | [x0, x1, x2], _ => exact ⟨⟨l, bf, v, e, x0, x1, x2, r, br⟩, rfl, hl⟩
theorem ev_of {n : Nat} {xs : List AV} (h : SH Tryz.prog (n + 2) 143 xs) : ∃ x : EvS, xs = eEv x ∧ True := by
  obtain ⟨fs, hu, hf⟩ := u143
  obtain ⟨parts, rfl, hl, hp⟩ := parts_of hu hf h
  match parts, hl with
  | [p0, p1, p2, p3, p4], _ =>
    obtain ⟨a, rfl, _⟩ := int_of (hp 0 3 p0 rfl rfl)
    obtain ⟨b, rfl, _⟩ := int_of (hp 1 3 p1 rfl rfl)
    obtain ⟨c, rfl, _⟩ := int_of (hp 2 3 p2 rfl rfl)
    obtain ⟨d, rfl, _⟩ := int_of (hp 3 3 p3 rfl rfl)
    obtain ⟨e, rfl, _⟩ := int_of (hp 4 3 p4 rfl rfl)
    exact ⟨⟨a, b, c, d, e⟩, rfl, trivial⟩
theorem u26e : Tryz.prog.underlying 26 = some (.slice 143) := by kernel_rfl
/-- The words of a system's memory are numbers of 64 bits. -/
def SyS.words (s : SyS) : Prop := (∀ x ∈ s.w, -9223372036854775808 ≤ x ∧ x ≤ 9223372036854775807) ∧ ∀ x ∈ s.g, -9223372036854775808 ≤ x ∧ x ≤ 9223372036854775807
theorem sys_of {n : Nat} {xs : List AV} (h : SH Tryz.prog (n + 7) 28 xs) : ∃ s : SyS, xs = s.cells ∧ SyS.words s := by
  obtain ⟨fs, hu, hf⟩ := u28
  obtain ⟨parts, rfl, hl, hp⟩ := parts_of hu hf h
  match parts, hl with
  | [p0, p1, p2], _ =>
    have hm := hp 0 24 p0 rfl rfl
    obtain ⟨gs, hu', hf'⟩ := u24
    obtain ⟨ps, rfl, hl', hp'⟩ := parts_of hu' hf' hm
    have h1 := hp 1 25 p1 rfl rfl
    unfold SH at h1
    rw [u25] at h1
    obtain ⟨els, bc, rfl, _, he⟩ := h1
    obtain ⟨c, rfl, _⟩ := list_of (fun xs => core_of) he
    have h2 := hp 2 26 p2 rfl rfl
    unfold SH at h2
    rw [u26e] at h2
    obtain ⟨els, bl, rfl, _, he⟩ := h2
    obtain ⟨l, rfl, _⟩ := list_of (fun xs => ev_of) he
    match ps, hl' with
    | [q0, q1, q2], _ =>
      obtain ⟨w, bw, rfl, hw⟩ := ints (hp' 0 22 q0 rfl rfl)
      obtain ⟨g, bg, rfl, hg⟩ := ints (hp' 1 22 q1 rfl rfl)
      obtain ⟨b, rfl⟩ := bool_of (hp' 2 4 q2 rfl rfl)
      exact ⟨⟨w, bw, g, bg, b, c, bc, l, bl⟩, rfl, hw, hg⟩
theorem argV_struct {t : Nat} {fs : Array Field} (hu : Tryz.prog.underlying t = some (.struct fs)) (xs : List AV) : argV Tryz.prog t xs = .agg xs := by
  unfold argV; rw [hu]
theorem arg_sys {H : Type} {enc : TypeId × Value → H} {w : World} {v : Value} {d : DataW H} {ps : List MemPlace} {base : Nat} (hval : Value.okWide Tryz.prog w .any base 28 v) (h : DataW.Trod enc Tryz.prog w 0 (fun _ => true) true 28 v d ps) :
    ∃ s : SyS, R (fun b => b < w.heap.size) w Ids.none Ren.none s.av v ∧ SyS.words s := by
  obtain ⟨xs, hS, hR⟩ := arg_abs (n := 10) (by kernel_rfl) hval h
  obtain ⟨s, rfl, hs⟩ := sys_of hS
  obtain ⟨fs, hu, _⟩ := u28
  rw [argV_struct hu] at hR
  exact ⟨s, hR, hs⟩
/-- No listed variable is read: the start asks for nothing. -/
theorem hX13 : ∀ f k, gl13.X f = some k → KOk1 Tryz.prog f k := fun _ _ h => by cases h
/-- A system of nothing, as a value. -/
def nilSys : Value := .agg #[.slice none 0 0, .slice none 0 0, .bool false, .slice none 0 0, .slice none 0 0]
end Go.Proofs.YtoonekkcjcjgmaaGreat
namespace Go.Proofs.YtoonekkcjcjgmaaGreat
open Go.ChangeShapes Go.WideShapes Go.ChangeAt Go.RowKit Go.Proofs.Hz
set_option maxRecDepth 100000
theorem gok13 {W : World} : GOk (fun b => b < W.heap.size) W := ⟨(fun _ _ h => by cases h), trivial⟩
theorem counts_lifted (os : Os) (started : os.Started) (H : Type) (enc : TypeId × Value → H) :
    ReturnsInHanded {} Tryz.checked os 13 .any (Rows.portCountsSpec.pre6 enc Tryz.prog Tryz.f13 Rows.portCountsRow.domain false) (Rows.portCountsSpec.post enc Tryz.prog Tryz.f13 false true false false) := by
  refine returnsInHanded_of_change (C := Tryz.checked) own started (by kernel_rfl) Tryz.func13
    (ChangeSpec.witness6 (enc := enc) (C := Tryz.checked) false ⟨#[], #[nilSys], []⟩ 12 (by kernel_rfl) (by kernel_rfl) (by kernel_rfl) (by kernel_rfl)) ?_
  intro W base args ds gs before hval0 hW hcnd _
  have hval : ∀ (j : Nat) t v, Tryz.f13.params[j]? = some t → args[j]? = some v → Value.okWide Tryz.prog W .any base t v := hval0
  have hW' := hW
  obtain ⟨p, q, hA0, hV, rfl, hfz, hnd⟩ := hW
  have hA : DataW.TrodAll enc Tryz.prog W 0 (fun _ => true) true Tryz.f13.params.toList args.toList ds p := hA0
  have hA1 := hA
  rw [Tryz.params13] at hA hval
  obtain ⟨v0, d0, rfl, rfl, h0⟩ := trodAll_one hA
  obtain ⟨rfl, rfl⟩ := trodVars_none hV
  obtain ⟨s, hs, _⟩ := arg_sys (hval 0 28 v0 rfl rfl) h0
  simp only [List.append_nil] at hW'
  refine (law_calls (pu := puN) (F := FF) (fun f af h => h) hX13 gok13 (counts_ok s) (RL.cons hs RL.nil)).mono fun e W' ⟨he, hw⟩ => ?_
  subst he
  exact ⟨_, rfl, law_post (P := Tryz.prog) laidOut rfl hW' (by simpa using hA1) rfl (by kernel_rfl) rfl u4 hw⟩

theorem counts_a4 : (Rows.portCountsRow.inPlace == Tryz.prog.inPlace 13) = true := by kernel_rfl
theorem counts_a5 : (Rows.portCountsRow.unfollowed == Tryz.prog.unfollowed 13) = true := by kernel_rfl
theorem counts_a6 : (Rows.portCountsRow.recurses == Tryz.prog.recurses 13) = true := by kernel_rfl
theorem counts_a7 : (Rows.portCountsRow.named == Tryz.prog.varsNamed 13) = true := by kernel_rfl
theorem counts_closed : joinedFacts Tryz.prog 13 Tryz.f13 Rows.portCountsSpec Rows.portCountsRow = true := by
  unfold joinedFacts
  rw [counts_a4, counts_a5, counts_a6, counts_a7]
  kernel_rfl
theorem counts_holds : Rows.PortCountsSaid :=
  OpenClaim.holds_of_wide 13 Tryz.f13 rfl rfl rfl rfl rfl rfl rfl ⟨rfl, rfl, rfl, rfl, rfl⟩ rfl rfl rfl rfl rfl (by kernel_rfl) Tryz.func13 counts_closed
    (of_decide_eq_true (by kernel_rfl)) (by unfold Func.isWrapper; first | (rw [if_pos (by decide +kernel)]; kernel_rfl) | (rw [if_neg (by decide +kernel)]; exact ⟨rfl, rfl⟩))
    (fun os started H enc _ => counts_lifted os started H enc)
#print axioms counts_holds
end Go.Proofs.YtoonekkcjcjgmaaGreat
