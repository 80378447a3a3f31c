/-
  Chapter 15: the laws' arguments; what the listed variables hold; the start that lays them.
  Conditions: none.
-/
import Derived.Test.YtkkhoflfhonlgaaDoorTie
import Derived.Test.YtkkhoflfhonlgaaDoorCards
import Derived.Test.YtkkhoflfhonlgaaDoorN
import Derived.Test.YtkkhoflfhonlgaaDoorHr
import Derived.LaidMore
import Derived.Lay
import Derived.Lib.LaidU8
import Derived.SevenTiedAt
import Derived.Stop.Joined
namespace Go.Proofs.YtkkhoflfhonlgaaDoor
open Go.ChangeShapes Go.WideShapes Go.ChangeAt Go.RowKit Go.Proofs.Hz
set_option maxRecDepth 100000

theorem own : ownKnob Tryd.prog.godebug = none := by kernel_rfl
theorem laidOut : laidOutB Tryd.prog = true := by kernel_rfl
theorem u3 : Tryd.prog.underlying 3 = some (.int .i64) := by kernel_rfl
theorem u4 : Tryd.prog.underlying 4 = some .bool := by kernel_rfl
theorem u5 : Tryd.prog.underlying 5 = some (.int .u8) := by kernel_rfl
theorem u9 : Tryd.prog.underlying 9 = some .string := by kernel_rfl
theorem u23 : ∃ fs : Array Field, Tryd.prog.underlying 23 = some (.struct fs) ∧ fs.toList.map (·.type) = [3, 3, 3] := ⟨_, rfl, by kernel_rfl⟩
theorem u37 : Tryd.prog.underlying 37 = some (.slice 23) := by kernel_rfl

theorem int_of {n : Nat} {xs : List AV} (h : SH Tryd.prog (n + 1) 3 xs) : ∃ m, xs = [.int .i64 m] ∧ -9223372036854775808 ≤ m ∧ m ≤ 9223372036854775807 := by
  unfold SH at h
  rw [u3] at h
  obtain ⟨m, rfl, hw⟩ := h
  exact ⟨m, rfl, bounds_i64 hw⟩
theorem u8_of {n : Nat} {xs : List AV} (h : SH Tryd.prog (n + 1) 5 xs) : ∃ m, xs = [.int .u8 m] ∧ 0 ≤ m ∧ m ≤ 255 := by
  unfold SH at h
  rw [u5] at h
  obtain ⟨m, rfl, hw⟩ := h
  exact ⟨m, rfl, bounds_u8 hw⟩
theorem parts_of {n t : Nat} {xs : List AV} {fs : Array Field} {ts : List Nat} (hu : Tryd.prog.underlying t = some (.struct fs)) (hf : fs.toList.map (·.type) = ts) (h : SH Tryd.prog (n + 1) t xs) :
    ∃ parts : List (List AV), xs = parts.flatten ∧ parts.length = ts.length ∧ ∀ (i : Nat) (u : Nat) (p : List AV), ts[i]? = some u → parts[i]? = some p → SH Tryd.prog n u p := by
  unfold SH at h
  rw [hu] at h
  obtain ⟨parts, rfl, hl, hp⟩ := h
  refine ⟨parts, rfl, by rw [hl, ← hf]; simp, fun i u p hi hq => ?_⟩
  rw [← hf, List.getElem?_map, Option.map_eq_some_iff] at hi
  obtain ⟨f, h1, h2⟩ := hi
  rw [← h2]
  exact hp i f p (by rwa [Array.getElem?_toList] at h1) hq
theorem call_of {n : Nat} {xs : List AV} (h : SH Tryd.prog (n + 2) 23 xs) : ∃ c : Cl, xs = eC c := by
  obtain ⟨fs, hu, hf⟩ := u23
  obtain ⟨parts, rfl, hl, hp⟩ := parts_of hu hf h
  match parts, hl with
  | [p0, p1, p2], _ =>
    obtain ⟨a, rfl, _⟩ := int_of (hp 0 3 p0 rfl rfl)
    obtain ⟨b, rfl, _⟩ := int_of (hp 1 3 p1 rfl rfl)
    obtain ⟨c, rfl, hc⟩ := int_of (hp 2 3 p2 rfl rfl)
    exact ⟨⟨a, b, c⟩, rfl⟩
theorem argV_struct {t : Nat} {fs : Array Field} (hu : Tryd.prog.underlying t = some (.struct fs)) (xs : List AV) : argV Tryd.prog t xs = .agg xs := by
  unfold argV; rw [hu]
theorem arg_call {H : Type} {enc : TypeId × Value → H} {w : World} {v : Value} {d : DataW H} {ps : List MemPlace} {base : Nat} (hval : Value.okWide Tryd.prog w .any base 23 v) (h : DataW.Trod enc Tryd.prog w 0 (fun _ => true) true 23 v d ps) :
    ∃ c : Cl, R (fun b => b < w.heap.size) w Ids.none Ren.none c.av v := by
  obtain ⟨xs, hS, hR⟩ := arg_abs (n := 4) (by kernel_rfl) hval h
  obtain ⟨c, rfl⟩ := call_of hS
  obtain ⟨fs, hu, _⟩ := u23
  rw [argV_struct hu] at hR
  exact ⟨c, hR⟩

/-- What all rows list. -/
abbrev laid : List (String × DataW Unit) := Rows.callTellsRow.laid
theorem plain15 (W : World) : laidMetH Tryd.prog laid W = laidMet Tryd.prog laid W := MakeChecks.laidMetH_plain _ _ _ (by kernel_rfl)
theorem met15 (os : Os) (args : Array Value) : laidMetH Tryd.prog laid ((World.laidAll Tryd.prog os laid).forCall (fun _ _ => 0) ⟨#[], args, []⟩).memory := by
  rw [plain15]; exact laidMet_laidAll _ (by kernel_rfl) (by kernel_rfl)

theorem cell_lt {w : World} {b o : Nat} {s : Option Nat} {v : Value} (h : w.cell? ⟨b, o, s⟩ = some v) : b < w.heap.size := by
  unfold World.cell? at h
  simp only at h
  split at h
  · rename_i hb
    exact (Array.getElem?_eq_some_iff.1 hb).1
  · cases h
theorem iface_var {W : World} (h : laidMet Tryd.prog laid W) {n : String} {g : Nat} {ti : TypeId} {ms : Array (String × TypeId)} {nm : String} {d : DataW Unit} (hm : (n, DataW.iface nm d) ∈ laid) (hg : Tryd.prog.globalNamed n = some g)
    (ht : (Tryd.prog.globals[g]?).map (·.type) = some ti) (hi : Tryd.prog.underlying ti = some (.interface ms)) : ∃ u v, W.cell? ⟨g, 0, none⟩ = some (.iface u v) := by
  obtain ⟨g', t, cs, fuel, p, h1, h2, h3, h4⟩ := Lib.laidMet.reads h hm
  obtain rfl := Option.some.inj (hg.symm.trans h1)
  obtain rfl := Option.some.inj (ht.symm.trans h2)
  obtain ⟨_, u, v, hc, _⟩ := iface_of_trod hi h4
  refine ⟨u, v, ?_⟩
  rw [World.var?_cell hg h3 0]
  have := congrArg (·[0]?) hc
  simpa using this
theorem i72 : ∃ ms, Tryd.prog.underlying 72 = some (.interface ms) := ⟨_, rfl⟩
/-- What the rows' condition gives the runs. -/
theorem gok15 {W : World} (h : laidMetH Tryd.prog laid W) : GOk (fun b => b < W.heap.size) W := by
  rw [plain15] at h
  have err : ∀ g, (∃ u v, W.cell? ⟨g, 0, none⟩ = some (.iface u v)) → R (fun b => b < W.heap.size) W Ids.none Ren.none (.ip [.ifv] 0) (.pointer (some ⟨g, 0, none⟩)) := fun g ⟨u, v, hc⟩ =>
    R.ip (o := 0) (fun _ => .iface u v) (cell_lt hc) (fun j hj => by
      have : j = 0 := by simp at hj; omega
      subst this; exact hc) fun j x hx => by
      have : j = 0 := by
        have := (List.getElem?_eq_some_iff.1 hx).1
        simp at this; omega
      subst this; cases hx; exact .ifv
  intro g x hx
  simp only [Gl.tab, glT] at hx
  split at hx
  · rename_i hg
    subst hg
    cases hx
    obtain ⟨g', t, cs, fuel, p, h1, h2, h3, h4⟩ := Lib.laidMet.reads h (n := "internal/strconv.uint64pow10") (d := Rows.laid_internal_strconv_uint64pow10) (by simp [laid, Rows.callTellsRow])
    have hg : Tryd.prog.globalNamed "internal/strconv.uint64pow10" = some 1 := by kernel_rfl
    obtain rfl := Option.some.inj (hg.symm.trans h1)
    obtain ⟨t', e, q1, q2, q3, q4, q5⟩ : ∃ t' e, (Tryd.prog.globals[1]?).map (·.type) = some t' ∧ Tryd.prog.underlying t' = some (.array 20 e) ∧ Tryd.prog.underlying e = some (.int .u64) ∧ Tryd.prog.cellsOf e = 1 ∧ Tryd.prog.cellsOf t' = 20 := ⟨_, _, rfl, rfl, rfl, by kernel_rfl, by kernel_rfl⟩
    obtain rfl := Option.some.inj (q1.symm.trans h2)
    have hz : (Rows.laid_internal_strconv_uint64pow10 : DataW Unit) = Lib.tabData .u64 ((List.range 20).map fun i => (10 : Int) ^ i) := by kernel_rfl
    rw [hz] at h4
    have hc := Lib.cells_of_tab q2 q3 q4 q5 h4
    have cell : ∀ j, j < 20 → W.cell? ⟨1, 0 + j, none⟩ = some (.int .u64 ((10 : Int) ^ j)) := fun j hj => by
      rw [Nat.zero_add, World.var?_cell hg h3 j]
      have := congrArg (·[j]?) hc
      simp only [Array.getElem?_toList, List.getElem?_map, List.getElem?_range hj, Option.map_some] at this
      exact this
    exact R.ip (fun j => .int .u64 ((10 : Int) ^ j)) (cell_lt (cell 0 (by omega))) (fun j hj => cell j (by simpa using hj)) fun j x hx => by
      simp only [List.getElem?_map, Option.map_eq_some_iff] at hx
      obtain ⟨i, hi, rfl⟩ := hx
      rw [List.getElem?_range (by have := (List.getElem?_eq_some_iff.1 hi).1; simpa using this)] at hi
      cases hi
      exact .int _ _
  · obtain ⟨ms, hms⟩ := i72
    split at hx
    · rename_i hg
      subst hg; cases hx
      exact err 2 (iface_var h (show ("strconv.ErrSyntax", (Rows.laid_strconv_ErrSyntax : DataW Unit)) ∈ laid by simp [laid, Rows.callTellsRow]) (by kernel_rfl) (by kernel_rfl) hms)
    · split at hx
      · rename_i hg
        subst hg; cases hx
        exact err 3 (iface_var h (show ("strconv.ErrRange", (Rows.laid_strconv_ErrRange : DataW Unit)) ∈ laid by simp [laid, Rows.callTellsRow]) (by kernel_rfl) (by kernel_rfl) hms)
      · cases hx
end Go.Proofs.YtkkhoflfhonlgaaDoor
