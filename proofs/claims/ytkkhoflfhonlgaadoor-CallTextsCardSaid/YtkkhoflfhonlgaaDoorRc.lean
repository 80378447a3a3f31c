/-
  Chapter 15: rows of syscalls and texts among the laws' arguments.
  Conditions: none.
-/
import Derived.Test.YtkkhoflfhonlgaaDoorTie
import Derived.Test.YtkkhoflfhonlgaaDoorCards
import Derived.Test.YtkkhoflfhonlgaaDoorN
import Derived.Test.YtkkhoflfhonlgaaDoorHr
import Derived.LaidMore
import Derived.Lay
import Derived.Lib.LaidU8
import Derived.SevenTiedAt
import Derived.Stop.Joined
import Derived.HandedShaped
namespace Go.Proofs.YtkkhoflfhonlgaaDoor
open Go.ChangeShapes Go.WideShapes Go.ChangeAt Go.RowKit Go.Proofs.Hz
set_option maxRecDepth 100000

theorem own : ownKnob Tryd.prog.godebug = none := by kernel_rfl
theorem laidOut : laidOutB Tryd.prog = true := by kernel_rfl
theorem u3 : Tryd.prog.underlying 3 = some (.int .i64) := by kernel_rfl
theorem u4 : Tryd.prog.underlying 4 = some .bool := by kernel_rfl
theorem u5 : Tryd.prog.underlying 5 = some (.int .u8) := by kernel_rfl
theorem u9 : Tryd.prog.underlying 9 = some .string := by kernel_rfl
theorem u23 : ∃ fs : Array Field, Tryd.prog.underlying 23 = some (.struct fs) ∧ fs.toList.map (·.type) = [3, 3, 3] := ⟨_, rfl, by kernel_rfl⟩
theorem u37 : Tryd.prog.underlying 37 = some (.slice 23) := by kernel_rfl

theorem int_of {n : Nat} {xs : List AV} (h : SH Tryd.prog (n + 1) 3 xs) : ∃ m, xs = [.int .i64 m] ∧ -9223372036854775808 ≤ m ∧ m ≤ 9223372036854775807 := by
  unfold SH at h
  rw [u3] at h
  obtain ⟨m, rfl, hw⟩ := h
  exact ⟨m, rfl, bounds_i64 hw⟩
theorem u8_of {n : Nat} {xs : List AV} (h : SH Tryd.prog (n + 1) 5 xs) : ∃ m, xs = [.int .u8 m] ∧ 0 ≤ m ∧ m ≤ 255 := by
  unfold SH at h
  rw [u5] at h
  obtain ⟨m, rfl, hw⟩ := h
  exact ⟨m, rfl, bounds_u8 hw⟩
theorem parts_of {n t : Nat} {xs : List AV} {fs : Array Field} {ts : List Nat} (hu : Tryd.prog.underlying t = some (.struct fs)) (hf : fs.toList.map (·.type) = ts) (h : SH Tryd.prog (n + 1) t xs) :
    ∃ parts : List (List AV), xs = parts.flatten ∧ parts.length = ts.length ∧ ∀ (i : Nat) (u : Nat) (p : List AV), ts[i]? = some u → parts[i]? = some p → SH Tryd.prog n u p := by
  unfold SH at h
  rw [hu] at h
  obtain ⟨parts, rfl, hl, hp⟩ := h
  refine ⟨parts, rfl, by rw [hl, ← hf]; simp, fun i u p hi hq => ?_⟩
  rw [← hf, List.getElem?_map, Option.map_eq_some_iff] at hi
  obtain ⟨f, h1, h2⟩ := hi
  rw [← h2]
  exact hp i f p (by rwa [Array.getElem?_toList] at h1) hq
theorem call_of {n : Nat} {xs : List AV} (h : SH Tryd.prog (n + 2) 23 xs) : ∃ c : Cl, xs = eC c := by
  obtain ⟨fs, hu, hf⟩ := u23
  obtain ⟨parts, rfl, hl, hp⟩ := parts_of hu hf h
  match parts, hl with
  | [p0, p1, p2], _ =>
    obtain ⟨a, rfl, _⟩ := int_of (hp 0 3 p0 rfl rfl)
    obtain ⟨b, rfl, _⟩ := int_of (hp 1 3 p1 rfl rfl)
    obtain ⟨c, rfl, hc⟩ := int_of (hp 2 3 p2 rfl rfl)
    exact ⟨⟨a, b, c⟩, rfl⟩
theorem argV_struct {t : Nat} {fs : Array Field} (hu : Tryd.prog.underlying t = some (.struct fs)) (xs : List AV) : argV Tryd.prog t xs = .agg xs := by
  unfold argV; rw [hu]
theorem arg_call {H : Type} {enc : TypeId × Value → H} {w : World} {v : Value} {d : DataW H} {ps : List MemPlace} {base : Nat} (hval : Value.okWide Tryd.prog w .any base 23 v) (h : DataW.Trod enc Tryd.prog w 0 (fun _ => true) true 23 v d ps) :
    ∃ c : Cl, R (fun b => b < w.heap.size) w Ids.none Ren.none c.av v := by
  obtain ⟨xs, hS, hR⟩ := arg_abs (n := 4) (by kernel_rfl) hval h
  obtain ⟨c, rfl⟩ := call_of hS
  obtain ⟨fs, hu, _⟩ := u23
  rw [argV_struct hu] at hR
  exact ⟨c, hR⟩

/-- What all rows list. -/
abbrev laid : List (String × DataW Unit) := Rows.callTellsRow.laid
theorem plain15 (W : World) : laidMetH Tryd.prog laid W = laidMet Tryd.prog laid W := MakeChecks.laidMetH_plain _ _ _ (by kernel_rfl)
theorem met15 (os : Os) (args : Array Value) : laidMetH Tryd.prog laid ((World.laidAll Tryd.prog os laid).forCall (fun _ _ => 0) ⟨#[], args, []⟩).memory := by
  rw [plain15]; exact laidMet_laidAll _ (by kernel_rfl) (by kernel_rfl)

theorem cell_lt {w : World} {b o : Nat} {s : Option Nat} {v : Value} (h : w.cell? ⟨b, o, s⟩ = some v) : b < w.heap.size := by
  unfold World.cell? at h
  simp only at h
  split at h
  · rename_i hb
    exact (Array.getElem?_eq_some_iff.1 hb).1
  · cases h
theorem iface_var {W : World} (h : laidMet Tryd.prog laid W) {n : String} {g : Nat} {ti : TypeId} {ms : Array (String × TypeId)} {nm : String} {d : DataW Unit} (hm : (n, DataW.iface nm d) ∈ laid) (hg : Tryd.prog.globalNamed n = some g)
    (ht : (Tryd.prog.globals[g]?).map (·.type) = some ti) (hi : Tryd.prog.underlying ti = some (.interface ms)) : ∃ u v, W.cell? ⟨g, 0, none⟩ = some (.iface u v) := by
  obtain ⟨g', t, cs, fuel, p, h1, h2, h3, h4⟩ := Lib.laidMet.reads h hm
  obtain rfl := Option.some.inj (hg.symm.trans h1)
  obtain rfl := Option.some.inj (ht.symm.trans h2)
  obtain ⟨_, u, v, hc, _⟩ := iface_of_trod hi h4
  refine ⟨u, v, ?_⟩
  rw [World.var?_cell hg h3 0]
  have := congrArg (·[0]?) hc
  simpa using this
theorem i72 : ∃ ms, Tryd.prog.underlying 72 = some (.interface ms) := ⟨_, rfl⟩
theorem var_lt {w : World} {n : String} {g : Nat} {cs : Array Value} (hg : Tryd.prog.globalNamed n = some g) (h : w.var? Tryd.prog n = some cs) : g < w.heap.size := by
  unfold World.var? at h
  rw [hg] at h
  simp only [Option.bind_some] at h
  split at h
  · rename_i hh; exact (Array.getElem?_eq_some_iff.1 hh).1
  · cases h
/-- What the rows' condition gives the runs. -/
theorem gok15 {W : World} (h : laidMetH Tryd.prog laid W) (hsh : W.ShapedOpen Tryd.prog) : GOk (fun b => b < W.heap.size) W := by
  rw [plain15] at h
  have err : ∀ g, (∃ u v, W.cell? ⟨g, 0, none⟩ = some (.iface u v)) → R (fun b => b < W.heap.size) W Ids.none Ren.none (.ip [.ifv] 0) (.pointer (some ⟨g, 0, none⟩)) := fun g ⟨u, v, hc⟩ =>
    R.ip (o := 0) (fun _ => .iface u v) (cell_lt hc) (fun j hj => by
      have : j = 0 := by simp at hj; omega
      subst this; exact hc) fun j x hx => by
      have : j = 0 := by
        have := (List.getElem?_eq_some_iff.1 hx).1
        simp at this; omega
      subst this; cases hx; exact .ifv
  refine ⟨fun g x hx => ?_, ?_⟩
  · simp only [Gl.tab, glT] at hx
    obtain ⟨ms, hms⟩ := i72
    split at hx
    · rename_i hg
      subst hg; cases hx
      exact err 2 (iface_var h (show ("strconv.ErrSyntax", (Rows.laid_strconv_ErrSyntax : DataW Unit)) ∈ laid by simp [laid, Rows.callTellsRow]) (by kernel_rfl) (by kernel_rfl) hms)
    · split at hx
      · rename_i hg
        subst hg; cases hx
        exact err 3 (iface_var h (show ("strconv.ErrRange", (Rows.laid_strconv_ErrRange : DataW Unit)) ∈ laid by simp [laid, Rows.callTellsRow]) (by kernel_rfl) (by kernel_rfl) hms)
      · cases hx
  · have tab : Lib.TabIs Tryd.prog W "internal/strconv.uint64pow10" .u64 Lib.pow10Tab := by
      obtain ⟨g', t, cs, fuel, p, h1, h2, h3, h4⟩ := Lib.laidMet.reads h (n := "internal/strconv.uint64pow10") (d := Rows.laid_internal_strconv_uint64pow10) (by simp [laid, Rows.callTellsRow])
      obtain rfl := Option.some.inj (g1.symm.trans h1)
      obtain ⟨t', e, q1, q2, q3, q4, q5⟩ : ∃ t' e, (Tryd.prog.globals[1]?).map (·.type) = some t' ∧ Tryd.prog.underlying t' = some (.array 20 e) ∧ Tryd.prog.underlying e = some (.int .u64) ∧ Tryd.prog.cellsOf e = 1 ∧ Tryd.prog.cellsOf t' = 20 := ⟨_, _, rfl, rfl, rfl, by kernel_rfl, by kernel_rfl⟩
      obtain rfl := Option.some.inj (q1.symm.trans h2)
      have hz : (Rows.laid_internal_strconv_uint64pow10 : DataW Unit) = Lib.tabData .u64 Lib.pow10Tab := by kernel_rfl
      rw [hz] at h4
      have hc := Lib.cells_of_tab q2 q3 q4 q5 h4
      unfold Lib.TabIs
      rw [h3, ← hc]
    obtain ⟨m, hm⟩ : ∃ m, W.cell? ⟨0, 0, none⟩ = some (.int .i64 m) := Go.Proofs.cell_of_shapedOpen_int (zero := #[.int .i64 0]) (t := 3) hsh (of_decide_eq_true (by kernel_rfl)) (by kernel_rfl) rfl (by kernel_rfl) (by kernel_rfl) Tryd.underlying3
    obtain ⟨ms, hms⟩ := i72
    obtain ⟨u2, v2, h2⟩ := iface_var h (show ("strconv.ErrSyntax", (Rows.laid_strconv_ErrSyntax : DataW Unit)) ∈ laid by simp [laid, Rows.callTellsRow]) (g := 2) (by kernel_rfl) (by kernel_rfl) hms
    obtain ⟨u3', v3', h3⟩ := iface_var h (show ("strconv.ErrRange", (Rows.laid_strconv_ErrRange : DataW Unit)) ∈ laid by simp [laid, Rows.callTellsRow]) (g := 3) (by kernel_rfl) (by kernel_rfl) hms
    exact ⟨⟨⟨var_lt g1 tab, tab⟩, cell_lt hm, m, hm⟩, ⟨cell_lt h2, u2, v2, h2⟩, cell_lt h3, u3', v3', h3⟩

/-- The wrap: the row's condition, and the world's shape. -/
theorem returns_shaped {H : Type} {enc : TypeId × Value → H} {a : Assume} {C : Checked} {os : Os} {f : FuncId} {fn : Func} {s : ChangeSpec} {conds : List PathCond} {apart fresh handsOn again : Bool} {X : World → Array Value → Prop}
    (hX : ∀ (w w' : World) (args : Array Value), w.heap = w'.heap → X w args → X w' args)
    (own : ownKnob C.prog.godebug = none) (started : os.Started) (noInit : C.prog.inits.idxOf? f = none) (hfn : C.prog.funcs[f]? = some fn)
    (witness : ∃ (w : World) (tape : Tape) (i : Input), w.os = os ∧ (w.forCall tape i).Shaped C.prog ∧ i.vars = [] ∧ Input.okWide C.prog (w.forCall tape i) .any w.heap.size f i ∧
      ((s.pre enc C.prog fn conds apart (w.forCall tape i).memory i.args ∧ X (w.forCall tape i).memory i.args) ∧ sizedMet enc C.prog fn (OpenSpec.ofChange s) apart (w.forCall tape i).memory i.args) ∧ a.holds C.prog (lone (Frame.enter C.prog f i.args .normal) [] (w.forCall tape i)))
    (contract : ∀ (W : World) (base : Nat) (args : Array Value) (ds gs : List (DataW H)) (before : List MemPlace),
      (∀ (j : Nat) t v, fn.params[j]? = some t → args[j]? = some v → Value.okWide C.prog W .any base t v) →
      DataW.Whole enc C.prog fn.params.toList s.vars apart W args.toList ds gs before → X W args → W.ShapedOpen C.prog →
      Calls C.prog f args W fun e W' => ∃ v, e = .returned v ∧ s.post enc C.prog fn apart fresh handsOn again W args v W') :
    ReturnsInHanded a C os f .any (fun w args => (s.pre enc C.prog fn conds apart w args ∧ X w args) ∧ sizedMet enc C.prog fn (OpenSpec.ofChange s) apart w args) (s.post enc C.prog fn apart fresh handsOn again) := by
  refine returnsInHanded_of_calls own started noInit witness ?_
  intro w tape i _ hsh _ hok hpre _
  obtain ⟨_, _, _, fn', hfn', _, _, _, _, hval⟩ := hok
  have e : fn' = fn := Option.some.inj (hfn'.symm.trans hfn)
  subst e
  obtain ⟨⟨⟨ds, gs, before, hw, _⟩, hx⟩, _⟩ := hpre
  have hw' := DataW.Whole.of_heap (w' := w.forCall tape i) (by rfl) hw
  refine (contract (w.forCall tape i) w.heap.size i.args ds gs before hval hw' (hX _ _ _ (by rfl) hx) hsh).mono fun e W' ⟨v, he, hp⟩ => ?_
  subst he
  exact ChangeSpec.post_blind hp
end Go.Proofs.YtkkhoflfhonlgaaDoor
namespace Go.Proofs.YtkkhoflfhonlgaaDoor
open Go.ChangeShapes Go.WideShapes Go.ChangeAt Go.RowKit Go.Proofs.Hz
set_option maxRecDepth 100000

theorem calls_of {n : Nat} : ∀ {els : List (List AV)}, (∀ el ∈ els, SH Tryd.prog (n + 2) 23 el) → ∃ l : List Cl, els = l.map eC
  | [], _ => ⟨[], rfl⟩
  | el :: els, h => by
    obtain ⟨l, rfl⟩ := calls_of (els := els) fun x hx => h x (List.mem_cons_of_mem _ hx)
    obtain ⟨c, rfl⟩ := call_of (h el (List.mem_cons_self ..))
    exact ⟨c :: l, rfl⟩
theorem arg_calls {H : Type} {enc : TypeId × Value → H} {w : World} {v : Value} {d : DataW H} {ps : List MemPlace} {base : Nat} (hval : Value.okWide Tryd.prog w .any base 37 v) (h : DataW.Trod enc Tryd.prog w 0 (fun _ => true) true 37 v d ps) :
    ∃ (l : List Cl) (b : Bool), R (fun b => b < w.heap.size) w Ids.none Ren.none (.im (l.map eC) b) v := by
  obtain ⟨xs, hS, hR⟩ := arg_abs (n := 4) (by kernel_rfl) hval h
  unfold SH at hS
  rw [u37] at hS
  obtain ⟨els, c, rfl, _, he⟩ := hS
  obtain ⟨l, rfl⟩ := calls_of he
  unfold argV at hR
  rw [u37] at hR
  exact ⟨l, c, hR⟩
theorem arg_text {H : Type} {enc : TypeId × Value → H} {w : World} {v : Value} {d : DataW H} {ps : List MemPlace} {base : Nat} (hval : Value.okWide Tryd.prog w .any base 9 v) (h : DataW.Trod enc Tryd.prog w 0 (fun _ => true) true 9 v d ps) :
    ∃ s : List UInt8, R (fun b => b < w.heap.size) w Ids.none Ren.none (.str s) v := by
  obtain ⟨xs, hS, hR⟩ := arg_abs (n := 4) (by kernel_rfl) hval h
  unfold SH at hS
  rw [u9] at hS
  obtain ⟨s, rfl, _⟩ := hS
  unfold argV at hR
  rw [u9] at hR
  exact ⟨s, hR⟩
end Go.Proofs.YtkkhoflfhonlgaaDoor
