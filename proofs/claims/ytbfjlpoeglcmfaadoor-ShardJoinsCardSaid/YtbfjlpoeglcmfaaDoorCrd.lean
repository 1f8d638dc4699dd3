
/- What the row's list of package variables, and the world's shape, give the walks. -/
import Derived.Test.YtbfjlpoeglcmfaaDoorEw1
import Derived.Test.YtbfjlpoeglcmfaaDoorRow
import Derived.Test.YtbfjlpoeglcmfaaDoorCards
import Derived.Test.YtbfjlpoeglcmfaaDoorTie
import Derived.Deep.DeepHandedRow
import Derived.Lib.LaidTab
import Derived.Lay
import Derived.SevenTiedAt
set_option linter.unusedVariables false
set_option linter.unusedSimpArgs false
namespace Go.Proofs.YtbfjlpoeglcmfaaDoor
open Go.ChangeShapes Go.WideShapes Go.ChangeAt Go.RowKit Go.Se

theorem laid_one {P : Program} {W : World} {name : String} {d : DataW Unit} : ∀ {laid : List (String × DataW Unit)} {ps : List MemPlace}, DataW.LaidVars P W laid ps → (name, d) ∈ laid →
    ∃ g t cs fuel p, P.globalNamed name = some g ∧ (P.globals[g]?).map (·.type) = some t ∧ W.var? P name = some cs ∧ DataW.trod (fun _ => ()) P W 0 (fun _ => true) false fuel t cs.toList = some (d, p)
  | [], _, _, hm => by simp at hm
  | (n, d') :: r, ps, h, hm => by
    obtain ⟨g, t, cs, fuel, p, q, h1, h2, h3, h4, h5, rfl⟩ := h
    rcases List.mem_cons.1 hm with he | hm
    · cases he
      exact ⟨g, t, cs, fuel, p, h1, h2, h3, h4⟩
    · exact laid_one h5 hm
theorem laid_two {P : Program} {W : World} {laid : List (String × DataW Unit)} (h : laidMetH P laid W) (hp : (laid.all fun x => x.2.handleName?.isNone) = true) {name : String} {d : DataW Unit} (hm : (name, d) ∈ laid) :
    ∃ g t cs fuel p, P.globalNamed name = some g ∧ (P.globals[g]?).map (·.type) = some t ∧ W.var? P name = some cs ∧ DataW.trod (fun _ => ()) P W 0 (fun _ => true) false fuel t cs.toList = some (d, p) := by
  rw [MakeChecks.laidMetH_plain _ _ _ hp] at h
  obtain ⟨ps, h, _⟩ := h
  exact laid_one h hm
/-- A variable of one cell of an integer's type holds an integer. -/
theorem int_of_shape {P : Program} {w : World} {g : Nat} {t : TypeId} {k : IntKind} {zero : Array Value} (h : w.ShapedOpen P) (hg : g < P.globals.size)
    (h0 : ((begin P (fun _ _ => 0) default).world.heap[g]?).bind Obj.row? = some (zero, t)) (hz : zero.size = 1)
    (hb : P.buildable t = true) (hc : P.cellTypes P.depth t = some [t]) (hu : P.underlying t = some (.int k)) : ∃ m, w.cell? ⟨g, 0, none⟩ = some (.int k m) := by
  obtain ⟨cs, hh, hs, hr⟩ := h.1 g zero t hg h0
  obtain ⟨ts, hts, _, hall⟩ := hr hb
  rw [hc] at hts
  cases hts
  have h1 : 0 < cs.size := by omega
  obtain ⟨u, hu', hok⟩ := hall 0 cs[0] (by simp [h1])
  have : u = t := by simpa using hu'.symm
  subst this
  have hcell : w.cell? ⟨g, 0, none⟩ = some cs[0] := by simp [World.cell?, hh, h1]
  rw [hcell]
  unfold Cell.ok at hok
  rw [hu] at hok
  cases hv : cs[0] <;> rw [hv] at hok <;> simp at hok
  case int k' z => exact ⟨z, by rw [hok.1]⟩
/-- An array of texts that reads as told. -/
theorem cells_of_texts {H : Type} {enc : TypeId × Value → H} {P : Program} {w : World} {base : Nat} {sp : Nat → Bool} {held : Bool} {fuel : Nat} {t e : TypeId} {n : Nat} {cs : List Value} {zs : List (List UInt8)} {p : List MemPlace}
    (ht : P.underlying t = some (.array n e)) (he : P.underlying e = some .string) (hce : P.cellsOf e = 1) (hct : P.cellsOf t = n)
    (h : DataW.trod enc P w base sp held fuel t cs = some (.agg (zs.map fun z => .lit (.string z)), p)) : cs = zs.map fun z => Value.string (bytesOf z) := by
  cases fuel with
  | zero => simp [DataW.trod] at h
  | succ fuel =>
    simp only [DataW.trod, ht, hce, hct, Nat.mul_one] at h
    split at h
    · rename_i hl
      obtain ⟨xs, hm, hx⟩ := Option.map_eq_some_iff.1 h
      have hxs : xs.map (·.1) = zs.map fun z => (DataW.lit (.string z) : DataW H) := by
        have := congrArg Prod.fst hx
        simpa using this
      have hxl : xs.length = n := by simpa using Lib.mapM_length hm
      have hzl : zs.length = n := by
        have := congrArg List.length hxs
        simp at this
        omega
      apply List.ext_getElem?
      intro i
      by_cases hi : i < n
      · obtain ⟨b, hb, hf⟩ := Lib.mapM_at hm i i (by simp [hi])
        obtain ⟨s, hc, rfl, _⟩ := DataW.trod_string he hf
        have h1 : cs[i]? = some (.string s) := by
          have := congrArg (·[0]?) hc
          simpa [List.getElem?_take, List.getElem?_drop] using this
        have h2 : (xs.map (·.1))[i]? = some (DataW.lit (.string s.data.toList) : DataW H) := by simp [hb]
        rw [hxs] at h2
        simp only [List.getElem?_map, Option.map_eq_some_iff, DataW.lit.injEq, Lit.string.injEq] at h2
        obtain ⟨z', hz', rfl⟩ := h2
        simp [h1, hz', bytesOf]
      · rw [List.getElem?_eq_none (by omega), List.getElem?_eq_none (by simp; omega)]
    · cases h
theorem size_of_shape {P : Program} {w : World} (h : w.ShapedOpen P) (n : Nat) (hn : (bif Nat.blt n P.globals.size then (((begin P (fun _ _ => 0) default).world.heap[n]?).bind Obj.row?).isSome else Nat.blt n (begin P (fun _ _ => 0) default).world.heap.size) = true) : n < w.heap.size := by
  cases hb : Nat.blt n P.globals.size with
  | true =>
    rw [hb] at hn
    obtain ⟨⟨z, t⟩, hz⟩ := Option.isSome_iff_exists.1 hn
    obtain ⟨cs, hh, _⟩ := h.1 n z t (Nat.le_of_ble_eq_true hb) hz
    exact lt_of_block hh
  | false =>
    rw [hb] at hn
    have h1 : ¬ n < P.globals.size := fun hlt => by
      have : Nat.blt n P.globals.size = true := Nat.ble_eq_true_of_le hlt
      rw [hb] at this; cases this
    obtain ⟨o, o0, hh, _⟩ := h.2 n (by omega) (Nat.le_of_ble_eq_true hn)
    exact lt_of_block hh
/-- There is an input that fits. -/
theorem witness_shaped_row {H : Type} {enc : TypeId × Value → H} {C : Checked} {os : Os} {f : FuncId} {fn : Func} {s : OpenSpec} {conds : List PathCond} {apart : Bool} {laid : List (String × DataW Unit)} (w0 : World) (args : Array Value) (hos : w0.os = os)
    (hsh : (w0.forCall (fun _ _ => 0) ⟨#[], args, []⟩).Shaped C.prog)
    (hok : Input.okWideB C.prog (w0.forCall (fun _ _ => 0) ⟨#[], args, []⟩) f ⟨#[], args, []⟩ = true)
    (hrow : s.preRow enc C.prog fn conds apart laid (w0.forCall (fun _ _ => 0) ⟨#[], args, []⟩).memory args) :
    ∃ (w : World) (tape : Tape) (i : Input), w.os = os ∧ (w.forCall tape i).Shaped C.prog ∧ i.vars = [] ∧ Input.okWide C.prog (w.forCall tape i) .any w.heap.size f i ∧
      s.preRow enc C.prog fn conds apart laid (w.forCall tape i).memory i.args ∧ ({} : Assume).holds C.prog (lone (Frame.enter C.prog f i.args .normal) [] (w.forCall tape i)) :=
  ⟨w0, fun _ _ => 0, ⟨#[], args, []⟩, hos, hsh, (Input.okWide_of_okWideB (base := 0) hok).1, (Input.okWide_of_okWideB hok).2, hrow, by
    simp only [Assume.holds]
    exact ⟨by simp, by simp, fun _ => Modest.zero, by simp, by simp⟩⟩
theorem own : ownKnob Tryd.prog.godebug = none := by kernel_rfl
/-- What is read of the package variables is as the row lists it. -/
theorem gl_of {laid : List (String × DataW Unit)} {W : World} (h : laidMetH Tryd.prog laid W) (hp : (laid.all fun x => x.2.handleName?.isNone) = true) (hs : W.ShapedOpen Tryd.prog)
    (h1 : ("internal/strconv.uint64pow10", Rows.laid_internal_strconv_uint64pow10) ∈ laid) (h2 : ("cicerone/event.kindNames", Rows.laid_cicerone_event_kindNames) ∈ laid) : Gl W where
  maxLen := int_of_shape (t := 3) (zero := #[.int .i64 0]) hs (of_decide_eq_true (by kernel_rfl)) (by kernel_rfl) rfl (by kernel_rfl) (by kernel_rfl) (by kernel_rfl)
  pow10 := by
    obtain ⟨g, t, cs, fuel, p, hg, ht, hv, hd⟩ := laid_two h hp h1
    obtain rfl := Option.some.inj (gnum.symm.trans hg)
    obtain rfl := Option.some.inj ((show (Tryd.prog.globals[2]?).map (·.type) = some 98 by kernel_rfl).symm.trans ht)
    unfold Lib.TabIs
    rw [hv, ← Lib.cells_of_tab (k := .u64) (zs := Lib.pow10Tab) (e := 45) (n := 20) (by kernel_rfl) (by kernel_rfl) (by kernel_rfl) (by kernel_rfl) hd]
  kinds := by
    obtain ⟨g, t, cs, fuel, p, hg, ht, hv, hd⟩ := laid_two h hp h2
    have hgk : Tryd.prog.globalNamed "cicerone/event.kindNames" = some 0 := by kernel_rfl
    obtain rfl := Option.some.inj (hgk.symm.trans hg)
    obtain rfl := Option.some.inj ((show (Tryd.prog.globals[0]?).map (·.type) = some 63 by kernel_rfl).symm.trans ht)
    have hcs := cells_of_texts (zs := kindNames.map (·.data.toList)) (e := 9) (n := 15) (by kernel_rfl) (by kernel_rfl) (by kernel_rfl) (by kernel_rfl) hd
    intro j v hj
    rw [add_zero_addr, World.var?_cell hgk hv j, ← Array.getElem?_toList, hcs]
    simp only [List.map_map, List.getElem?_map] at hj ⊢
    cases hk : kindNames[j]? with
    | none => rw [hk] at hj; simp at hj
    | some s => rw [hk] at hj; simpa [bytesOf] using hj
  size := size_of_shape hs 9 (by kernel_rfl)
end Go.Proofs.YtbfjlpoeglcmfaaDoor
