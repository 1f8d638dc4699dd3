
/- From a contract of a law to its row: the arguments are opened; what was there stays. (open_slice_fields and post_of_below are the guide's own lemmas to copy.) -/
import Derived.Test.YtbfjlpoeglcmfaaDoorLib2
import Derived.WalkKit
import Derived.ProofKit
import Derived.OpenShut
import Derived.Carry
import Derived.Deep.Slices
import Derived.Deep.Fields
import Derived.ChangeSame
import Derived.ShutString
import Derived.ChangeMaps5
set_option linter.unusedVariables false
set_option linter.unusedSimpArgs false
namespace Go.Proofs.YtbfjlpoeglcmfaaDoor
open Go.ChangeShapes Go.WideShapes Go.ChangeAt Go.RowKit Go.Deep Go.Se
section
variable {H : Type} {enc : TypeId × Value → H} {P : Program} {w : World} {base : Nat} {spare : Nat → Bool} {held : Bool}
theorem open_slice_fields {t e : TypeId} {fs : Array Field} {fuel : Nat} {cs : List Value} {x : DataW H × List MemPlace} (ht : P.underlying t = some (.slice e)) (he : P.underlying e = some (.struct fs))
    (hone : oneCellFields P fs = true) (hC : P.cellsOf e = fs.size) (h : DataW.trod enc P w base spare held fuel t cs = some x) :
    (cs = [.slice none 0 0] ∧ x = (.nil, [])) ∨
    ∃ (a : Addr) (len cap m : Nat) (D : Nat → DataW H) (Pl : Nat → List MemPlace), cs = [.slice (some a) len cap] ∧ base ≤ a.block ∧ len ≤ cap ∧ cap ≤ maxLen ∧ m = (if spare a.block then cap else len) ∧
      x = (.slice ((List.range len).map D) ((List.range (m - len)).map fun j => D (len + j)), MemPlace.row a (m * fs.size) ++ (List.range m).flatMap Pl) ∧
      ∀ i, i < m → ∃ (ys : List (DataW H × List MemPlace)) (n : Nat), D i = .agg (ys.map (·.1)) ∧ Pl i = ys.flatMap (·.2) ∧ ys.length = fs.size ∧
        ∀ (j : Nat) (f : Field), fs[j]? = some f → ∃ (v : Value) (y : DataW H × List MemPlace), w.cell? (a.add (i * fs.size + j)) = some v ∧ ys[j]? = some y ∧ DataW.trod enc P w base spare held n f.type [v] = some y := by
  rcases open_slice ht h with h0 | ⟨a, len, cap, m, n, D, Pl, hcs, hb, hl, hm, hmm, hx, hi⟩
  · exact .inl h0
  · refine .inr ⟨a, len, cap, m, D, Pl, hcs, hb, hl, hm, hmm, by rw [hC] at hx; exact hx, fun i him => ?_⟩
    obtain ⟨cs', hc, ht'⟩ := hi i him
    rw [hC] at hc
    obtain ⟨ys, n', hn', hy, hlen, hyl, hf⟩ := DataW.trod_struct he ht'
    obtain ⟨_, hcl, hat⟩ := World.cells?_some hc
    simp only [Prod.mk.injEq] at hy
    refine ⟨ys, n', hy.1, hy.2, hyl, fun j f hj => ?_⟩
    obtain ⟨ho, hk⟩ := hone_of hone j f hj
    have hjl : j < fs.size := (Array.getElem?_eq_some_iff.1 hj).1
    have hcell := hat j hjl
    have hv : cs'[j]? = some (cs'[j]'(by omega)) := List.getElem?_eq_getElem (by omega)
    have h1 := hf j f hj
    rw [ho, hk] at h1
    have hone' : (cs'.drop j).take 1 = [cs'[j]'(by omega)] := by
      rw [List.drop_eq_getElem_cons (by omega)]
      rfl
    rw [hone'] at h1
    have hys : ys[j]? = some (ys[j]'(by omega)) := List.getElem?_eq_getElem (by omega)
    refine ⟨_, _, ?_, hys, h1.trans hys⟩
    rw [← Go.Deep.add_add, hcell, hv]

theorem post_of_below {f : Func} {s : ChangeSpec} {apart fresh handsOn again : Bool} {W W' : World} {args : Array Value} {v : Value} {ds gs : List (DataW H)} {before pa pv : List MemPlace}
    (hW : DataW.Whole enc P f.params.toList s.vars apart W args.toList ds gs before)
    (hres : ∀ (b : Nat) (sp : Nat → Bool) (hd : Bool), DataW.TrodAll enc P W' b sp hd f.resultTypes.toList (v.resultList f.resultTypes.size) (s.fn H (ds ++ gs)).results [])
    (hargs : ∀ sp : Nat → Bool, (∀ p ∈ before, sp p.block = true) → DataW.TrodAll enc P W' 0 sp true f.params.toList args.toList (s.fn H (ds ++ gs)).args pa)
    (hvars : ∀ sp : Nat → Bool, (∀ p ∈ before, sp p.block = true) → DataW.TrodVars enc P W' sp s.vars (s.fn H (ds ++ gs)).vars pv)
    (hps : before = pa ++ pv) (hb : Below W.heap.size W W')
    (hok : ∀ (j : Nat) (t : TypeId) (r : Value), f.resultTypes[j]? = some t → (v.resultList f.resultTypes.size)[j]? = some r → Value.okWide P W' .any 0 t r) :
    s.post enc P f apart fresh handsOn again W args v W' := by
  have hlt : ∀ p ∈ before, p.block < W.heap.size := fun p hp => hW.lt p hp
  have hold : ∀ p ∈ before, (fun b => decide (b < W.heap.size)) p.block = true := fun p hp => by simpa using hlt p hp
  refine ⟨ds, gs, before, [], pa, pv, hW, hres _ _ _, hargs _ hold, hvars _ hold, World.keptBut_mono (fun p hp => ⟨hp, ?_⟩) (hb.frame (· ∈ before)), fun _ => ?_⟩
  · rw [hps, List.mem_append] at hp
    exact Or.inr hp
  · obtain ⟨_, _, _, _, _, hz, hn⟩ := hW
    refine ⟨hok, _, _, ([] ++ pa) ++ pv, ⟨[] ++ pa, pv, trodAll_append (hargs _ (fun _ _ => rfl)) (hres _ _ _), hvars _ (fun _ _ => rfl), rfl, ?_, ?_⟩, ?_⟩
    · intro b off hp
      have hin : MemPlace.cell b off ∈ before := by rw [hps]; simpa using hp
      rw [hb.frozen (hlt _ hin)]
      exact hz b off hin
    · intro ha
      have := hn ha
      rw [hps] at this
      simpa using this
    · intro p hp _
      rw [hps]
      simpa using hp

theorem trodAll_carry (hl : laidOutB P = true) {W W' : World} (hb : Below W.heap.size W W') {sp : Nat → Bool} : ∀ {ts : List TypeId} {vs : List Value} {ds : List (DataW H)} {ps : List MemPlace}, (∀ t ∈ ts, P.readableRec t = true ∧ t < P.types.size) →
    DataW.TrodAll enc P W 0 (fun _ => true) true ts vs ds ps → (∀ x ∈ ps, x.block < W.heap.size) → (∀ x ∈ ps, sp x.block = true) → DataW.TrodAll enc P W' 0 sp true ts vs ds ps
  | [], [], [], ps, _, h, _, _ => h
  | t :: ts, v :: vs, d :: ds, ps, hr, h, hlt, hsp => by
    obtain ⟨p, q, h1, h2, rfl⟩ := h
    refine ⟨p, q, ?_, trodAll_carry hl hb (fun t ht => hr t (by simp [ht])) h2 (fun x hx => hlt x (by simp [hx])) (fun x hx => hsp x (by simp [hx])), rfl⟩
    obtain ⟨hr1, hr2⟩ := hr t (by simp)
    exact WideElems.Trod_stays hl hr1 hr2 h1 (fun x hx => hb.same (hlt x (by simp [hx]))) (fun x hx => hsp x (by simp [hx]))

/-- A law that returned true, and left all that was there as it was. -/
theorem law_post {f : Func} {s : ChangeSpec} {W W' : World} {args : Array Value} {ds gs : List (DataW H)} {before : List MemPlace} {tb : TypeId}
    (hl : laidOutB P = true) (hr : f.params.toList.all (fun t => P.readableRec t && decide (t < P.types.size)) = true) (hvars : s.vars = []) (hrt : f.resultTypes = #[tb]) (htb : P.underlying tb = some .bool)
    (hW : DataW.Whole enc P f.params.toList s.vars false W args.toList ds gs before)
    (hfn : s.fn H (ds ++ gs) = { results := [.lit (.bool true)], args := ds }) (hx : Ext W W') : s.post enc P f false true false false W args (.bool true) W' := by
  have hW' := hW
  obtain ⟨p, q, hA, hV, rfl, hfz, hnd⟩ := hW
  rw [hvars] at hV
  obtain ⟨rfl, rfl⟩ := trodVars_none hV
  have hlt : ∀ x ∈ p ++ [], x.block < W.heap.size := fun x hx => hW'.lt x hx
  have hr' : ∀ t ∈ f.params.toList, P.readableRec t = true ∧ t < P.types.size := fun t ht => by
    have := List.all_eq_true.1 hr t ht
    simpa using this
  refine post_of_below (pa := p) (pv := []) hW' ?_ ?_ ?_ rfl hx ?_
  · intro b sp hd
    rw [hfn, hrt]
    exact trodAll_cons_mk (shut_bool htb _) trodAll_mk0
  · intro sp hsp
    rw [hfn]
    exact trodAll_carry hl hx hr' hA (fun x hx => hlt x (by simpa using hx)) (fun x hx => hsp x (by simpa using hx))
  · intro sp hsp
    rw [hfn, hvars]
    rfl
  · exact ok_one hrt rfl (okWide_bool_mk htb _)
end

/-! ### Opening the arguments -/
theorem list_of {α : Type} {Φ : Nat → α → Prop} : ∀ {n : Nat}, (∀ i, i < n → ∃ x, Φ i x) → ∃ l : List α, l.length = n ∧ ∀ i x, l[i]? = some x → Φ i x
  | 0, _ => ⟨[], rfl, fun i x h => by simp at h⟩
  | n + 1, h => by
    obtain ⟨l, hl, hp⟩ := list_of (n := n) fun i hi => h i (by omega)
    obtain ⟨x, hx⟩ := h n (by omega)
    refine ⟨l ++ [x], by simp [hl], fun i y hy => ?_⟩
    by_cases hi : i < n
    · rw [List.getElem?_append_left (by omega)] at hy; exact hp i y hy
    · have : i < (l ++ [x]).length := (List.getElem?_eq_some_iff.1 hy).1
      have hin : i = n := by simp [hl] at this; omega
      subst hin
      rw [List.getElem?_append_right (by omega)] at hy
      simp [hl] at hy
      rw [← hy]; exact hx
def i64ok (n : Int) : Prop := -9223372036854775808 ≤ n ∧ n ≤ 9223372036854775807
structure EvOk (e : Ev) : Prop where
  src : e.src.size ≤ maxLen
  num : i64ok e.num
  at_ : i64ok e.at_
  kind : i64ok e.kind
  person : e.person.size ≤ maxLen
  item : e.item.size ≤ maxLen
  val : i64ok e.val
  text : e.text.size ≤ maxLen
theorem wf_i64ok {n : Int} (h : (Lit.int .i64 n).wf = true) : i64ok n := by
  unfold i64ok
  simpa [Lit.wf, IntKind.min, IntKind.max, IntKind.signed, IntKind.bits] using h

set_option maxRecDepth 100000 in
theorem open_events {H : Type} {enc : TypeId × Value → H} {W : World} {b0 : Nat} {r : Reach} {v : Value} {d : DataW H} {p : List MemPlace} (hval : Value.okWide Tryd.prog W r b0 22 v)
    (h : DataW.Trod enc Tryd.prog W 0 (fun _ => true) true 22 v d p) : ∃ (A : Option Addr) (c : Nat) (l : List Ev), v = .slice A l.length c ∧ l.length ≤ c ∧ c ≤ maxLen ∧ SlE W A l ∧ ∀ e ∈ l, EvOk e := by
  have ht : Tryd.prog.underlying 22 = some (.slice 34) := by kernel_rfl
  have hs := st34
  obtain ⟨A0, n0, c0, rfl⟩ : ∃ A n c, v = .slice A n c := okWide_slice ht hval
  obtain ⟨fuel, hf⟩ := h
  have hsize : (Tryd.prog.fieldsOf 34).size = 8 := by
    have := congrArg List.length hs.fields
    simpa [flOf] using this
  rcases open_slice_fields ht hs.und (by kernel_rfl) (by rw [hsize]; kernel_rfl) hf with ⟨h0, _⟩ | ⟨a, len, cap, m, D, Pl, hcs, _, hlc, hcm, hm, _, hi⟩
  · have e1 : Value.slice A0 n0 c0 = .slice none 0 0 := by simpa [Value.cells] using h0
    injection e1 with e1 e2 e3
    subst e1; subst e2; subst e3
    exact ⟨none, 0, [], rfl, by simp, by simp [maxLen], Sl.nil, by simp⟩
  · have e1 : Value.slice A0 n0 c0 = .slice (some a) len cap := by simpa [Value.cells] using hcs
    injection e1 with e1 e2 e3
    subst e1; subst e2; subst e3
    have hlm : n0 ≤ m := by rw [hm]; split <;> omega
    rw [hsize] at hi
    have hfield : ∀ j nm t off, nth (flOf Tryd.prog 34) j = some (nm, t, off) → ∃ f, (Tryd.prog.fieldsOf 34)[j]? = some f ∧ f.type = t := by
      intro j nm t off hj
      rw [nth_eq] at hj
      unfold flOf at hj
      rw [List.getElem?_map, Array.getElem?_toList] at hj
      cases hg : (Tryd.prog.fieldsOf 34)[j]? with
      | none => rw [hg] at hj; simp at hj
      | some f => rw [hg] at hj; simp at hj; exact ⟨f, rfl, hj.2.1⟩
    have hs9 : Tryd.prog.underlying 9 = some .string := by kernel_rfl
    have hs3 : Tryd.prog.underlying 3 = some (.int .i64) := by kernel_rfl
    have hs31 : Tryd.prog.underlying 32 = some (.int .i64) := by kernel_rfl
    obtain ⟨l, hl, hp⟩ := list_of (Φ := fun i (e : Ev) => CellsAt W (a.add (i * 8)) (evC e) ∧ EvOk e) (n := n0) (fun i hin => by
      obtain ⟨ys, n, _, _, hyl, hc⟩ := hi i (by omega)
      have str : ∀ j nm off, nth (flOf Tryd.prog 34) j = some (nm, 9, off) → ∃ s : ByteArray, W.cell? (a.add (i * 8 + j)) = some (.string s) ∧ s.size ≤ maxLen := by
        intro j nm off hj
        obtain ⟨f, hf1, hf2⟩ := hfield j nm _ off hj
        obtain ⟨v, y, hcell, _, hy⟩ := hc j f hf1
        rw [hf2] at hy
        obtain ⟨s, hv, _, hsz⟩ := DataW.trod_string hs9 hy
        obtain rfl : v = .string s := by simpa using hv
        exact ⟨s, hcell, hsz⟩
      have int : ∀ j nm t off, Tryd.prog.underlying t = some (.int .i64) → nth (flOf Tryd.prog 34) j = some (nm, t, off) → ∃ q : Int, W.cell? (a.add (i * 8 + j)) = some (.int .i64 q) ∧ i64ok q := by
        intro j nm t off ht hj
        obtain ⟨f, hf1, hf2⟩ := hfield j nm _ off hj
        obtain ⟨v, y, hcell, _, hy⟩ := hc j f hf1
        rw [hf2] at hy
        obtain ⟨q, hv, _, hwf⟩ := DataW.trod_int ht hy
        obtain rfl : v = .int .i64 q := by simpa using hv
        exact ⟨q, hcell, wf_i64ok hwf⟩
      obtain ⟨s0, c0, o0⟩ := str 0 "Source" 0 (by rw [hs.fields]; rfl)
      obtain ⟨s1, c1, o1⟩ := int 1 "Number" _ 1 hs3 (by rw [hs.fields]; rfl)
      obtain ⟨s2, c2, o2⟩ := int 2 "At" _ 2 hs3 (by rw [hs.fields]; rfl)
      obtain ⟨s3, c3, o3⟩ := int 3 "Kind" _ 3 hs31 (by rw [hs.fields]; rfl)
      obtain ⟨s4, c4, o4⟩ := str 4 "Person" 4 (by rw [hs.fields]; rfl)
      obtain ⟨s5, c5, o5⟩ := str 5 "Item" 5 (by rw [hs.fields]; rfl)
      obtain ⟨s6, c6, o6⟩ := int 6 "Value" _ 6 hs3 (by rw [hs.fields]; rfl)
      obtain ⟨s7, c7, o7⟩ := str 7 "Text" 7 (by rw [hs.fields]; rfl)
      refine ⟨⟨s0, s1, s2, s3, s4, s5, s6, s7⟩, fun j v hj => ?_, ⟨o0, o1, o2, o3, o4, o5, o6, o7⟩⟩
      rw [add_add_addr]
      match j, hj with
      | 0, hj => simp [evC] at hj; rw [← hj]; exact c0
      | 1, hj => simp [evC] at hj; rw [← hj]; exact c1
      | 2, hj => simp [evC] at hj; rw [← hj]; exact c2
      | 3, hj => simp [evC] at hj; rw [← hj]; exact c3
      | 4, hj => simp [evC] at hj; rw [← hj]; exact c4
      | 5, hj => simp [evC] at hj; rw [← hj]; exact c5
      | 6, hj => simp [evC] at hj; rw [← hj]; exact c6
      | 7, hj => simp [evC] at hj; rw [← hj]; exact c7
      | j + 8, hj => simp [evC] at hj)
    refine ⟨some a, c0, l, by rw [hl], by omega, hcm, fun i x hix => ⟨a, rfl, (hp i x hix).1⟩, fun e he => ?_⟩
    obtain ⟨i, hi', rfl⟩ := List.getElem_of_mem he
    exact (hp i _ (List.getElem?_eq_getElem hi')).2
end Go.Proofs.YtbfjlpoeglcmfaaDoor
