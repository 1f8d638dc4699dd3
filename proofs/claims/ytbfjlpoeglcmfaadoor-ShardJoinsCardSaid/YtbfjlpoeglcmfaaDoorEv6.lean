
/- The document's Once. -/
import Derived.Test.YtbfjlpoeglcmfaaDoorEv5
import Derived.Test.YtbfjlpoeglcmfaaDoorLib4
set_option linter.unusedVariables false
set_option linter.unusedSimpArgs false
namespace Go.Proofs.YtbfjlpoeglcmfaaDoor
open Go.Se Go.RowKit

def sameId (e x : Ev) : Bool := decide (x.src = e.src) && decide (x.num = e.num)
def onceStep (out : List Ev) (e : Ev) : List Ev := match out.findIdx? (sameId e) with
  | none => out ++ [e]
  | some k => bif betterB e (out.getD k e) then out.set k e else out
def onceL (l : List Ev) : List Ev := l.foldl onceStep []
theorem once_snoc (l : List Ev) (i : Nat) (h : i < l.length) : onceL (l.take (i + 1)) = onceStep (onceL (l.take i)) l[i] := by
  unfold onceL
  rw [List.take_succ_eq_append_getElem h, List.foldl_append]
  rfl
theorem once_step_len (out : List Ev) (e : Ev) : (onceStep out e).length ≤ out.length + 1 := by
  unfold onceStep
  split
  · simp
  · cases betterB e (out.getD _ e) <;> simp
theorem once_fold_len : ∀ (l out : List Ev), (l.foldl onceStep out).length ≤ out.length + l.length
  | [], out => by simp
  | e :: l, out => by
    have h1 := once_fold_len l (onceStep out e)
    have h2 := once_step_len out e
    simp at h1 ⊢
    omega
theorem once_len (l : List Ev) : (onceL l).length ≤ l.length := by
  have := once_fold_len l []
  simpa [onceL] using this
theorem once_step_mem {out : List Ev} {e x : Ev} (h : x ∈ onceStep out e) : x ∈ out ∨ x = e := by
  unfold onceStep at h
  split at h
  · simpa using h
  · cases hb : betterB e (out.getD _ e) <;> rw [hb] at h
    · exact .inl h
    · exact List.mem_or_eq_of_mem_set h
theorem once_fold_mem : ∀ {l out : List Ev} {x : Ev}, x ∈ l.foldl onceStep out → x ∈ out ∨ x ∈ l
  | [], out, x, h => .inl h
  | e :: l, out, x, h => by
    rcases once_fold_mem (l := l) h with h | h
    · rcases once_step_mem h with h | h
      · exact .inl h
      · exact .inr (by simp [h])
    · exact .inr (by simp [h])
theorem once_mem {l : List Ev} {x : Ev} (h : x ∈ onceL l) : x ∈ l := by
  rcases once_fold_mem h with h | h
  · simp at h
  · exact h
theorem undEv : Tryd.prog.underlying 22 = some (.slice 34) := by kernel_rfl

theorem once_spec (l : List Ev) (A : Option Addr) (c : Nat) (w : World) (hs : SlE w A l) (hl : l.length < 1000000) (hf : ∀ e ∈ l, FOk e) :
    Cal Tryd.prog 15 [.slice A l.length c] w fun r w' => ∃ A' c', r = .slice A' (onceL l).length c' ∧ SlE w' A' (onceL l) ∧ Ext w w' := by
  refine fn_intro Tt_ok Tryd.func15 (by rfl) rfl _ rfl rfl (by rfl) ?_; (conv => whnf)
  intro b w0 hnew
  (conv => whnf)
  refine loop_rule Tt_ok (fun (i : Nat × Option Addr × Nat) w' => i.1 ≤ l.length ∧ Ext w w' ∧ Own evC 8 34 w.heap.size w' i.2.1 i.2.2 (onceL (l.take i.1)))
    (fun i => [(0, .slice A l.length c), (4, .int .i64 i.1), (3, .slice i.2.1 (onceL (l.take i.1)).length i.2.2)]) (fun i => l.length - i.1) (0, some ⟨b, 0, none⟩, 0) ⟨by simp, hnew.ext, Own.made hnew (Nat.le_refl _)⟩ ⟨rfl, rfl, rfl, trivial⟩ ?_
  rintro ⟨i, A', c'⟩ w1 ⟨hi, hx, hown⟩
  simp only at hi hown
  (conv => whnf)
  constructor
  · intro hlt
    have hlt : i < l.length := by simpa using hlt
    obtain ⟨a, hA, hc⟩ := hs.get hlt
    have hos := once_snoc l i hlt
    have hol : (onceL (l.take i)).length ≤ l.length := by
      have := once_len (l.take i)
      simp at this; omega
    have hfo : ∀ x ∈ onceL (l.take i), FOk x := fun x hx => hf x (List.mem_of_mem_take (once_mem hx))
    have hfe := hf _ (List.getElem_mem hlt)
    (conv => whnf)
    generalize hel : l[i] = e at hc hos hfe
    generalize hou : onceL (l.take i) = out at hown hos hol hfo ⊢
    refine seq_cut Tt_ok (ι := Option Addr × Nat) (fun j => [(0, .slice A l.length c), (4, .int .i64 i), (3, .slice j.1 (onceL (l.take (i + 1))).length j.2)])
      (fun j w' => Ext w w' ∧ Own evC 8 34 w.heap.size w' j.1 j.2 (onceL (l.take (i + 1)))) ?_ ?_
    rotate_left
    · rintro ⟨A2, c2⟩ w2 ⟨hx2, hown2⟩
      (conv => whnf)
      refine ⟨((i + 1 : Nat) : Int), wrap_succ (by omega), ?_⟩; (conv => whnf)
      exact ⟨(i + 1, A2, c2), by simp; omega, ⟨by simp; omega, hx2, hown2⟩, ⟨rfl, rfl, rfl, trivial⟩⟩
    rw [hos]
    subst hA
    (conv => whnf)
    refine loop_rule Tt_ok (fun (k : Nat) w' => k ≤ out.length ∧ Ext w1 w' ∧ ∀ j (hj : j < out.length), j < k → sameId e out[j] = false)
      (fun k => [(0, .slice (some a) l.length c), (4, .int .i64 i), (3, .slice A' out.length c'), (5, .int .i64 k)]) (fun k => out.length - k) 0 ⟨by omega, Ext.refl _, fun i _ h => by omega⟩ ⟨rfl, rfl, rfl, rfl, trivial⟩ ?_
    rintro k w2 ⟨hk, hx2, hall⟩
    (conv => whnf)
    refine draw_rule .same [0, 1, 2, 3, 4, 5, 6, 7, 8, 9, 10, 11, 12, 13, 14, 15, 16, 17, 18, 19, 20, 21, 22, 23, 24, 25, 26, 27, 28, 29] [] Tt_ok mixed (by kernel_rfl) (by first | (intro h; cases h; done) | (intro _; rfl)) ?_; (conv => whnf)
    replace hx2 : Ext w1 w2.drew := hx2.drew
    generalize w2.drew = w3 at hx2 ⊢
    have hown3 := hown.ext hx2
    have hce : CellsAt w3 (a.add (i * 8)) (evC e) := (hx.trans hx2).cells hc
    obtain ⟨a1, hk1⟩ : ∃ a1, k < out.length → A' = some a1 ∧ CellsAt w3 (a1.add (k * 8)) (evC (out.getD k e)) := by
      by_cases hh : k < out.length
      · obtain ⟨a1, h1, h2⟩ := (hown3.sl evC_len).get hh
        exact ⟨a1, fun _ => ⟨h1, by rw [getD_lt hh]; exact h2⟩⟩
      · exact ⟨a, fun h => absurd h hh⟩
    generalize hxe : out.getD k e = x at hk1
    have hd : ∀ {p q : Nat}, decide ((p : Int) < (q : Int)) = true → p < q := fun h => by simpa using h
    refine ⟨a1, fun hg => ⟨(hk1 (hd hg)).1, by omega, by simpa using hg⟩, ?_⟩; (conv => whnf)
    refine ⟨.string x.src, fun hg => cells_at (hk1 (hd hg)).2 (k := 0) rfl, ?_⟩; (conv => whnf)
    refine ⟨a, fun hg => ⟨rfl, by omega, by omega⟩, ?_⟩; (conv => whnf)
    refine ⟨.string e.src, fun _ => cells_at hce (k := 0) rfl, ?_⟩; (conv => whnf)
    refine ⟨a1, fun _ hg => ⟨(hk1 (hd hg)).1, by omega, by simpa using hg⟩, ?_⟩; (conv => whnf)
    refine ⟨.int .i64 x.num, fun _ hg => cells_at (hk1 (hd hg)).2 (k := 1) rfl, ?_⟩; (conv => whnf)
    refine ⟨a, fun _ _ => ⟨rfl, by omega, by omega⟩, ?_⟩; (conv => whnf)
    refine ⟨.int .i64 e.num, fun _ _ => cells_at hce (k := 1) rfl, ?_⟩; (conv => whnf)
    constructor
    · intro hcd
      have hcd : (decide ((k : Int) < (out.length : Int)) && (!decide (x.src = e.src) || !decide (x.num = e.num))) = true := hcd
      rw [Bool.and_eq_true] at hcd
      have hkl := hd hcd.1
      have hno : sameId e x = false := by
        have := hcd.2
        unfold sameId
        revert this
        cases decide (x.src = e.src) <;> cases decide (x.num = e.num) <;> simp
      (conv => whnf)
      refine ⟨((k + 1 : Nat) : Int), wrap_succ (by omega), ?_⟩; (conv => whnf)
      refine ⟨k + 1, by omega, ⟨by omega, hx2, fun j hj hjk => ?_⟩, ⟨rfl, rfl, rfl, rfl, trivial⟩⟩
      by_cases ejk : j = k
      · subst ejk; rw [← getD_lt hj (d := e), hxe]; exact hno
      · exact hall j hj (by omega)
    · intro hcd
      have hcd : (decide ((k : Int) < (out.length : Int)) && (!decide (x.src = e.src) || !decide (x.num = e.num))) = false := hcd
      (conv => whnf)
      constructor
      · intro hkl
        have hkl : k = out.length := by simp at hkl; omega
        have hst : onceStep out e = out ++ [e] := by
          have : out.findIdx? (sameId e) = none := by
            rw [List.findIdx?_eq_none_iff]
            intro y hy
            obtain ⟨j, hj, rfl⟩ := List.getElem_of_mem hy
            exact hall j hj (by omega)
          unfold onceStep
          rw [this]
        rw [hst]
        (conv => whnf)
        refine ⟨a, ⟨rfl, by omega, by omega⟩, ?_⟩; (conv => whnf)
        refine ⟨evC e, ⟨rfl, hce⟩, ?_⟩; (conv => whnf)
        intro b5 w5 hn5
        (conv => whnf)
        refine append_own (l := out) (news := [e]) (bytes := 96) (ety := ty34) ty34_ok undEv by34 rfl rfl (by decide) evC_len evC_one (hown3.ext hn5.ext) (sl_new evC_len hn5) (by simp; omega) (by simp; omega) ((hx.trans hx2).trans hn5.ext).size ?_
        intro A6 c6 w6 hown6 hgr hA6
        (conv => whnf)
        refine ⟨(A6, c6), ⟨?_, hown6⟩, ⟨rfl, rfl, rfl, trivial⟩⟩
        refine ext_grown ((hx.trans hx2).trans hn5.ext) hgr fun g hg => ?_
        cases A' with
        | none => simp at hg
        | some a' =>
          have := hown.block (a := a') rfl
          simp at hg
          omega
      · intro hkl
        have hkl : k < out.length := by simp at hkl; omega
        obtain ⟨rfl, hcx⟩ := hk1 hkl
        have hsame : sameId e x = true := by
          unfold sameId
          revert hcd
          have : decide ((k : Int) < (out.length : Int)) = true := by simpa using hkl
          rw [this]
          cases decide (x.src = e.src) <;> cases decide (x.num = e.num) <;> simp
        have hst : onceStep out e = bif betterB e x then out.set k e else out := by
          have : out.findIdx? (sameId e) = some k := by
            rw [List.findIdx?_eq_some_iff_getElem]
            refine ⟨hkl, by rw [← getD_lt hkl (d := e), hxe]; exact hsame, fun j hj => by rw [hall j (by omega) hj]; simp⟩
          unfold onceStep
          rw [this]
          simp only [hxe]
        rw [hst]
        have hfx : FOk x := hfo x (by rw [← hxe, getD_lt hkl]; exact List.getElem_mem hkl)
        (conv => whnf)
        refine draw_rule .ext [0, 1, 2, 3, 4, 5, 6, 7] [8] Tt_ok mixed (by kernel_rfl) (by first | (intro h; cases h; done) | (intro _; rfl)) ?_; (conv => whnf)
        replace hx2 : Ext w1 w3.drew := hx2.drew
        replace hce : CellsAt w3.drew (a.add (i * 8)) (evC e) := (hx.trans hx2).cells hc
        replace hcx : CellsAt w3.drew (a1.add (k * 8)) (evC x) := hcx
        replace hown3 := hown.ext hx2
        generalize w3.drew = w4 at hx2 hce hcx hown3 ⊢
        refine ⟨a, ⟨rfl, by omega, by omega⟩, ?_⟩; (conv => whnf)
        refine ⟨evC e, ⟨rfl, hce⟩, ?_⟩; (conv => whnf)
        refine ⟨a1, ⟨rfl, by omega, by omega⟩, ?_⟩; (conv => whnf)
        refine ⟨evC x, ⟨rfl, hcx⟩, ?_⟩; (conv => whnf)
        refine (better_spec e x w4 hfe hfx).mono ?_
        rintro r w5 ⟨rfl, hx5⟩
        (conv => whnf)
        constructor
        · intro hbt
          rw [hbt]
          (conv => whnf)
          refine ⟨a, ⟨rfl, by omega, by omega⟩, ?_⟩; (conv => whnf)
          refine ⟨evC e, ⟨rfl, hx5.cells hce⟩, ?_⟩; (conv => whnf)
          refine ⟨a1, ⟨rfl, by omega, by omega⟩, ?_⟩; (conv => whnf)
          refine store_own Tt_ok (e := ty34) (by rfl) rfl evC_len evC_one hkl e (v := evV e) rfl (hown3.ext hx5) fun w6 hown6 hon => ?_
          (conv => whnf)
          refine ⟨(some a1, c'), ⟨hon.ext ((hx.trans hx2).trans hx5) (hown.block rfl).1, hown6⟩, ⟨rfl, rfl, ?_, trivial⟩⟩
          simp
          rfl
        · intro hbt
          rw [hbt]
          (conv => whnf)
          exact ⟨(some a1, c'), ⟨(hx.trans hx2).trans hx5, hown3.ext hx5⟩, ⟨rfl, rfl, rfl, trivial⟩⟩
  · intro hge
    have hge : l.length ≤ i := by simpa using hge
    (conv => whnf)
    rw [List.take_of_length_le hge] at hown ⊢
    exact ⟨A', c', rfl, hown.sl evC_len, hx⟩
end Go.Proofs.YtbfjlpoeglcmfaaDoor
