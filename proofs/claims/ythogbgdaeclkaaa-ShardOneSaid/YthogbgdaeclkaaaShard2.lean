/- The document's list of one shard. -/
import Derived.Test.YthogbgdaeclkaaaShard1
import Derived.Test.YthogbgdaeclkaaaLib3
set_option linter.unusedVariables false
set_option linter.unusedSimpArgs false
namespace Go.Proofs.Ythogbgdaeclkaaa
open Go.Se Go.RowKit

def thing (e : Ev) : Bool := decide (e.kind = 11) || decide (e.kind = 12) || decide (e.kind = 13)
def inPart (n k : Int) (e : Ev) : Bool := thing e || decide (shardOf e.person n = k)
def partL (l : List Ev) (n k : Int) : List Ev := l.filter (inPart n k)
theorem filter_snoc {α : Type} (p : α → Bool) (l : List α) (k : Nat) (hk : k < l.length) : (l.take (k + 1)).filter p = (l.take k).filter p ++ if p l[k] then [l[k]] else [] := by
  rw [List.take_succ_eq_append_getElem hk, List.filter_append]
  cases h : p l[k] <;> simp [h]

theorem und22 : Try.prog.underlying 22 = some (.slice 33) := by kernel_rfl

theorem part_spec (l : List Ev) (A : Option Addr) (c : Nat) (n k : Int) (w : World) (hs : SlE w A l) (hl : l.length < 1000000) (hp : ∀ e ∈ l, e.person.size < 1000000000000000) (hn : n < 9223372036854775808) :
    Cal Try.prog 11 [.slice A l.length c, .int .i64 n, .int .i64 k] w fun r w' => ∃ A' c', r = .slice A' (partL l n k).length c' ∧ SlE w' A' (partL l n k) ∧ Ext w w' := by
  refine fn_intro Tt_ok Try.func11 (by rfl) rfl _ rfl rfl (by rfl) ?_; (conv => whnf)
  intro b w0 hnew
  (conv => whnf)
  refine loop_rule Tt_ok (fun (i : Nat × Option Addr × Nat) w' => i.1 ≤ l.length ∧ Ext w w' ∧ Own evC 8 33 w.heap.size w' i.2.1 i.2.2 ((l.take i.1).filter (inPart n k)))
    (fun i => [(0, .slice A l.length c), (1, .int .i64 n), (2, .int .i64 k), (8, .int .i64 i.1), (7, .slice i.2.1 ((l.take i.1).filter (inPart n k)).length i.2.2)]) (fun i => l.length - i.1) (0, some ⟨b, 0, none⟩, 0) ⟨by simp, hnew.ext, Own.made hnew (Nat.le_refl _)⟩ ⟨rfl, rfl, rfl, rfl, rfl, trivial⟩ ?_
  rintro ⟨i, A', c'⟩ w1 ⟨hi, hx, hown⟩
  simp only at hi hown
  (conv => whnf)
  constructor
  · intro hlt
    have hlt : i < l.length := by simpa using hlt
    obtain ⟨a, rfl, hc⟩ := hs.get hlt
    have hpe := hp _ (List.getElem_mem hlt)
    have hfs := filter_snoc (inPart n k) l i hlt
    generalize hel : l[i] = e at *
    (conv => whnf)
    repeat (refine seq_go Tt_ok ?_; (conv => whnf))
    refine ⟨a, ⟨rfl, by omega, by omega⟩, ?_⟩; (conv => whnf)
    refine ⟨evC e, ⟨rfl, hx.cells hc⟩, ?_⟩; (conv => whnf)
    intro b2 w2 hn2
    (conv => whnf)
    refine store_at Tt_ok (e := ty33) (v := evV e) (off := 0) (by rfl) hn2.At (by rfl) (by decide) (evC_one e) fun w3 hat hon => ?_
    have hat : At w3 b2 33 (evC e) := hat
    have hx3 : Ext w1 w3 := hon.ext hn2.ext (by rw [hn2.block]; exact Nat.le_refl _)
    (conv => whnf)
    refine ⟨_, hat.one rfl, ?_⟩; (conv => whnf)
    refine ⟨_, fun _ => hat.one rfl, ?_⟩; (conv => whnf)
    refine ⟨_, fun _ => hat.one rfl, ?_⟩; (conv => whnf)
    refine ⟨_, fun _ => hat.one rfl, ?_⟩; (conv => whnf)
    refine ⟨Unit, fun _ => .int .i64 (shardOf e.person n), fun _ w' => Ext w3 w', (), fun _ => (rof_spec e.person n w3 hpe hn).mono fun r w' h => ⟨(), h.1, h.2⟩, ?_⟩
    intro _ w4 h4
    have hx4 : Ext w3 w4 := by
      rcases h4 with ⟨_, h⟩ | ⟨_, rfl⟩
      · exact h
      · exact Ext.refl _
    clear h4
    (conv => whnf)
    have hown4 := (hown.ext hx3).ext hx4
    constructor
    · intro hin
      have hin : inPart n k e = true := hin
      rw [hin, if_pos rfl] at hfs
      (conv => whnf)
      refine ⟨evC e, ⟨rfl, (hat.ext hx4).all⟩, ?_⟩; (conv => whnf)
      intro b5 w5 hn5
      (conv => whnf)
      refine append_own (l := (l.take i).filter (inPart n k)) (news := [e]) (bytes := 96) (ety := ty33) ty33_ok und22 by33 rfl rfl (by decide) evC_len evC_one (hown4.ext hn5.ext) (sl_new evC_len hn5) ?_ ?_ ?_ ?_
      · have := List.length_filter_le (inPart n k) (l.take i)
        simp at this ⊢
        omega
      · have := List.length_filter_le (inPart n k) (l.take i)
        simp at this ⊢
        omega
      · have := (hx.trans hx3).trans (hx4.trans hn5.ext)
        exact this.size
      · intro A6 c6 w6 hown6 hgr hA6
        rw [← hfs] at hown6
        (conv => whnf)
        refine ⟨((i + 1 : Nat) : Int), wrap_succ (by omega), ?_⟩; (conv => whnf)
        refine ⟨(i + 1, A6, c6), by simp; omega, ⟨by simp; omega, ?_, hown6⟩, ⟨rfl, rfl, rfl, rfl, ?_, trivial⟩⟩
        · refine ext_grown ((hx.trans hx3).trans (hx4.trans hn5.ext)) hgr fun g hg => ?_
          cases A' with
          | none => simp at hg
          | some a' =>
            have := hown.block (a := a') rfl
            simp at hg
            omega
        · simp only [hfs]; rfl
    · intro hin
      have hin : inPart n k e = false := hin
      rw [hin] at hfs
      simp at hfs
      (conv => whnf)
      refine ⟨((i + 1 : Nat) : Int), wrap_succ (by omega), ?_⟩; (conv => whnf)
      refine ⟨(i + 1, A', c'), by simp; omega, ⟨by simp; omega, hx.trans (hx3.trans hx4), by simp only [hfs]; exact hown4⟩, ⟨rfl, rfl, rfl, rfl, by simp only [hfs]; rfl, trivial⟩⟩
  · intro hge
    have hge : l.length ≤ i := by simpa using hge
    (conv => whnf)
    rw [List.take_of_length_le hge] at hown ⊢
    exact ⟨A', c', rfl, hown.sl evC_len, hx⟩
end Go.Proofs.Ythogbgdaeclkaaa
