import Derived.Test.YtoancknoinilaaaGreatDoorGN
import Derived.Test.YtoancknoinilaaaGreatDoorGM
import Derived.Test.YtoancknoinilaaaGreatDoorGK
import Derived.Test.YtoancknoinilaaaGreatDoorGL
/- The laws of the score: what is gone through; somebody new (ScoreStrangers). -/
set_option linter.unusedVariables false
set_option linter.unusedSimpArgs false
namespace Go.Proofs.YtoancknoinilaaaGreatDoor
open Go.Se Go.RowKit
def hvB (n:Nat) (c:Cfg) (l:List Ev) (person item:ByteArray) : Bool := (((((decide ((n:Int) < l.length)) || l.any (Q6g 300)) || !l.all Xp) || !Qpu c) || decide ((100:Int) < person.size)) || decide ((100:Int) < item.size)
theorem Q7o {n:Nat} {c:Cfg} {l:List Ev} {person item:ByteArray} (h:hvB n c l person item = false) : l.length ≤ n ∧ (∀ e ∈ l,Xp e = true) ∧ Qpu c = true := by
 unfold hvB at h
 simp only [Bool.or_eq_false_iff,Bool.not_eq_false',decide_eq_false_iff_not,List.all_eq_true] at h
 obtain ⟨⟨⟨⟨⟨h1,h2⟩,h3⟩,h4⟩,h5⟩,h6⟩ := h
 exact ⟨by omega,h3,h4⟩
theorem Q3l {l:List Ev} (h:l.any (Q6g 300) = false) : ∀ e ∈ l,e.text.size < 1000000000000 := fun e he => by
 have := (List.any_eq_false.1 h) e he
 simp [Q6g] at this
 omega
theorem Qyq (n:Nat) (hn:n < 1000) (c:Cfg) (l:List Ev) (A:Option Addr) (cap:Nat) (person item:ByteArray) (w:World) (hs:SlE w A l) :
 Cal Tryz.prog 16 [Qwd c,.slice A l.length cap,.int .i64 (n:Nat),.string person,.string item] w fun r w' => r = .bool (hvB n c l person item) ∧ Ext w w' := by
 refine Fi Tryz.func16 rfl _ rfl rfl ?_;conv=>whnf
 intro b1 w1 hn1;conv=>whnf
 have h1 := hn1.At
 refine ⟨Unit,fun _ => (.bool (l.any (Q6g 300))),fun _ w' => Ext w1 w',(),fun hg => ((Qzt l A cap 300 w1 (hs.ext hn1.ext) (by simp at hg; omega))).mono fun r w' h => ⟨(),h.1,h.2⟩,?_⟩
 intro _ w2 h2
 have hx2 : Ext w1 w2 := by
  rcases h2 with ⟨_,h⟩ | ⟨_,h⟩
  · exact h
  · rw [h]; exact Ext.refl _
 clear h2
 conv=>whnf
 refine ⟨Unit,fun _ => (.bool (l.all Xp)),fun _ w' => Ext w2 w',(),fun hg => ((Q2m l A cap w2 ((hs.ext hn1.ext).ext hx2) (by have := (Bool.or_eq_false_iff.1 hg).1; simp at this; omega) (Q3l (Bool.or_eq_false_iff.1 hg).2))).mono fun r w' h => ⟨(),h.1,h.2⟩,?_⟩
 intro _ w3 h2
 have hx3 : Ext w2 w3 := by
  rcases h2 with ⟨_,h⟩ | ⟨_,h⟩
  · exact h
  · rw [h]; exact Ext.refl _
 clear h2
 conv=>whnf
 replace h1 := (h1.ext hx2).ext hx3
 refine ⟨Qju c,fun _ => ⟨rfl,h1.all⟩,?_⟩;conv=>whnf
 refine ⟨Unit,fun _ => (.bool (Qpu c)),fun _ w' => Ext w3 w',(),fun hg => ((Qry c w3)).mono fun r w' h => ⟨(),h.1,h.2⟩,?_⟩
 intro _ w4 h2
 have hx4 : Ext w3 w4 := by
  rcases h2 with ⟨_,h⟩ | ⟨_,h⟩
  · exact h
  · rw [h]; exact Ext.refl _
 clear h2
 conv=>whnf
 exact ⟨rfl,((hn1.ext.trans hx2).trans hx3).trans hx4⟩
end Go.Proofs.YtoancknoinilaaaGreatDoor
