import Derived.Test.YtnnnbjjenknpeaaGreatDoorHLr1
import Derived.Test.YtnnnbjjenknpeaaGreatDoorHTx5
/- The law ReasonTexts. -/
set_option linter.unusedVariables false
set_option linter.unusedSimpArgs false
namespace Go.Proofs.YtnnnbjjenknpeaaGreatDoor
open Go.Se Go.RowKit
theorem Q26 {l:List Ev} (h:l.any (Qsp 100) = false) : ∀ e ∈ l,e.text.size < 1000000 := fun e he => by
 rw [List.any_eq_false] at h
 have := h e he
 simp [Qsp] at this
 omega
set_option maxHeartbeats 1000000 in
theorem reasonTexts_spec (item:ByteArray) (tot:Int) (A1:Option Addr) (c1:Nat) (Q:List Pt) (A2:Option Addr) (c2:Nat) (O:List Ev) (f:Int) (w:World) (hg0:Gl w) (hnm:Q2y w) (h1:Sl ptC 3 w A1 Q) (h2:SlE w A2 O) (ht:-9223372036854775808 ≤ tot ∧ tot ≤ 9223372036854775807) (hf:-9223372036854775808 ≤ f ∧ f ≤ 9223372036854775807) (hq:∀ p ∈ Q,Q7f p) :
 Cal Tryz.prog 9 [.agg (rsC item A1 Q.length c1 tot A2 O.length c2 f).toArray] w fun r w' => r = .bool true ∧ Ext w w' := by
 refine Fi Tryz.func9 rfl _ rfl rfl ?_;conv=>whnf
 intro b1 w1 hn1; (conv=>whnf);repeat(refine Sg ?_;(conv=>whnf))
 have hr : At w1 b1 36 (rsC item A1 Q.length c1 tot A2 O.length c2 f) := hn1.At
 have hx := hn1.ext
 clear hn1
 refine ⟨.slice A1 Q.length c1,hr.one rfl,?_⟩; (conv=>whnf);repeat(refine Sg ?_;(conv=>whnf))
 refine ⟨.slice A2 O.length c2,fun _ => hr.one rfl,?_⟩; (conv=>whnf);repeat(refine Sg ?_;(conv=>whnf))
 refine ⟨.string item,fun _ => hr.one rfl,?_⟩; (conv=>whnf);repeat(refine Sg ?_;(conv=>whnf))
 refine ⟨.slice A2 O.length c2,fun _ => hr.one rfl,?_⟩; (conv=>whnf);repeat(refine Sg ?_;(conv=>whnf))
 refine ⟨Unit,fun _ => (.bool (O.any (Qsp 100))),fun _ w' => Ext w1 w',(),fun hg => ((Qrn O A2 c2 100 w1 (h2.ext hx) (by simp at hg; omega))).mono fun r w' h => ⟨(),h.1,h.2⟩,?_⟩
 intro _ w2 h2
 have hx2 : Ext w1 w2 := by
  rcases h2 with ⟨_,h⟩ | ⟨_,h⟩
  · exact h
  · rw [h]; exact Ext.refl _
 clear h2
 conv=>whnf
 replace hr := hr.ext hx2
 replace hx := hx.trans hx2
 (conv=>whnf);repeat(refine Sg ?_;(conv=>whnf))
 constructor
 · intro _
   (conv=>whnf);repeat(refine Sg ?_;(conv=>whnf))
   refine (Qab w2 (hg0.ext hx)).mono ?_
   rintro _ w3 ⟨rfl,hx3⟩; (conv=>whnf);repeat(refine Sg ?_;(conv=>whnf))
   exact ⟨rfl,hx.trans hx3⟩
 intro hc
 have hc : Q.length ≤ 12 ∧ O.length ≤ 12 ∧ item.size ≤ 100 ∧ O.any (Qsp 100) = false := by
  have hc : (((decide ((12:Int) < Q.length) || decide ((12:Int) < O.length)) || decide ((100:Int) < item.size)) || O.any (Qsp 100)) = false := hc
  simp only [Bool.or_eq_false_iff,decide_eq_false_iff_not] at hc
  exact ⟨by omega,by omega,by omega,hc.2⟩
 obtain ⟨hQ,hO,hi,hbig⟩ := hc
 have ho := Q26 hbig
 (conv=>whnf);repeat(refine Sg ?_;(conv=>whnf))
 refine Dr .ext [0,2,1] [3,4,5,6,7,8] ?_;conv=>whnf
 have hxd : Ext w2 w2.drew := (Ext.refl w2).drew
 replace hr := hr.ext hxd
 replace hx := hx.trans hxd
 generalize w2.drew = w3 at hx hr ⊢
 refine ⟨rsC item A1 Q.length c1 tot A2 O.length c2 f,⟨rfl,hr.all⟩,?_⟩;conv=>whnf
 refine ⟨rsC item A1 Q.length c1 tot A2 O.length c2 f,⟨rfl,hr.all⟩,?_⟩;conv=>whnf
 refine (Q2i item tot A1 c1 Q A2 c2 O f w3 (hg0.ext hx) (hnm.ext hg0 hx) (h1.ext hx) (h2.ext hx) (by omega) hQ (by omega) ht hf hq ho).mono ?_
 rintro _ w4 ⟨rfl,hx4⟩
 refine ⟨hx4,?_⟩;conv=>whnf
 replace hx := hx.trans hx4
 refine (Qrk item tot A1 c1 Q A2 c2 O f w4 (h1.ext hx) (h2.ext hx) (by omega) hQ hO ht hf hq ho).mono ?_
 rintro _ w5 ⟨rfl,hx5⟩
 replace hx := hx.trans hx5
 conv=>whnf
 refine ⟨Unit,fun _ => (.bool true),fun _ w' => Ext w5 w',(),fun hg => ((Qab w5 (hg0.ext hx))).mono fun r w' h => ⟨(),h.1,h.2⟩,?_⟩
 intro _ w6 h2
 have hx6 : Ext w5 w6 := by
  rcases h2 with ⟨_,h⟩ | ⟨_,h⟩
  · exact h
  · rw [h]; exact Ext.refl _
 clear h2
 conv=>whnf
 (conv=>whnf);repeat(refine Sg ?_;(conv=>whnf))
 exact ⟨by simp,hx.trans hx6⟩
end Go.Proofs.YtnnnbjjenknpeaaGreatDoor
