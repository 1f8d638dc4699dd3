import Derived.Test.YtdahooejkjcjiaaGreatDoorGE
import Derived.Test.YtdahooejkjcjiaaGreatDoorGL
import Derived.Test.YtdahooejkjcjiaaGreatDoorGC
/- Worlds that may not be; the reference's small words (Twin,Left that may be appended to). -/
set_option linter.unusedVariables false
set_option linter.unusedSimpArgs false
namespace Go.Proofs.YtdahooejkjcjiaaGreatDoor
open Go.Se Go.RowKit
def Q2e (l:List Ev) (f:Ev) : Bool := l.any fun x => decide (idE x = idE f)
set_option maxHeartbeats 1000000 in
theorem Qye (l:List Ev) (A:Option Addr) (cap:Nat) (f:Ev) (w:World) (hs:SlE w A l) (hl:l.length < 1000000) :
 Cal Tryz.prog 14 [.slice A l.length cap,evV f] w fun r w' => r = .bool (Q2e l f) ∧ Ext w w' := by
 refine Fi Tryz.func14 rfl _ rfl rfl ?_;conv=>whnf
 intro b1 w1 hn1
 have h1 : At w1 b1 34 (evC f) := hn1.At
 have hx := hn1.ext
 clear hn1
 conv=>whnf
 refine Qe Qa (fun (k:Nat) w' => k ≤ l.length ∧ Ext w1 w' ∧ ∀ x ∈ l.take k,idE x ≠ idE f)
  (fun k => [(0,.slice A l.length cap),(3,.pointer (some ⟨b1,0,none⟩)),(5,.int .i64 (k:Nat))]) (fun k => l.length - k) 0 ⟨by omega,Ext.refl _,by simp⟩ ⟨rfl,rfl,rfl,trivial⟩ ?_
 rintro k w2 ⟨hk,hx2,hall⟩
 replace hx := hx.trans hx2
 replace h1 := h1.ext hx2
 conv=>whnf
 constructor
 · intro hlt
   have hlt : k < l.length := by simpa using hlt
   obtain ⟨a,rfl,hc⟩ := (hs.ext hx).get hlt
   have htk := Qbr l k hlt
   have hin := List.getElem_mem hlt
   generalize l[k] = e at hc htk hin
   (conv=>whnf);repeat(refine Sg ?_;(conv=>whnf))
   refine Dr .ext [0,1,2,3,4,5,6,7,8,9,10,11,12,13,14,15,16,17] [] ?_;conv=>whnf
   have hxd : Ext w2 w2.drew := (Ext.refl w2).drew
   replace h1 := h1.ext hxd
   replace hc := hxd.cells hc
   replace hx := hx.trans hxd
   replace hx2 := hx2.trans hxd
   generalize w2.drew = w3 at h1 hc hx hx2 ⊢
   refine ⟨a,⟨rfl,by omega,by omega⟩,?_⟩;conv=>whnf
   refine ⟨_,cells_at hc (k := 0) rfl,?_⟩;conv=>whnf
   refine ⟨_,h1.one rfl,?_⟩;conv=>whnf
   refine ⟨a,fun _ => ⟨rfl,by omega,by omega⟩,?_⟩;conv=>whnf
   refine ⟨_,fun _ => cells_at hc (k := 1) rfl,?_⟩;conv=>whnf
   refine ⟨_,fun _ => h1.one rfl,?_⟩;conv=>whnf
   constructor
   · intro hq
     have hq : (decide (e.src = f.src) && decide (e.num = f.num)) = true := hq
     (conv=>whnf);repeat(refine Sg ?_;(conv=>whnf))
     refine ⟨?_,hx⟩
     have : Q2e l f = true := List.any_eq_true.2 ⟨e,hin,decide_eq_true (by unfold idE; simp at hq; rw [hq.1,hq.2])⟩
     rw [this]
   · intro hq
     have hq : (decide (e.src = f.src) && decide (e.num = f.num)) = false := hq
     (conv=>whnf);repeat(refine Sg ?_;(conv=>whnf))
     refine ⟨_,wrap_succ (by omega),?_⟩; (conv=>whnf);repeat(refine Sg ?_;(conv=>whnf))
     refine ⟨k + 1,by omega,⟨by omega,hx2,fun y hy => ?_⟩,⟨rfl,rfl,rfl,trivial⟩⟩
     rw [htk] at hy
     rcases List.mem_append.1 hy with hy | hy
     · exact hall y hy
     · rw [List.mem_singleton.1 hy]
       intro he
       unfold idE at he
       simp only [Prod.mk.injEq] at he
       simp [he.1,he.2] at hq
 · intro hge
   have hge : l.length ≤ k := by simpa using hge
   rw [List.take_of_length_le hge] at hall
   (conv=>whnf);repeat(refine Sg ?_;(conv=>whnf))
   refine ⟨?_,hx⟩
   have : Q2e l f = false := List.any_eq_false.2 fun x hx => by simpa using hall x hx
   rw [this]
end Go.Proofs.YtdahooejkjcjiaaGreatDoor
