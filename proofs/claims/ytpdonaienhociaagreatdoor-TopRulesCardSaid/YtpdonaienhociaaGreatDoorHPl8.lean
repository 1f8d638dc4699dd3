import Derived.Test.YtpdonaienhociaaGreatDoorGJ
set_option linter.all false
namespace Go.Proofs.YtpdonaienhociaaGreatDoor
open Go.Se Go.RowKit
theorem Q3g {w w1:World} {A A1:Option Addr} (hg:w.grownBy w1 (A.map (·.block))) (hA:A1=A\/A1.map (·.block)=A.map (·.block)\/A1.map (·.block)=some w.heap.size) (k:Nat) (hk:k<w.heap.size) (hn:¬ rowB A k):w1.heap[k]? = w.heap[k]? /\ ¬ rowB A1 k:=by
 refine⟨hg.block k hk (fun e => ?_),?_⟩
 . cases A with
   | none=>simp at e
   | some x=>simp at e;exact hn ⟨x,rfl,e⟩
 . rintro ⟨y,hy,rfl⟩;subst hy;rcases hA with h | h | h
   . exact hn ⟨y,h.symm,rfl⟩
   . cases A with
     | none=>simp at h
     | some x=>simp at h;exact hn ⟨x,rfl,h⟩
   . simp at h;omega
theorem Qwn (name:Bj):∀ es:List Ev,(∀ e∈es,X0 e=true)->(Qpy name es).item.tags.size<1000:=by
 refine Qv (fun _=>by show (⟨#[]⟩:Bj).size<1000;decide) fun es e ih h => ?_
 have ih:=ih fun x hx=>h x (by simp[hx])
 have he:=Qdc (h e (by simp));rw[Qh1];unfold Qb8;split
 . show (Qa7 e.text).size<1000
   have:=Qj4 e.text;omega
 . split
   . exact ih
   . exact ih
theorem Qe4 (name:Bj) (es:List Ev) (h:∀ e∈es,X0 e=true):(Qtz name es).tags.size<1000:=by
 unfold Qtz;split
 . show (⟨#[]⟩:Bj).size<1000
   decide
 . exact Qwn name es h
theorem Qi6 (gap:Int) (L:List Ad3) (a:Ad3):allL gap (L ++ [a])=Qbn gap (allL gap L) a:=by unfold allL;rw[Zt];rfl
