import Derived.Test.YtnpacgccajekgaaGreatDoorGJ
set_option linter.all false
namespace Go.Proofs.YtnpacgccajekgaaGreatDoor
open Go.Se Go.RowKit
def TgR (w:World) (A:Option Addr) (k:Nat):Prop:=k<w.heap.size/\¬ rowB A k
theorem Qfx.keepR {w w1:World} {A A1:Option Addr} {D:List (Ev×SV)} {rs:List Row} (h:Qfx w (TgR w A) D rs) (hk:∀ k,k<w.heap.size->¬ rowB A k->w1.heap[k]? = w.heap[k]? /\ ¬ rowB A1 k) (hs:w.heap.size<=w1.heap.size):Qfx w1 (TgR w1 A1) D rs :=
 ⟨h.len,fun i d r hd hr=>by
  obtain⟨h1,h2,h3,h4⟩:=h.ev i d r hd hr;refine⟨h1,h2,Qa7 h3 fun a ha => ?_,fun a ha => ?_⟩
  . obtain⟨q1,q2⟩:=h4 a ha;exact(hk _ q1 q2).1
  . obtain⟨q1,q2⟩:=h4 a ha;exact⟨Om,(hk _ q1 q2).2⟩⟩
theorem Q5a {w w1:World} {A A1:Option Addr} (hg:w.grownBy w1 (A.map (·.block))) (hA:A1=A\/A1.map (·.block)=A.map (·.block)\/A1.map (·.block)=some w.heap.size) (k:Nat) (hk:k<w.heap.size) (hn:¬ rowB A k):w1.heap[k]? = w.heap[k]? /\ ¬ rowB A1 k:=by
 refine⟨hg.block k hk (fun e => ?_),?_⟩
 . cases A with
   | none=>simp at e
   | some x=>simp at e;exact hn ⟨x,rfl,e⟩
 . rintro ⟨y,hy,rfl⟩;subst hy;rcases hA with h | h | h
   . exact hn ⟨y,h.symm,rfl⟩
   . cases A with
     | none=>simp at h
     | some x=>simp at h;exact hn ⟨x,rfl,h⟩
   . simp at h;omega
theorem Qx4 (name:Bj):∀ es:List Ev,(∀ e∈es,Xy e=true)->(Qq3 name es).item.tags.size<1000:=by
 refine Qw (fun _=>by show (⟨#[]⟩:Bj).size<1000;decide) fun es e ih h => ?_
 have ih:=ih fun x hx=>h x (by simp[hx])
 have he:=Qdn (h e (by simp));rw[Qip];unfold Qce;split
 . show (Qbf e.text).size<1000
   have:=Qku e.text;omega
 . split
   . exact ih
   . exact ih
theorem Qfb (name:Bj) (es:List Ev) (h:∀ e∈es,Xy e=true):(Qu9 name es).tags.size<1000:=by
 unfold Qu9;split
 . show (⟨#[]⟩:Bj).size<1000
   decide
 . exact Qx4 name es h
theorem Qjx (gap:Int) (L:List Ad3) (a:Ad3):allL gap (L ++ [a])=Qbv gap (allL gap L) a:=by unfold allL;rw[Zv];rfl
