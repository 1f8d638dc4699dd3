import Derived.Test.YtnpacgccajekgaaGreatDoorGE
set_option linter.all false
namespace Go.Proofs.YtnpacgccajekgaaGreatDoor
open Go.Se Go.RowKit
section
variable {α:Type}{enc:α->List Value}{sz:Nat}{te:TypeId}{base:Nat}{w w':World}{A:Option Addr}{c:Nat}{l:List α}
theorem Qvz{P t ty}(W:P.underlying t=some (.slice te)){b}(A:Xb P te=some b)(Y:(Qg b.zero).length=sz)(aa:∀u∈Qg b.zero,u.oneCell'=true)(z:∀x,(enc x).length=sz)
 {i}(hi:i<l.length){a}(U:Own enc sz te base w (some a) c l){n cap}(ai:n=l.length-i){R}
 (h:∀w',Own enc sz te base w' (some a) c (l.take i)->Only w w' a.block->R (.tuple #[]) w'):Qi7 P (Builtin.clear_ #[t] ty #[.slice (some (a.add (i*sz))) n cap]) w R:=by
 rcases U.2 with⟨o,ac⟩|⟨g,D,e,o,M,r,F,H,I,J⟩
 .omega
 .have K:a=⟨g,0,none⟩:=by injection o with h _ _;injection h
  have N:c=D:=by injection o
  subst K N;rw[Q7];obtain⟨m,rfl⟩:∃m,n=m+1:=⟨n-1,Om⟩;have ag:i*sz+(m+1)*sz=l.length*sz:=by rw[<- Nat.add_mul];congr 1;omega
  have ah:l.length*sz<=c*sz:=Zb5 sz F;have C:b.zero.cells.size=sz:=by rw[<- Y,<- Qat];simp
  have f:(Builtin.zeroCells b.zero.cells (m+1)).toList.length=(m+1)*sz:=by simp[Builtin.zeroCells,C]
  have L:∀v∈(Builtin.zeroCells b.zero.cells (m+1)).toList,v.oneCell'=true:=by
   intro v B;simp only[Builtin.zeroCells,Array.toList_map,Zh]at B;obtain⟨k,S,rfl⟩:=B;have s:k<(m+1)*sz:=by simpa [C] using S
   have aj:0<sz:=by
    rcases Nat.eq_zero_or_pos sz with h|h
    .rw[h]at s;simp at s
    .exact h
   have y:k%b.zero.cells.size<b.zero.cells.size:=Nat.mod_lt _ Om;rw[getElem!_pos b.zero.cells (k%b.zero.cells.size) y];apply aa;rw[<- Qat];exact Array.getElem_mem_toList y
  have V:=run_storeCells_at P g (i*sz) te (Builtin.zeroCells b.zero.cells (m+1)).toList 0 e w r (by rw[f,I];omega) L;obtain⟨al,d,af,ae,ak,_⟩:=Xl A;have ab:=Ql8 A w;refine⟨.tuple #[],w.setRow g (e.toList.take (i*sz+0)++(Builtin.zeroCells b.zero.cells (m+1)).toList++e.toList.drop (i*sz+0+(Builtin.zeroCells b.zero.cells (m+1)).toList.length)).toArray,?_,h _ ?_ (Qpm w g _)⟩
  .simp[Builtin.clear_,run_underlying W,ab,V]
  .generalize (Builtin.zeroCells b.zero.cells (m+1)).toList=Z at f;have O:=setRow_heap w g e (e.toList.take (i*sz+0)++Z++e.toList.drop (i*sz+0+Z.length)).toArray te (0,0) r;have j:(l.take i).length=i:=by rw[Zn];omega
   refine⟨by rw[Qgq z],.inr ⟨g,c,_,by rw[j],M,O,by rw[j];omega,H,?_,?_⟩⟩
   .simp[f];omega
   .rw[j,Qou z,<- J,List.take_take];simp only[List.toList_toArray,Zcf];rw[Zac,List.take_append];have E:(e.toList.take (i*sz)).length=i*sz:=by simp;omega
    rw[E,Nat.sub_self,List.take_zero,Z4,List.take_take,Nat.min_self,Nat.min_eq_left Om]
end
theorem Qcq{α:Type}(q)(l:List α)(k)(h:k<l.length):(l.take (k+1)).filter q=(l.take k).filter q++if q l[k]=true then [l[k]] else []:=by
 rw[Qdb l k h,Zq];congr 1
 by_cases a:q l[k]=true
 .simp[a]
 .simp[a]
theorem Xkk:Tryz.prog.underlying 24=some (.slice 69):=by kernel_rfl
