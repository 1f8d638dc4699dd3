import Derived.Test.YtpdonaienhociaaGreatDoorGF
set_option linter.all false
namespace Go.Proofs.YtpdonaienhociaaGreatDoor
open Go.Se Go.RowKit
section
variable {α:Type} {enc:α->List Value} {sz:Nat} {te:TypeId} {base:Nat} {w w':World} {A:Option Addr} {c:Nat} {l:List α}
theorem Quk {P:Program} {t ty:TypeId} (ht:P.underlying t=some (.slice te)) {ety:TyE} (hte:Xe P te=some ety) (hz:(Qg ety.zero).length=sz) (hzo:∀ u∈Qg ety.zero,u.oneCell'=true) (hsz:∀ x,(enc x).length=sz)
 {i:Nat} (hi:i<l.length) {a:Addr} (hown:Own enc sz te base w (some a) c l) {n cap:Nat} (hn:n=l.length-i) {R:Value->World->Prop}
 (h:∀ w',Own enc sz te base w' (some a) c (l.take i)->Only w w' a.block->R (.tuple #[]) w'):Qkj P (Builtin.clear_ #[t] ty #[.slice (some (a.add (i*sz))) n cap]) w R:=by
 rcases hown.2 with⟨hv',h0⟩ | ⟨g,cp,cur,hv',hb,hg,h1,h2,h3,h4⟩
 . omega
 . have hA:a=⟨g,0,none⟩:=by injection hv' with h _ _;injection h
   have hc:c=cp:=by injection hv'
   subst hA hc;rw[Q8];obtain⟨m,rfl⟩:∃ m,n=m+1:=⟨n-1,Om⟩;have hle:i*sz+(m+1)*sz=l.length*sz:=by rw[<- Nat.add_mul];congr 1;omega
   have hle2:l.length*sz<=c*sz:=Zb1 sz h1;have hzs:ety.zero.cells.size=sz:=by rw[<- hz,<- Qan];simp
   have hZl:(Builtin.zeroCells ety.zero.cells (m+1)).toList.length=(m+1)*sz:=by simp[Builtin.zeroCells,hzs]
   have hZo:∀ v∈(Builtin.zeroCells ety.zero.cells (m+1)).toList,v.oneCell'=true:=by
    intro v hv;simp only[Builtin.zeroCells,Array.toList_map,Zh] at hv;obtain⟨k,hk,rfl⟩:=hv;have hk2:k<(m+1)*sz:=by simpa [hzs] using hk
    have hpos:0<sz:=by
     rcases Nat.eq_zero_or_pos sz with h | h
     . rw[h] at hk2;simp at hk2
     . exact h
    have hlt:k % ety.zero.cells.size<ety.zero.cells.size:=Nat.mod_lt _ Om;rw[getElem!_pos ety.zero.cells (k % ety.zero.cells.size) hlt];apply hzo;rw[<- Qan];exact Array.getElem_mem_toList hlt
   have hst:=run_storeCells_at P g (i*sz) te (Builtin.zeroCells ety.zero.cells (m+1)).toList 0 cur w hg (by rw[hZl,h3];omega) hZo;obtain⟨inf,d,hi1,hd,hz1,_⟩:=Xm hte;have hzv:=Qlb hte w;refine⟨.tuple #[],w.setRow g (cur.toList.take (i*sz+0)++(Builtin.zeroCells ety.zero.cells (m+1)).toList++cur.toList.drop (i*sz+0+(Builtin.zeroCells ety.zero.cells (m+1)).toList.length)).toArray,?_,h _ ?_ (Qol w g _)⟩
   . simp[Builtin.clear_,run_underlying ht,hzv,hst]
   . generalize (Builtin.zeroCells ety.zero.cells (m+1)).toList=Z at hZl;have hhe:=setRow_heap w g cur (cur.toList.take (i*sz+0)++Z++cur.toList.drop (i*sz+0+Z.length)).toArray te (0,0) hg;have hil:(l.take i).length=i:=by rw[Zn];omega
     refine⟨by rw[Qgg hsz],.inr ⟨g,c,_,by rw[hil],hb,hhe,by rw[hil];omega,h2,?_,?_⟩⟩
     . simp[hZl];omega
     . rw[hil,Qnw hsz,<- h4,List.take_take];simp only[List.toList_toArray,Zc2];rw[Zaa,List.take_append];have e1:(cur.toList.take (i*sz)).length=i*sz:=by simp;omega
       rw[e1,Nat.sub_self,List.take_zero,Zw,List.take_take,Nat.min_self,Nat.min_eq_left Om]
end
theorem Qci {α:Type} (q:α->Bool) (l:List α) (k:Nat) (h:k<l.length):(l.take (k+1)).filter q=(l.take k).filter q++if q l[k]=true then [l[k]] else []:=by
 rw[Qc3 l k h,Zq];congr 1
 by_cases hq:q l[k]=true
 . simp[hq]
 . simp[hq]
theorem Xgy:Tryz.prog.underlying 23=some (.slice 77):=by kernel_rfl
