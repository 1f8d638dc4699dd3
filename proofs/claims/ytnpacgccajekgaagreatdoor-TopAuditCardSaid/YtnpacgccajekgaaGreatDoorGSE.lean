import GoSem.ClaimGoes
import Derived.Test.YtnpacgccajekgaaGreatDoorGK
import Derived.Test.YtnpacgccajekgaaGreatDoorGR
import Derived.Test.YtnpacgccajekgaaGreatDoorGU
set_option linter.all false
namespace Go.Proofs.YtnpacgccajekgaaGreatDoor
open Go
theorem Qwo{P:Program}(h:P.funcs.any Func.goes=false)(f:FuncId):P.goes f=false:=by
 have b:∀a:FuncId,(P.funcs[a]?).any Func.goes=false:=fun a=>by
  cases c:P.funcs[a]? with
  |none=>rfl
  |some fn =>
   rw[Array.any_eq_false']at h;have:=h fn (Array.mem_of_getElem? c);simpa using this
 unfold Program.goes;rw[h];simp[b]
theorem Q49{P:Program}(h:P.funcs.any Func.goes=false)(c:OpenClaim):false=c.goesBy P:=by
 unfold OpenClaim.goesBy Program.goesAt Program.goesFrom
 have a:(P.funcNamed c.func).any P.goes=false:=by
  cases P.funcNamed c.func with
  |none=>rfl
  |some f=>exact Qwo h f
 rw[a];cases c.start<;>simp[Qwo h]
theorem Xe6{P:Program}(h:P.funcs.toList.any Func.goes=false):P.funcs.any Func.goes=false:=by
 rw[<- Array.any_toList];exact h
end Go.Proofs.YtnpacgccajekgaaGreatDoor
namespace Go.Proofs.YtnpacgccajekgaaGreatDoor
open Go.ChangeShapes Go.WideShapes Go.ChangeAt Go.RowKit Go.Deep Go.Se
theorem Xm0{laid:List (String×DataW Unit)}{W:World}(h:laidMetH Tryz.prog laid W)(hp:(laid.all fun x=>x.2.handleName?.isNone)=true)
 (h2:("cicerone/tale.kinds",Rows.laid_cicerone_tale_kinds)∈laid):Q71 W:= by
 obtain⟨g,t,cs,fuel,p,hg,ht,hv,hd⟩:=Qtm h hp h2
 have hgk:Tryz.prog.globalNamed "cicerone/tale.kinds"=some 0:= by kernel_rfl
 obtain rfl:=Zbc (hgk.symm.trans hg);obtain rfl:=Zbc ((show (Tryz.prog.globals[0]?).map (·.type)=some 181 by kernel_rfl).symm.trans ht);have hcs:=Lib.cells_of_tab (k:= .i64) (zs:=kT) (e:=67) (n:=13) Kr Kr Kr Kr hd;intro j v hj;rw[Q7,World.var?_cell hgk hv j,<- Zcy,hcs];exact hj
set_option maxRecDepth 100000 in
theorem open_bytes{H:Type}{enc:TypeId×Value->H}{W:World}{E:Nat}{r:Reach}{v:Value}{d:DataW H}{p:List MemPlace}(V:Value.okWide Tryz.prog W r E 22 v)
 (h:DataW.Trod enc Tryz.prog W 0 (fun _=>true) true 22 v d p):∃(A:Option Addr) (c:Nat) (l:List Nat),v=.slice A l.length c/\l.length<=c/\Sl u8C 1 W A l/\∀x∈l,x<256:=by
 have C:Tryz.prog.underlying 22=some (.slice 5):=by kernel_rfl
 have M:Tryz.prog.underlying 5=some (.int .u8):=by kernel_rfl
 obtain⟨z,g,k,rfl⟩:∃A n c,v=.slice A n c:=okWide_slice C V;obtain⟨ab,N⟩:=h;rcases open_slice C N with⟨e,_⟩|⟨a,len,cap,m,n,D,Pl,K,_,ag,ae,S,_,f⟩
 .have b:Value.slice z g k=.slice none 0 0:=by simpa [Value.cells] using e
  injection b with b o w;subst b;subst o;subst w;exact⟨none,0,[],rfl,by simp,Sl.nil,by simp⟩
 .have b:Value.slice z g k=.slice (some a) len cap:=by simpa [Value.cells] using K
  injection b with b o w;subst b;subst o;subst w;have ah:g<=m:=by rw[S];split<;>omega
  have J:Tryz.prog.cellsOf 5=1:=by kernel_rfl
  rw[J]at f
  obtain⟨l,R,B⟩:=Xap (Φ:=fun i (s:Nat)=>Xq W (a.add (i*1)) (u8C s)/\s<256) (n:=g) (fun i af=>by
   obtain⟨aa,I,L⟩:=f i Om;obtain⟨s,U,_,Z⟩:=DataW.trod_int M L;obtain⟨_,ac,F⟩:=World.cells?_some I;have Y:0<=s/\s<=255:=(by simp[Lit.wf,IntKind.min,IntKind.max,IntKind.signed,IntKind.bits]at Z;omega);obtain⟨n,rfl⟩:=Int.eq_ofNat_of_zero_le Y.1;refine⟨n,fun j u y=>?_,Om⟩;have P:j=0:=(by have:=(Zi.1 y).1;simp[u8C]at this;omega);subst P;have e:=F 0 Om;rw[U]at e;simp[u8C]at y;subst y;simpa using e)
  refine⟨some a,k,l,by rw[R],Om,fun i x O=>⟨a,rfl,(B i x O).1⟩,fun x hx=>?_⟩;obtain⟨i,f,rfl⟩:=Za2 hx;exact(B i _ (Zb f)).2
end Go.Proofs.YtnpacgccajekgaaGreatDoor
namespace Go.Proofs.YtnpacgccajekgaaGreatDoor
open Go.ChangeShapes Go.WideShapes Go.ChangeAt Go.RowKit Go.Se
theorem Qi8{a b:Bool}(c:a=true)(d:b=true):(a&&b)=true:=by rw[c,d];rfl
theorem jf2:laidOutB Tryz.pinned.checked.prog=true:=by kernel_rfl
theorem jf3:mapsRowed Tryz.pinned.checked.prog=true:=by kernel_rfl
theorem jf7:(Tryz.pinned.checked.prog.stops == [])=true:=by kernel_rfl
theorem jf9:(Tryz.pinned.checked.prog.stopKnobs == [])=true:=by kernel_rfl
theorem Xnm:Tryz.pinned.checked.prog.stopsHeard=true:=by kernel_rfl
theorem Xnn:Tryz.pinned.checked.prog.mayEnter=true:=by kernel_rfl
