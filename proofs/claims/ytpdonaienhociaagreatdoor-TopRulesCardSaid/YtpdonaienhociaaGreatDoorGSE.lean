import GoSem.ClaimGoes
import Derived.Test.YtpdonaienhociaaGreatDoorGK
import Derived.Test.YtpdonaienhociaaGreatDoorGR
import Derived.Test.YtpdonaienhociaaGreatDoorGU
set_option linter.all false
namespace Go.Proofs.YtpdonaienhociaaGreatDoor
open Go
theorem Qu8 {P:Program} (h:P.funcs.any Func.goes=false) (f:FuncId):P.goes f=false:=by
 have hg:∀ g:FuncId,(P.funcs[g]?).any Func.goes=false:=fun g=>by
  cases hq:P.funcs[g]? with
  | none=>rfl
  | some fn =>
    rw[Array.any_eq_false'] at h;have:=h fn (Array.mem_of_getElem? hq);simpa using this
 unfold Program.goes;rw[h];simp[hg]
theorem Qqi {P:Program} (h:P.funcs.any Func.goes=false) (c:OpenClaim):false=c.goesBy P:=by
 unfold OpenClaim.goesBy Program.goesAt Program.goesFrom
 have h1:(P.funcNamed c.func).any P.goes=false:=by
  cases P.funcNamed c.func with
  | none=>rfl
  | some f=>exact Qu8 h f
 rw[h1];cases c.start <;> simp[Qu8 h]
theorem Q0u {P:Program} (h:P.funcs.toList.any Func.goes=false):P.funcs.any Func.goes=false:=by
 rw[<- Array.any_toList];exact h
end Go.Proofs.YtpdonaienhociaaGreatDoor
namespace Go.Proofs.YtpdonaienhociaaGreatDoor
open Go.ChangeShapes Go.WideShapes Go.ChangeAt Go.RowKit Go.Deep Go.Se
theorem Xhx {laid:List (String×DataW Unit)} {W:World} (h:laidMetH Tryz.prog laid W) (hp:(laid.all fun x=>x.2.handleName?.isNone)=true)
 (h2 : ("cicerone/tale.kinds", Rows.laid_cicerone_tale_kinds) ∈ laid) : Q15 W := by
 obtain⟨g,t,cs,fuel,p,hg,ht,hv,hd⟩:=Qse h hp h2
 have hgk : Tryz.prog.globalNamed "cicerone/tale.kinds" = some 0 := by kernel_rfl
 obtain rfl:=Zbe (hgk.symm.trans hg);obtain rfl:=Zbe ((show (Tryz.prog.globals[0]?).map (·.type)=some 203 by kernel_rfl).symm.trans ht);have hcs:=Lib.cells_of_tab (k := .i64) (zs:=kT) (e:=75) (n:=13) Kr Kr Kr Kr hd;intro j v hj;rw[Q8,World.var?_cell hgk hv j,<- Zcr,hcs];exact hj
set_option maxRecDepth 100000 in
theorem open_bytes {H:Type} {enc:TypeId×Value->H} {W:World} {b0:Nat} {r:Reach} {v:Value} {d:DataW H} {p:List MemPlace} (hval:Value.okWide Tryz.prog W r b0 22 v)
 (h:DataW.Trod enc Tryz.prog W 0 (fun _=>true) true 22 v d p):∃ (A:Option Addr) (c:Nat) (l:List Nat),v = .slice A l.length c/\l.length<=c/\Sl u8C 1 W A l/\∀ x∈l,x<256:=by
 have ht:Tryz.prog.underlying 22=some (.slice 5):=by kernel_rfl
 have he:Tryz.prog.underlying 5=some (.int .u8):=by kernel_rfl
 obtain⟨A0,n0,c0,rfl⟩:∃ A n c,v = .slice A n c:=okWide_slice ht hval;obtain⟨fuel,hf⟩:=h;rcases open_slice ht hf with⟨h0,_⟩ | ⟨a,len,cap,m,n,D,Pl,hcs,_,hlc,hcm,hm,_,hi⟩
 . have e1:Value.slice A0 n0 c0 = .slice none 0 0:=by simpa [Value.cells] using h0
   injection e1 with e1 e2 e3;subst e1;subst e2;subst e3;exact⟨none,0,[],rfl,by simp,Sl.nil,by simp⟩
 . have e1:Value.slice A0 n0 c0 = .slice (some a) len cap:=by simpa [Value.cells] using hcs
   injection e1 with e1 e2 e3;subst e1;subst e2;subst e3;have hlm:n0<=m:=by rw[hm];split <;> omega
   have hc1:Tryz.prog.cellsOf 5=1:=by kernel_rfl
   rw[hc1] at hi
   obtain⟨l,hl,hp⟩:=Q8a (Φ:=fun i (s:Nat)=>Xp W (a.add (i*1)) (u8C s)/\s<256) (n:=n0) (fun i hin=>by
    obtain⟨cs',hc,hd⟩:=hi i Om;obtain⟨s,hv,_,hwf⟩:=DataW.trod_int he hd;obtain⟨_,hcl,hat⟩:=World.cells?_some hc;have hw:0<=s/\s<=255:=(by simp[Lit.wf,IntKind.min,IntKind.max,IntKind.signed,IntKind.bits] at hwf;omega);obtain⟨n,rfl⟩:=Int.eq_ofNat_of_zero_le hw.1;refine⟨n,fun j u hj => ?_,Om⟩;have hj0:j=0:=(by have:=(Zi.1 hj).1;simp[u8C] at this;omega);subst hj0;have h0:=hat 0 Om;rw[hv] at h0;simp[u8C] at hj;subst hj;simpa using h0)
   refine⟨some a,c0,l,by rw[hl],Om,fun i x hix=>⟨a,rfl,(hp i x hix).1⟩,fun x hx => ?_⟩;obtain⟨i,hi,rfl⟩:=Za2 hx;exact(hp i _ (Zd hi)).2
theorem Xip {n:Int} (h:(Lit.int .u8 n).wf=true):0<=n:=by
 simp[Lit.wf,IntKind.min,IntKind.max,IntKind.signed,IntKind.bits] at h;omega
end Go.Proofs.YtpdonaienhociaaGreatDoor
namespace Go.Proofs.YtpdonaienhociaaGreatDoor
open Go.ChangeShapes Go.WideShapes Go.ChangeAt Go.RowKit Go.Se
theorem Qco {a b:Bool} (ha:a=true) (hb:b=true):(a&&b)=true:=by rw[ha,hb];rfl
theorem jf2:laidOutB Tryz.pinned.checked.prog=true:=by kernel_rfl
theorem jf3:mapsRowed Tryz.pinned.checked.prog=true:=by kernel_rfl
theorem jf7:(Tryz.pinned.checked.prog.stops == [])=true:=by kernel_rfl
theorem jf9:(Tryz.pinned.checked.prog.stopKnobs == [])=true:=by kernel_rfl
theorem Xjo:Tryz.pinned.checked.prog.stopsHeard=true:=by kernel_rfl
theorem Xjp:Tryz.pinned.checked.prog.mayEnter=true:=by kernel_rfl
