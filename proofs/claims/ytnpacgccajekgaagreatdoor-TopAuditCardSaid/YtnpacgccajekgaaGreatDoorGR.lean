import Derived.WalkKit
import Derived.ProofKit
import Derived.OpenShut
import Derived.Carry
import Derived.Deep.Slices
import Derived.Deep.Fields
import Derived.ChangeSame
import Derived.ShutString
import Derived.ChangeMaps5
import Derived.Deep.Strs
import Derived.Deep.DeepHandedRow
import Derived.Lib.LaidTab
import Derived.Lay
import Derived.SevenTiedAt
import Derived.Test.YtnpacgccajekgaaGreatDoorRows
import Derived.Test.YtnpacgccajekgaaGreatDoorGC
import Derived.Test.YtnpacgccajekgaaGreatDoorCards
import Derived.Test.YtnpacgccajekgaaGreatDoorTie
set_option linter.all false
namespace Go.Proofs.YtnpacgccajekgaaGreatDoor
open Go.ChangeShapes Go.WideShapes Go.ChangeAt Go.RowKit Go.Deep Go.Se
section
variable {H:Type}{enc:TypeId×Value->H}{P:Program}{w:World}{base:Nat}{spare:Nat->Bool}{held:Bool}
theorem Qlw{t e:TypeId}{b:Array Field}{s:Nat}{cs:List Value}{x:DataW H×List MemPlace}(V:P.underlying t=some (.slice e))(E:P.underlying e=some (.struct b))
 (S:oneCellFields P b=true)(l:P.cellsOf e=b.size)(h:DataW.trod enc P w base spare held s t cs=some x) :
 (cs=[.slice none 0 0]/\x=(.nil,[])) \/
 ∃(a:Addr) (len cap m:Nat) (D:Nat->DataW H) (Pl:Nat->List MemPlace),cs=[.slice (some a) len cap]/\base<=a.block/\len<=cap/\cap<=maxLen/\m=(if spare a.block then cap else len) /\
  x=(.slice ((List.range len).map D) ((List.range (m-len)).map fun j=>D (len+j)),MemPlace.row a (m*b.size)++(List.range m).flatMap Pl) /\
  ∀i,i<m->∃(ys:List (DataW H×List MemPlace)) (n:Nat),D i=.agg (ys.map (·.1))/\Pl i=ys.flatMap (·.2)/\ys.length=b.size /\
   ∀(j:Nat) (f:Field),b[j]?=some f->∃(v:Value) (y:DataW H×List MemPlace),w.cell? (a.add (i*b.size+j))=some v/\ys[j]?=some y/\DataW.trod enc P w base spare held n f.type [v]=some y:=by
 rcases open_slice V h with u|⟨a,len,cap,m,n,D,Pl,C,A,M,N,O,hx,I⟩
 .exact .inl u
 .refine .inr ⟨a,len,cap,m,D,Pl,C,A,M,N,O,by rw[l]at hx;exact hx,fun i J=>?_⟩;obtain⟨c,o,W⟩:=I i J;rw[l]at o;obtain⟨ys,aa,ae,k,ac,Z,F⟩:=DataW.trod_struct E W;obtain⟨_,ab,z⟩:=World.cells?_some o;simp only[Prod.mk.injEq]at k;refine⟨ys,aa,k.1,k.2,Z,fun j f g=>?_⟩;obtain⟨R,L⟩:=hone_of S j f g;have K:j<b.size:=(Array.getElem?_eq_some_iff.1 g).1;have B:=z j K;have Y:c[j]?=some (c[j]'Om):=Zb Om;have d:=F j f g;rw[R,L]at d;have U:(c.drop j).take 1=[c[j]'Om]:=(by rw[Zak Om];rfl);rw[U]at d;have r:ys[j]?=some (ys[j]'Om):=Zb Om;refine⟨_,_,?_,r,d.trans r⟩;rw[<- Go.Deep.add_add,B,Y]
theorem Qkq{f:Func}{s:ChangeSpec}{apart fresh z x:Bool}{W e:World}{args:Array Value}{v:Value}{ds g:List (DataW H)}{c pa pv:List MemPlace}
 (i:DataW.Whole enc P f.params.toList s.vars apart W args.toList ds g c)
 (u:∀(b:Nat) (d:Nat->Bool) (A:Bool),DataW.TrodAll enc P e b d A f.resultTypes.toList (v.resultList f.resultTypes.size) (s.fn H (ds++g)).results [])
 (k:∀d:Nat->Bool,(∀p∈c,d p.block=true)->DataW.TrodAll enc P e 0 d true f.params.toList args.toList (s.fn H (ds++g)).args pa)
 (w:∀d:Nat->Bool,(∀p∈c,d p.block=true)->DataW.TrodVars enc P e d s.vars (s.fn H (ds++g)).vars pv)
 (h:c=pa++pv)(l:Below W.heap.size W e)
 (C:∀(j:Nat) (t:TypeId) (r:Value),f.resultTypes[j]?=some t->(v.resultList f.resultTypes.size)[j]?=some r->Value.okWide P e .any 0 t r) :
 s.post enc P f apart fresh z x W args v e:=by
 have n:∀p∈c,p.block<W.heap.size:=fun p a=>i.lt p a
 have o:∀p∈c,(fun b=>decide (b<W.heap.size)) p.block=true:=fun p a=>by simpa using n p a
 refine⟨ds,g,c,[],pa,pv,i,u _ _ _,k _ o,w _ o,World.keptBut_mono (fun p a=>⟨a,?_⟩) (l.frame (·∈c)),fun _=>?_⟩
 .rw[h,Zj]at a;exact Or.inr a
 .obtain⟨_,_,_,_,_,D,B⟩:=i;refine⟨C,_,_,([]++pa)++pv,⟨[]++pa,pv,trodAll_append (k _ (fun _ _=>rfl)) (u _ _ _),w _ (fun _ _=>rfl),rfl,?_,?_⟩,?_⟩
  .intro b off a;have m:MemPlace.cell b off∈c:=by rw[h];simpa using a
   rw[l.frozen (n _ m)];exact D b off m
  .intro y;have:=B y;rw[h]at this;simpa using this
  .intro p a _;rw[h];simpa using a
theorem Qk5(c:laidOutB P=true){W a:World}(b:Below W.heap.size W a){i:Nat->Bool}:∀{ts:List TypeId} {vs:List Value} {ds:List (DataW H)} {ps:List MemPlace},(∀t∈ts,P.readableRec t=true/\t<P.types.size) ->
 DataW.TrodAll enc P W 0 (fun _=>true) true ts vs ds ps->(∀x∈ps,x.block<W.heap.size)->(∀x∈ps,i x.block=true)->DataW.TrodAll enc P a 0 i true ts vs ds ps
 |[],[],[],ps,_,h,_,_=>h
 |t::ts,v::vs,d::ds,ps,f,h,e,g=>by
  obtain⟨p,q,j,k,rfl⟩:=h;refine⟨p,q,?_,Qk5 c b (fun t n=>f t (by simp[n])) k (fun x hx=>e x (by simp[hx])) (fun x hx=>g x (by simp[hx])),rfl⟩;obtain⟨l,m⟩:=f t (by simp);exact WideElems.Trod_stays c l m j (fun x hx=>b.same (e x (by simp[hx]))) (fun x hx=>g x (by simp[hx]))
theorem Xfb{f:Func}{s:ChangeSpec}{W c:World}{args:Array Value}{ds d:List (DataW H)}{o:List MemPlace}{n:TypeId}
 (u:laidOutB P=true)(w:f.params.toList.all (fun t=>P.readableRec t&&decide (t<P.types.size))=true)(l:s.vars=[])(i:f.resultTypes=#[n])(k:P.underlying n=some .bool)
 (g:DataW.Whole enc P f.params.toList s.vars false W args.toList ds d o)
 (a:s.fn H (ds++d)={ results:= [.lit (.bool true)],args:=ds })(hx:Ext W c):s.post enc P f false true false false W args (.bool true) c:=by
 have h:=g;obtain⟨p,q,r,e,rfl,B,C⟩:=g;rw[l]at e;obtain⟨rfl,rfl⟩:=trodVars_none e;have v:∀x∈p++[],x.block<W.heap.size:=fun x hx=>h.lt x hx
 have y:∀t∈f.params.toList,P.readableRec t=true/\t<P.types.size:=fun t z=>(by have:=Zaa.1 w t z;simpa using this)
 refine Qkq (pa:=p) (pv:= []) h ?_ ?_ ?_ rfl hx ?_
 .intro b m A;rw[a,i];exact trodAll_cons_mk (shut_bool k _) trodAll_mk0
 .intro m j;rw[a];exact Qk5 u hx y r (fun x hx=>v x (Su hx)) (fun x hx=>j x (Su hx))
 .intro m j;rw[a,l];rfl
 .exact ok_one i rfl (okWide_bool_mk k _)
end
theorem Xap{α:Type}{Φ:Nat->α->Prop}:∀{n:Nat},(∀i,i<n->∃x,Φ i x)->∃l:List α,l.length=n/\∀i x,l[i]?=some x->Φ i x
 |0,_=>⟨[],rfl,fun i x h=>by simp at h⟩
 |n+1,h=>by
  obtain⟨l,b,e⟩:=Xap (n:=n) fun i c=>h i Om
  obtain⟨x,hx⟩:=h n Om;refine⟨l++[x],by simp[b],fun i y a=>?_⟩
  by_cases c:i<n
  .rw[Zy Om]at a;exact e i y a
  .have:i<(l++[x]).length:=(Zi.1 a).1;have d:i=n:=by simp[b]at this;omega
   subst d;rw[Z8 Om]at a;simp[b]at a;rw[<- a];exact hx
end Go.Proofs.YtnpacgccajekgaaGreatDoor
namespace Go.Proofs.YtnpacgccajekgaaGreatDoor
open Go.ChangeShapes Go.WideShapes Go.ChangeAt Go.RowKit Go.Se
theorem Q2r{P:Program}{W:World}{name:String}{d:DataW Unit}:∀{c:List (String×DataW Unit)} {ps:List MemPlace},DataW.LaidVars P W c ps->(name,d)∈c ->
 ∃g t cs b p,P.globalNamed name=some g/\(P.globals[g]?).map (·.type)=some t/\W.var? P name=some cs/\DataW.trod (fun _=>()) P W 0 (fun _=>true) false b t cs.toList=some (d,p)
 |[],_,_,a=>by simp at a
 |(n,m)::o,ps,h,a=>by
  obtain⟨g,t,cs,b,p,q,e,f,i,j,k,rfl⟩:=h;rcases Zr.1 a with l|a
  .cases l;exact⟨g,t,cs,b,p,e,f,i,j⟩
  .exact Q2r k a
theorem Qtm{P:Program}{W:World}{a:List (String×DataW Unit)}(h:laidMetH P a W)(e:(a.all fun x=>x.2.handleName?.isNone)=true){name:String}{d:DataW Unit}(c:(name,d)∈a) :
 ∃g t cs b p,P.globalNamed name=some g/\(P.globals[g]?).map (·.type)=some t/\W.var? P name=some cs/\DataW.trod (fun _=>()) P W 0 (fun _=>true) false b t cs.toList=some (d,p):=by
 rw[MakeChecks.laidMetH_plain _ _ _ e]at h;obtain⟨ps,h,_⟩:=h;exact Q2r h c
theorem Qwv{P:Program}{w:World}{g:Nat}{t:TypeId}{k:IntKind}{zero:Array Value}(h:w.ShapedOpen P)(l:g<P.globals.size)
 (d:((begin P (fun _ _=>0) default).world.heap[g]?).bind Obj.row?=some (zero,t))(y:zero.size=1)
 (f:P.buildable t=true)(i:P.cellTypes P.depth t=some [t])(r:P.underlying t=some (.int k)):∃m,w.cell? ⟨g,0,none⟩=some (.int k m):=by
 obtain⟨cs,n,x,o⟩:=h.1 g zero t l d;obtain⟨B,c,_,e⟩:=o f;rw[i]at c;cases c;have b:0<cs.size:=Om;obtain⟨u,s,a⟩:=e 0 cs[0] (by simp[b]);have:u=t:=Su s.symm;subst this;have j:w.cell? ⟨g,0,none⟩=some cs[0]:=by simp[World.cell?,n,b]
 rw[j];unfold Cell.ok at a;rw[r]at a;cases v:cs[0]<;>rw[v]at a<;>simp at a
 case int A z=>exact⟨z,by rw[a.1]⟩
theorem Qqu{H:Type}{enc:TypeId×Value->H}{P:Program}{w:World}{base:Nat}{A:Nat->Bool}{held:Bool}{a:Nat}{t e:TypeId}{n:Nat}{cs:List Value}{zs:List (List UInt8)}{p:List MemPlace}
 (x:P.underlying t=some (.array n e))(r:P.underlying e=some .string)(m:P.cellsOf e=1)(o:P.cellsOf t=n)
 (h:DataW.trod enc P w base A held a t cs=some (.agg (zs.map fun z=>.lit (.string z)),p)):cs=zs.map fun z=>Value.string (bytesOf z):=by
 cases a with
 |zero=>simp[DataW.trod]at h
 |succ a =>
  simp only[DataW.trod,x,m,o,Zbl]at h;split at h
  .rename_i B;obtain⟨d,f,hx⟩:=Option.map_eq_some_iff.1 h;have g:d.map (·.1)=zs.map fun z=>(DataW.lit (.string z):DataW H):=(by have:=congrArg Prod.fst hx;simpa using this)
   have C:d.length=n:=by simpa using Lib.mapM_length f
   have D:zs.length=n:=(by have:=congrArg List.length g;simp at this;omega);apply Zb9;intro i
   by_cases v:i<n
   .obtain⟨b,k,u⟩:=Lib.mapM_at f i i (by simp[v]);obtain⟨s,l,rfl,_⟩:=DataW.trod_string r u;have j:cs[i]?=some (.string s):=(by have:=congrArg (·[0]?) l;simpa [Zbm,Zb3] using this);have c:(d.map (·.1))[i]?=some (DataW.lit (.string s.data.toList):DataW H):=by simp[k]
    rw[g]at c;simp only[Zaf,Option.map_eq_some_iff,DataW.lit.injEq,Lit.string.injEq]at c;obtain⟨E,y,rfl⟩:=c;simp[j,y,bytesOf]
   .rw[Zcg Om,Zcg (by simp;omega)]
  .cases h
theorem Qup{P:Program}{w:World}(h:w.ShapedOpen P)(n:Nat)(b:(bif Nat.blt n P.globals.size then(((begin P (fun _ _=>0) default).world.heap[n]?).bind Obj.row?).isSome else Nat.blt n (begin P (fun _ _=>0) default).world.heap.size)=true):n<w.heap.size:=by
 cases a:Nat.blt n P.globals.size with
 |true =>
  rw[a]at b;obtain⟨⟨z,t⟩,e⟩:=Zcj.1 b;obtain⟨cs,c,_⟩:=h.1 n z t (Zbz a) e;exact lt_of_block c
 |false =>
  rw[a]at b;have f:¬n<P.globals.size:=fun d=>(by have:Nat.blt n P.globals.size=true:=Nat.ble_eq_true_of_le d;rw[a]at this;cases this)
  obtain⟨g,i,c,_⟩:=h.2 n Om (Zbz b);exact lt_of_block c
theorem Qk8{H:Type}{enc:TypeId×Value->H}{C:Checked}{os:Os}{f:FuncId}{fn:Func}{s:OpenSpec}{b:List PathCond}{apart:Bool}{d:List (String×DataW Unit)}(a:World)(args:Array Value)(e:a.os=os)
 (h:(a.forCall (fun _ _=>0) ⟨#[],args,[]⟩).Shaped C.prog)
 (c:Input.okWideB C.prog (a.forCall (fun _ _=>0) ⟨#[],args,[]⟩) f ⟨#[],args,[]⟩=true)
 (g:s.preRow enc C.prog fn b apart d (a.forCall (fun _ _=>0) ⟨#[],args,[]⟩).memory args) :
 ∃(w:World) (tape:Tape) (i:Input),w.os=os/\(w.forCall tape i).Shaped C.prog/\i.vars=[]/\Input.okWide C.prog (w.forCall tape i) .any w.heap.size f i /\
  s.preRow enc C.prog fn b apart d (w.forCall tape i).memory i.args/\({}:Assume).holds C.prog (lone (Frame.enter C.prog f i.args .normal) [] (w.forCall tape i)):=
 ⟨a,fun _ _=>0,⟨#[],args,[]⟩,e,h,(Input.okWide_of_okWideB (base:=0) c).1,(Input.okWide_of_okWideB c).2,g,by
  simp only[Assume.holds];exact⟨by simp,by simp,fun _=>Modest.zero,by simp,by simp⟩⟩
theorem own:ownKnob Tryz.prog.godebug=none:=by kernel_rfl
theorem Xmw{laid:List (String×DataW Unit)}{W:World}(h:laidMetH Tryz.prog laid W)(hp:(laid.all fun x=>x.2.handleName?.isNone)=true)(hs:W.ShapedOpen Tryz.prog)
 (h1:("internal/strconv.uint64pow10",Rows.laid_internal_strconv_uint64pow10)∈laid)(h2:("cicerone/event.kindNames",Rows.laid_cicerone_event_kindNames)∈laid):Gl W where
 maxLen:=Qwv (t:=3) (zero:= #[Vj 0]) hs (of_decide_eq_true Kr) Kr rfl Kr Kr Kr
 pow10:=by
  obtain⟨g,t,cs,fuel,p,hg,ht,hv,hd⟩:=Qtm h hp h1;obtain rfl:=Zbc (Xne.symm.trans hg);obtain rfl:=Zbc ((show (Tryz.prog.globals[5]?).map (·.type)=some 384 by kernel_rfl).symm.trans ht);unfold Lib.TabIs;rw[hv,<- Lib.cells_of_tab (k:= .u64) (zs:=Lib.pow10Tab) (e:=23) (n:=20) Kr Kr Kr Kr hd]
 kinds:=by
  obtain⟨g,t,cs,fuel,p,hg,ht,hv,hd⟩:=Qtm h hp h2
  have hgk:Tryz.prog.globalNamed "cicerone/event.kindNames"=some 1:= by kernel_rfl
  obtain rfl:=Zbc (hgk.symm.trans hg);obtain rfl:=Zbc ((show (Tryz.prog.globals[1]?).map (·.type)=some 191 by kernel_rfl).symm.trans ht);have hcs:=Qqu (zs:=kindNames.map (·.data.toList)) (e:=9) (n:=15) Kr Kr Kr Kr hd;intro j v hj;rw[Q7,World.var?_cell hgk hv j,<- Zcy,hcs];simp only[Zz,Zaf]at hj⊢
  cases hk:kindNames[j]? with
  |none=>rw[hk]at hj;simp at hj
  |some s=>rw[hk]at hj;simpa [bytesOf] using hj
 size:=Qup hs 9 Kr
