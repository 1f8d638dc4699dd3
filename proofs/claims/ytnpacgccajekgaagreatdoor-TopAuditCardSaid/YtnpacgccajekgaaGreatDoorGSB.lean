import Derived.Test.YtnpacgccajekgaaGreatDoorGSA
import Derived.Test.YtnpacgccajekgaaGreatDoorGZJ
set_option linter.all false
namespace Go.Proofs.YtnpacgccajekgaaGreatDoor
open Go.Se Go.RowKit Go.Sort
theorem Xki:Tryz.prog.underlying 94=some (.slice 98):=by kernel_rfl
theorem Qpy:Qle Tryz.prog 94 98 chC 4 56:=⟨by kernel_rfl,⟨_,ty98_ok,rfl,rfl⟩,by98,by decide,by decide,Qli,Qsw⟩
instance:Inhabited Ch:=⟨⟨⟨#[]⟩,⟨#[]⟩,⟨#[]⟩,0⟩⟩
theorem Qy4(x A c w)(i:Sl chC 4 w A x)(y:x.length<1000000) :
 Cal Tryz.prog 130 [.slice A x.length c] w fun r w'=>∃d f,r=.slice d x.length f/\Own chC 4 98 w.heap.size w' d f x/\Ext w w':=by
 refine Fi Tryz.func130 rfl _ rfl rfl (Hh ?_);refine⟨_,X4 Xki A _ _ _ _,Hh ?_⟩;constructor
 .intro h;obtain rfl:A=none:=Su h
  have hx:x=[]:=by
   cases x with
   |nil=>rfl
   |cons e x=>obtain⟨a,n,_⟩:=i 0 e rfl;cases n
  subst hx;refine Hh ?_;exact⟨none,0,rfl,Own.nil,Ext.refl _⟩
 .intro h;refine Hh ?_;intro u z b;refine Hh ?_;have j:=Qpy.made (base:=w.heap.size) b (Zf _);refine Qq Qpy (l:= []) (news:=x) rfl j rfl (i.ext b.ext) (by simp;omega) b.ext.size fun k m B g o v=>?_
  have s:=Qu b.ext o (Xm j);rw[Zah]at g⊢;refine Hh ?_;exact⟨k,m,rfl,g,s⟩
theorem Q34(a b w):Cal Tryz.prog 132 [.agg (chC a).toArray,.agg (chC b).toArray] w fun r w'=>r=Vj (Qja a b)/\Gr w w':=by
 refine Fi Tryz.func132 rfl _ rfl rfl (Hh ?_);intro g l i;refine Hh ?_;intro h e f;have c:At e g _ (chC a):=i.At.ext f.ext;have d:At e h _ (chC b):=f.At;have hx:=(Qam i).trans ((Qam f).trans (Gr.drew e));refine Hh ?_;refine Dr .ext [0,1,2,3,5,6,7,8,10,11,12,13,15,16,17,18,4,9,14] [19,20,21,22] (Hh ?_);replace c:At e.drew g _ _:=c;replace d:At e.drew h _ _:=d;generalize e.drew=m at c d hx⊢;refine⟨_,d.one rfl,Hh ?_⟩;refine⟨_,c.one rfl,Hh ?_⟩;refine⟨_,c.one rfl,Hh ?_⟩;refine⟨_,d.one rfl,Hh ?_⟩;refine⟨_,c.one rfl,Hh ?_⟩;refine⟨_,d.one rfl,Hh ?_⟩;refine⟨_,c.one rfl,Hh ?_⟩;refine⟨_,d.one rfl,Hh ?_⟩;refine(Qfy _ _ _).mono ?_;rintro _ _ ⟨rfl,rfl⟩;refine⟨Ext.refl _,Hh ?_⟩;refine(Qaj _ _ _).mono ?_;rintro _ _ ⟨rfl,rfl⟩;refine⟨Ext.refl _,Hh ?_⟩;refine(Qaj _ _ _).mono ?_;rintro _ _ ⟨rfl,rfl⟩;refine⟨Ext.refl _,Hh ?_⟩;refine(Qaj _ _ _).mono ?_;rintro _ _ ⟨rfl,rfl⟩;refine Hh ?_;intro k n j;refine Hh ?_;refine(Qex [Qc5 b.score a.score,Qcp a.item b.item,Qcp a.maker b.maker,Qcp a.tags b.tags] _ _ _ (Qai (enc:=Qf7) X8 j) (by simp)).mono ?_;rintro _ _ ⟨rfl,rfl⟩;refine Hh ?_;exact⟨rfl,hx.trans (Qam j)⟩
theorem Q0v(l A c base w)(d:Own chC 4 98 base w A c l)(b:l.length<1000000) :
 Cal Tryz.prog 131 [.slice A l.length c,.func (.func 132) #[] #[]] w fun r w'=>r=.tuple #[]/\Sl chC 4 w' A (Qh7 (ltOf Qja) l)/\∀a,Ext a w->a.heap.size<=base->Ext a w':=by
 have:=Qgh Tryz.sortChoice (by decide) Tryz.isAgg98 Tryz.sizeOf98 Qli Qsw Qja Qsz.swo ⟨_,Tryz.func131,rfl,rfl⟩ (enters_of Tryz.func132 Kr rfl) l A c base w d b (fun x y w' _=>Q34 x y w') (cb:= #[]);refine this.mono ?_;rintro _ w' ⟨rfl,F,e,f,g,hx⟩;have:F=Qh7 (ltOf Qja) l:=Quu Qsz.swo e f fun x _ y _ h k=>Xeo h k
 subst this;exact⟨rfl,g,hx⟩
section
variable {κ:Type}[DecidableEq κ]
theorem Qrb(L:List κ)(k):(Qe (L.map fun x=>(x,true)) k).getD false=decide (k∈L):=by
 induction L with
 |nil=>rfl
 |cons x L a =>
  simp only[Zm,Qe]
  by_cases h:k=x
  .subst h;simp
  .rw[if_neg h,a];simp[h]
theorem Qvo(L)(k:κ)(h:k∉L):Xe (L.map fun x=>(x,true)) k true=(L++[k]).map fun x=>(x,true):=by
 induction L with
 |nil=>rfl
 |cons x L a =>
  rw[Zr,not_or]at h;simp only[Zm,Xe,Za1];rw[if_neg h.1,a h.2]
end
theorem Xg1:Tryz.prog.underlying 79=some (.map 9 4):=by kernel_rfl
set_option maxHeartbeats 2000000 in
theorem Xbt(l A c w)(ar:Sl chC 4 w A l)(P:l.length<1000000) :
 Cal Tryz.prog 67 [.slice A l.length c] w fun r w'=>∃aa ac,r=.slice aa (Qpx l).length ac/\Own chC 4 98 w.heap.size w' aa ac (Qpx l)/\Ext w w':=by
 refine Fi Tryz.func67 rfl _ rfl rfl (Hh ?_);refine(Qy4 l A c w ar P).mono ?_;rintro _ bl ⟨K,ae,rfl,ao,au⟩;refine Gg ?_;refine(Q0v l K ae w.heap.size bl ao P).mono ?_;rintro _ av ⟨rfl,J,ah⟩;have W:=ah w au (Zf _);have af:l.length=(Qh7 (ltOf Qja) l).length:=(Qbs _ _).length_eq.symm;clear ao ah au ar;unfold Qpx;generalize Qh7 (ltOf Qja) l=F at J af⊢;rw[af]at P⊢;refine Gg ?_;intro o N v;refine Gg ?_;have ai:MapAt N o Value.string (Xj Value.bool (([]:List Bj).map fun x=>(x,true))):=MapAt.new v;have bp:=v.block;have bw:=W.size
 refine Qh Qb (fun(q:Nat×Option Addr×Nat×List Ch) w'=>q.1<=F.length/\Ext w w'/\q.2.2.2=(F.take q.1).foldl Qg4 []/\MapAt w' o Value.string (Xj Value.bool ((q.2.2.2.map (·.item)).map fun x=>(x,true)))/\Own chC 4 98 N.heap.size w' q.2.1 q.2.2.1 q.2.2.2/\Sl chC 4 w' K F)
  (fun|(k,B,d,R)=>[(4,.map (some o)),(5,.slice B R.length d),(13,.slice K F.length ae),(14,Vj F.length),(15,Vj (k:Nat))]) (fun q=>F.length-q.1) (0,none,0,[]) ⟨Zt _,W.trans v.ext,rfl,ai,Own.nil,J.ext v.ext⟩ Rr ?_
 have bx:=v.size
 have a4:∀a,K=some a->a.block<av.heap.size\/F=[]:=fun a a9=>by
  cases a7:F with
  |nil=>exact .inr rfl
  |cons y F =>
   rw[a7]at J;obtain⟨b,f,bb⟩:=J.get (k:=0) (by simp);rw[a9]at f;cases f;have:=cell_lt (Qp bb);rw[add_block]at this;exact .inl this
 clear ai v J W;rintro ⟨k,B,d,R⟩ bm ⟨be,M,H,g,m,C⟩;simp only at be H g m;have br:R.length<=k:=(by have:=Xhr [] (F.take k);rw[<- H,Zn]at this;simp at this;omega);refine Gg ?_;constructor
 .intro u;have u:k<F.length:=Su u;obtain⟨a,rfl,ag⟩:=C.get u
  have bs:a.block<av.heap.size:=by
   rcases a4 a rfl with h|h
   .exact h
   .rw[h]at u;simp at u
  have D:(F.take (k+1)).foldl Qg4 []=Qg4 R F[k]:=by rw[Za u,Zv,<- H];rfl
  generalize F[k]=x at ag D;refine Gg ?_;refine⟨a,Ix,Gg ?_⟩;refine⟨chC x,⟨rfl,ag⟩,Gg ?_⟩;intro az w5 I;refine Gg ?_;refine Qc Qb (e:=ty98) rfl I.At rfl rfl rfl (Qsw x) fun aw s al=>?_
  have s:At aw az 98 (chC x):=s;have E:Ext bm aw:=al.ext I.ext (by rw[I.block];exact Zf _);have bq:=I.block;have bt:=g.lt;have bu:=M.size;replace g:=g.ext E;replace m:=m.ext E;replace C:=C.ext E;have Y:=M.trans E;have bz:=E.size;clear al I E M;refine Gg ?_;refine⟨.string x.item,s.one rfl,Gg ?_⟩;have S:=X5 Xg1 (Qr Xd) (e:=ty4) ty4_ok (cl:= .same) Qs g x.item;rw[show ty4.zero=.bool false from rfl,Xt,Qrb]at S;refine⟨_,S,Gg ?_⟩;constructor
  .intro n;have n:x.item∉R.map (·.item):=Su n;have V:Qg4 R x=R++[x]:=by unfold Qg4;rw[if_neg n]
   rw[V]at D;refine Gg ?_;refine⟨.string x.item,s.one rfl,Gg ?_⟩;refine Qx Xg1 (Qr Xd) g x.item (.bool true) fun ax aj z=>?_
   rw[Xc,Qvo _ _ n]at aj;have bj:=z.ext Y Om;have a3:=z.at_ s Om;have an:Own chC 4 98 N.heap.size ax B d R:=m.keep fun b f=>z.block _ (by have:=(m.block f).1;omega)
   have bh:Sl chC 4 ax (some a) F:=Quq C fun b f=>z.block _ (by cases f;omega)
   have b0:=z.size;clear z g m C s Y S;refine Gg ?_;refine⟨chC x,⟨rfl,a3.all⟩,Gg ?_⟩;intro bo bv j;refine Gg ?_;have b1:=j.size;refine Qq Qpy (l:=R) (news:= [x]) rfl (an.ext j.ext) rfl (Qpy.new1 (x:=x) j) (by simp;omega) (by have:=j.ext.size;omega) fun ay a0 Z aq L a5=>?_
   have U:∀i,B.map (·.block)=some i->N.heap.size<=i:=Xm an;have bk:Ext w Z:=Qu (bj.trans j.ext) L fun i bd=>by have:=U i bd;omega
   have ak:=(aj.ext j.ext).keep (L.block o Om fun e=>by have:=U o e.symm;omega);have bi:Sl chC 4 Z (some a) F:=Quq (bh.ext j.ext) fun b f=>(by cases f;exact L.block _ Om fun e=>by have:=U _ e.symm;omega)
   generalize a8:R++[x]=ab at aq D⊢;have bg:MapAt Z o Value.string (Xj Value.bool ((ab.map (·.item)).map fun x=>(x,true))):=by rw[<- a8,Zp];exact ak
   clear ak L a5 j;refine Gg ?_;refine⟨_,wrap_succ Om,Gg ?_⟩;exact⟨(k+1,ay,a0,ab),Sj,⟨Sj,bk,D.symm,bg,aq,bi⟩,Rr⟩
  .intro n;have n:x.item∈R.map (·.item):=Su n;have V:Qg4 R x=R:=by unfold Qg4;rw[if_pos n]
   rw[V]at D;refine Gg ?_;refine⟨_,wrap_succ Om,Gg ?_⟩;exact⟨(k+1,B,d,R),Sj,⟨Sj,Y,D.symm,g,m,C⟩,Rr⟩
 intro O;have O:F.length<=k:=Su O;rw[Zd O]at H;refine Gg ?_;rw[<- H];exact⟨B,d,rfl,m.base Om,M⟩
theorem Xkf:Tryz.prog.underlying 158=some (.map 160 3):=by kernel_rfl
theorem Xa0:Qu6 Tryz.prog 160 mkV:=
 Qij (encl:=mkC) Qb st160 (fun k=>rfl)
  (fun a b=>by
   show some (decide (a.1=b.1)&&(decide (a.2=b.2)&&true))=some (decide (a=b))
   rw[Zdg];congr 1
   by_cases c:a.1=b.1<;>by_cases d:a.2=b.2<;>simp[Prod.ext_iff,c,d])
  (fun k=>by obtain⟨b,s⟩:=k;cases b<;>simp[Instr.sameBits,mkC,Go.MapKept.bytes_beq])
theorem Q9l{w b1 b2 k c T}(b:At w b1 30 (Qy1 c))(d:At w k 158 [.map (some b2)])(i:MapAt w b2 mkV (Xj vi T))(m) :
 Cal Tryz.prog 66 [mkV m,Pj b1,Pj k] w fun r w'=>r=.bool (Qlm c T m)/\Ext w w':=by
 refine Fi Tryz.func66 rfl _ rfl rfl (Hh ?_);intro l n j;have f:At n l 160 (mkC m):=j.At;have a:=j.ext;replace b:=b.ext a;replace d:=d.ext a;replace i:=i.ext a;have h:=X5 Xkf Xa0 (e:=ty3) ty3_ok (cl:= .same) Qs i m;rw[show ty3.zero=vi 0 from rfl,Xt]at h;clear j;refine Gg ?_;refine⟨Vj c.maker,b.one rfl,Gg ?_⟩;refine⟨.bool m.1,f.one rfl,Gg ?_⟩;constructor
 .intro g;refine Gg ?_;refine⟨Vj c.tag,b.one rfl,Gg ?_⟩;refine⟨.map (some b2),fun _=>d.one0,Gg ?_⟩;refine⟨mkC m,fun _=>⟨rfl,f.all⟩,Gg ?_⟩;refine⟨_,fun _=>h,Gg ?_⟩;exact⟨by unfold Qlm;rw[if_pos g],a⟩
 .intro g;refine Gg ?_;refine⟨.map (some b2),fun _=>d.one0,Gg ?_⟩;refine⟨mkC m,fun _=>⟨rfl,f.all⟩,Gg ?_⟩;refine⟨_,fun _=>h,Gg ?_⟩;exact⟨by unfold Qlm;rw[if_neg (by rw[g];simp)],a⟩
def Q9k(b1 a:Nat):Value:= .func (.func 66) #[] #[Pj b1,Pj a]
theorem Qwt{w b1 b2 f c T}(n:At w b1 30 (Qy1 c))(o:At w f 158 [.map (some b2)])(u:MapAt w b2 mkV (Xj vi T))(l A j)(v:Sl mkC 2 w A l)(y:l.length<1000000) :
 Cal Tryz.prog 134 [.slice A l.length j,Q9k b1 f] w fun r w'=>(∃i:Int,r=Vj i/\(decide (0<=i)=l.any (Qlm c T)))/\Ext w w':=by
 refine Fi Tryz.func134 rfl _ rfl rfl (Hh ?_);refine Qh Qb (fun(k:Nat) w'=>k<=l.length/\(l.take k).any (Qlm c T)=false/\Ext w w') (fun k=>[(0,.slice A l.length j),(1,Q9k b1 f),(7,Vj l.length),(8,Vj (k:Nat))]) (fun k=>l.length-k) 0 ⟨Zt _,by simp,Ext.refl _⟩ Rr ?_;rintro k z ⟨x,h,d⟩;refine Gg ?_;constructor
 .intro e;have e:k<l.length:=Su e;obtain⟨a,rfl,s⟩:=(v.ext d).get e;refine Gg ?_;refine⟨a,Ix,Gg ?_⟩;refine⟨mkC l[k],⟨rfl,s⟩,Gg ?_⟩;refine(Q9l (n.ext d) (o.ext d) (u.ext d) l[k]).mono ?_;rintro _ B ⟨rfl,m⟩;refine Gg ?_;constructor
  .intro b;have b:Qlm c T l[k]=true:=Su b;refine Gg ?_;refine⟨⟨(k:Nat),rfl,?_⟩,d.trans m⟩;have:l.any (Qlm c T)=true:=Zb7.2 ⟨l[k],Zu e,b⟩;rw[this];simp
  .intro b;have b:Qlm c T l[k]=false:=Su b;refine Gg ?_;refine⟨_,wrap_succ Om,Gg ?_⟩;refine⟨k+1,Om,⟨Om,?_,d.trans m⟩,Rr⟩;rw[Za e,List.any_append,h];simp[b]
 .intro g;have g:l.length<=k:=Su g;rw[Zd g]at h;refine Gg ?_;refine⟨⟨-1,rfl,?_⟩,d⟩;rw[h];rfl
theorem Qvk{w b1 b2 a c T}(d:At w b1 30 (Qy1 c))(e:At w a 158 [.map (some b2)])(h:MapAt w b2 mkV (Xj vi T))(l A b)(j:Sl mkC 2 w A l)(g:l.length<1000000) :
 Cal Tryz.prog 69 [.slice A l.length b,Q9k b1 a] w fun r w'=>r=.bool (l.any (Qlm c T))/\Ext w w':=by
 refine Fi Tryz.func69 rfl _ rfl rfl (Hh ?_);refine(Qwt d e h l A b j g).mono ?_;rintro _ m ⟨⟨i,rfl,f⟩,k⟩;refine Gg ?_;exact⟨by rw[f],k⟩
theorem Xgp(a:List Mk)(T m):(Qe T m).getD 0<=(Qe (a.foldl Qg6 T) m).getD 0/\(Qe (a.foldl Qg6 T) m).getD 0<=(Qe T m).getD 0+a.length:=by
 induction a generalizing T with
 |nil=>simp
 |cons x a c =>
  have h:=c (Qg6 T x)
  have d:(Qe T m).getD 0<=(Qe (Qg6 T x) m).getD 0/\(Qe (Qg6 T x) m).getD 0<=(Qe T m).getD 0+1:=by
   unfold Qg6;rw[Xr]
   by_cases b:m=x
   .rw[if_pos b,b];simp only[Zas];omega
   .rw[if_neg b];omega
  rw[Zaq,Zx];omega
theorem Xav(x)(h:x.tags.size<1000):(Qg3 x).length<=1001:=by
 have a:=Xhj (if x.maker≠⟨#[]⟩ then [((false,x.maker):Mk)] else []) (Qab 44 x.tags);have b:=Qr5 x.tags;have c:(if x.maker≠⟨#[]⟩ then [((false,x.maker):Mk)] else []).length<=1:=by split<;>simp
 unfold Qg3;omega
set_option maxHeartbeats 4000000 in
theorem Xar(c l A cp w)(c3:Gl w)(b8:Sl chC 4 w A l)(ax:l.length<1000)(ca:∀x∈l,x.tags.size<1000) :
 Cal Tryz.prog 28 [.slice A l.length cp,.agg (Qy1 c).toArray] w fun r w'=>∃bm bq,r=.slice bm (Qkx c l).length bq/\Own chC 4 98 w.heap.size w' bm bq (Qkx c l)/\Ext w w':=by
 refine Fi Tryz.func28 rfl _ rfl rfl (Hh ?_);intro C dk aj;have f:At dk C 30 (Qy1 c):=aj.At;have dr:=aj.block;have d1:=aj.size;refine Gg ?_;intro g ch af;have ae:MapAt ch g mkV (Xj vi ([]:List (Mk×Int))):=MapAt.new af;have du:=af.block;have d3:=af.size;replace f:=f.ext af.ext;have cg:=aj.ext.trans af.ext;refine Gg ?_;intro n ec al;have dv:=al.block;have d4:=al.size;refine Gg ?_;refine Qc Qb (e:=ty158) rfl al.At rfl rfl rfl Oj fun a4 h be=>?_
 have h:At a4 n 158 [.map (some g)]:=h;have a3:Ext ch a4:=be.ext al.ext Om;have d5:=be.size;replace f:=f.ext a3;replace ae:=ae.ext a3;have aq:=cg.trans a3;clear aj af al be a3 cg;refine Gg ?_;refine(Xbt l A cp a4 (b8.ext aq) Om).mono ?_;rintro _ w5 ⟨a7,c5,rfl,a0,ag⟩;have cy:=Q3e l;have bv:∀x∈Qpx l,x.tags.size<1000:=fun x hx=>ca x (Q3f hx)
 unfold Qkx;generalize Qpx l=R at a0 cy bv⊢;have u:=a0.sl Qli;have bs:∀a,a7=some a->a4.heap.size<=a.block/\a.block<w5.heap.size:=fun a ah=>a0.block ah
 replace f:=f.ext ag;replace h:=h.ext ag;replace ae:=ae.ext ag;replace aq:=aq.trans ag;have d6:=ag.size;clear ag a0 b8 ca;refine Gg ?_
 refine Qh Qb (fun(q:Nat×(Option Addr×Nat×List Ch)×List (Mk×Int)) w'=>q.1<=R.length/\Ext w w'/\(q.2.1.2.2,q.2.2)=(R.take q.1).foldl (Qeb c) ([],[])/\(∀m,0<=(Qe q.2.2 m).getD 0/\(Qe q.2.2 m).getD 0<=(q.1:Int)*1001)/\At w' C 30 (Qy1 c)/\At w' n 158 [.map (some g)]/\MapAt w' g mkV (Xj vi q.2.2)/\Own chC 4 98 w5.heap.size w' q.2.1.1 q.2.1.2.1 q.2.1.2.2/\Sl chC 4 w' a7 R/\w5.heap.size<=w'.heap.size)
  (fun|(k,(B,d,S),_)=>[(3,Pj C),(5,Pj n),(6,Q9k C n),(7,.slice B S.length d),(16,.slice a7 R.length c5),(17,Vj R.length),(18,Vj (k:Nat))]) (fun q=>R.length-q.1) (0,(none,0,[]),[]) ⟨Zt _,aq,rfl,fun m=>⟨by simp[Qe],by simp[Qe]⟩,f,h,ae,Own.nil,u,Zf _⟩ Rr ?_
 clear f h ae u aq;rintro ⟨k,⟨B,d,S⟩,j⟩ dm ⟨c4,F,Y,Z,f,h,E,o,u,dz⟩;simp only at c4 Y Z E o;refine Gg ?_;constructor
 .intro ai;have ai:k<R.length:=Su ai;obtain⟨a,rfl,bx⟩:=u.get ai;have P:(R.take (k+1)).foldl (Qeb c) ([],[])=Qeb c (S,j) R[k]:=by rw[Za ai,Zv,<- Y];rfl
  have c0:R.foldl (Qeb c) ([],[])=(R.drop k).foldl (Qeb c) (S,j):=(by rw[Y,<- Zv,Zag]);have bk:=bv _ (Zu ai);generalize R[k]=x at bx P bk;have c7:=Xav x bk;refine Gg ?_;refine⟨a,Ix,Gg ?_⟩;refine⟨chC x,⟨rfl,bx⟩,Gg ?_⟩;intro b9 ed an;refine Gg ?_;refine Qc Qb (e:=ty98) rfl an.At rfl rfl rfl (Qsw x) fun a5 D b4=>?_
  have D:At a5 b9 98 (chC x):=D;have dw:=an.block;have U:Ext dm a5:=b4.ext an.ext (by rw[an.block];exact Zf _);have ei:=U.size;have d0:=E.lt;clear b4 an;refine Gg ?_;refine⟨Vj c.size,(f.ext U).one rfl,Gg ?_⟩;constructor
  .intro O;have O:c.size<=(S.length:Int):=Su O;refine Gg ?_;rw[c0,Xco O];exact⟨B,d,rfl,(o.ext U).base Om,F.trans U⟩
  intro O;have O:¬c.size<=(S.length:Int):=Su O;refine Gg ?_;refine⟨chC x,⟨rfl,D.all⟩,Gg ?_⟩;refine(Q5w x a5 (c3.ext (F.trans U)) bk).mono ?_;rintro _ ee ⟨au,br,rfl,bg,bj⟩;have ao:=bg.sl Q0a;have cr:∀a,au=some a->a5.heap.size<=a.block:=fun a ah=>(bg.block ah).1
  clear bg;have bi:Qeb c (S,j) x=if(Qg3 x).any (Qlm c j)=true then(S,j) else(S++[x],(Qg3 x).foldl Qg6 j):=by unfold Qeb;rw[if_neg O]
  have cc:=Xgp (Qg3 x) j;have cd:=fun i=>Xgp ((Qg3 x).take i) j
  generalize Qg3 x=M at ao bi cc cd c7⊢;have J:=U.trans bj;replace f:=f.ext J;replace h:=h.ext J;replace E:=E.ext J;replace o:=o.ext J;replace u:=u.ext J;replace D:=D.ext bj;replace F:=F.trans J;have ej:=J.size;clear U bj J;refine Gg ?_;refine(Qvk f h E M au br ao Om).mono ?_;rintro _ bl ⟨rfl,v⟩;replace f:=f.ext v;replace h:=h.ext v;replace E:=E.ext v;replace o:=o.ext v;replace u:=u.ext v;replace ao:=ao.ext v;replace D:=D.ext v;replace F:=F.trans v;have ef:=v.size;clear v;refine Gg ?_;constructor
  .intro N;have N:M.any (Qlm c j)=true:=Su N;rw[bi,if_pos N]at P;refine Gg ?_;refine⟨_,wrap_succ Om,Gg ?_⟩;exact⟨(k+1,(B,d,S),j),Sj,⟨Sj,F,P.symm,fun m=>⟨(Z m).1,by have:=(Z m).2;simp only;omega⟩,f,h,E,o,u,Om⟩,Rr⟩
  intro N;have N:¬M.any (Qlm c j)=true:=Su N;rw[bi,if_neg N]at P;refine Gg ?_
  refine Qh Qb (fun(q:Nat×List (Mk×Int)) w'=>q.1<=M.length/\q.2=(M.take q.1).foldl Qg6 j/\Mod (fun i=>i=g) bl w'/\MapAt w' g mkV (Xj vi q.2))
   (fun|(i,_)=>[(3,Pj C),(5,Pj n),(6,Q9k C n),(7,.slice B S.length d),(9,Pj b9),(16,.slice (some a) R.length c5),(17,Vj R.length),(18,Vj (k:Nat)),(32,.slice au M.length br),(33,Vj M.length),(34,Vj (i:Nat))]) (fun q=>M.length-q.1) (0,j) ⟨Zt _,rfl,Mod.refl _ _,E⟩ Rr ?_
  rintro ⟨i,z⟩ V ⟨ab,K,s,bd⟩;simp only at ab K bd;have eg:=s.size;refine Gg ?_;constructor
  .intro ay;have ay:i<M.length:=Su ay;have da:Sl mkC 2 V au M:=Xb8.stay ao fun a ah ax=>s.block _ ax (by have:=cr a ah;omega)
   obtain⟨a2,bh,bz⟩:=da.get ay;have cb:(M.take (i+1)).foldl Qg6 j=Qg6 z M[i]:=by rw[Za ay,Zv,<- K];rfl
   have cz:=Z M[i];have bw:=cd i M[i];rw[<- K,Zn]at bw;generalize M[i]=m at bz cb cz bw;refine Gg ?_;refine⟨a2,⟨bh,Om,Om⟩,Gg ?_⟩;refine⟨mkC m,⟨rfl,bz⟩,Gg ?_⟩;intro a8 d7 ak;refine Gg ?_;refine Qc Qb (e:=ty160) rfl ak.At rfl rfl rfl (by simp[Qg,mkC,Value.oneCell']) fun y W b2=>?_
   have W:At y a8 160 (mkC m):=W;have dt:=ak.block;have cf:Ext V y:=b2.ext ak.ext (by rw[ak.block];exact Zf _);have bt:Mod (fun i=>i=g) bl y:=s.trans (Mod.of_ext cf);have ac:=bd.ext cf;have av:At y n 158 [.map (some g)]:=(bt.block n h.lt Om).trans h;clear b2 ak;refine Gg ?_;refine Dr (Xmm g mkV m (Vj 0)) [0,1,2,3,4,5] [6] (Hh ?_);replace W:At y.drew a8 _ _:=W;replace av:At y.drew n _ _:=av;replace ac:MapAt y.drew g mkV (Xj vi z):=ac.keep rfl;have bu:Mod (fun i=>i=g) bl y.drew:=bt.trans (Mod.of_ext (Ext.refl y).drew);generalize y.drew=d8 at W av ac bu⊢;refine⟨.map (some g),Xli av.one0 (by show n≠g;omega),Hh ?_⟩;refine⟨mkC m,⟨rfl,Xlh W.all (by show a8≠g;omega)⟩,Hh ?_⟩;refine⟨_,Qz5 Xkf Xa0 (e:=ty3) ty3_ok ac,?_⟩;rw[show (Qe (Xj vi z) m).getD ty3.zero=vi ((Qe z m).getD 0) from Xt vi _ _ 0];refine Hh ?_;refine⟨(Qe z m).getD 0+1,wrap_eq rfl ⟨Om,Om⟩,Hh ?_⟩;refine Qpg Xkf Xa0 (e:=ty3) ty3_ok ac m fun d9 d2 b0 b3=>?_
   refine⟨⟨Qj b3 rfl,fun L cw=>?_⟩,?_⟩
   .refine⟨_,b0.at_,?_⟩;rw[Q8];have cx:∀k,Qe L k=Qe (Xj vi z) k:=(by obtain⟨bo,c1,df,dh⟩:=cw;obtain⟨bp,c2,di,dj⟩:=ac;have f:=df.block;rw[di.block]at f;have cv:strip bp=strip bo:=(by have H:bp.map (mkE mkV)=bo.map (mkE mkV):=(by injection f with f;injection f with f _;simpa using f);exact Qgz Xjm H);intro k;rw[<- dh,<- dj,cv]);rw[cx];rfl
   refine Hh ?_;refine Qpi b0 (vi ((Qe z m).getD 0+1)) fun ea b1 c8=>?_
   rw[Qdp,Xc]at b1;refine Hh ?_;refine⟨_,wrap_succ Om,Gg ?_⟩;exact⟨(i+1,Qg6 z m),Sj,⟨Sj,cb.symm,bu.trans ((Qj (S:=fun i=>i=g) b3 rfl).trans (Qj (S:=fun i=>i=g) c8 rfl)),b1⟩,Rr⟩
  intro bb;have bb:M.length<=i:=Su bb;rw[Zd bb]at K;rw[<- K]at P cc;have cq:At V b9 98 (chC x):=(s.block b9 D.lt Om).trans D;have b5:Own chC 4 98 w5.heap.size V B d S:=o.keep fun b aa=>s.block _ (o.block aa).2 (by have:=(o.block aa).1;omega)
  have db:Sl chC 4 V (some a) R:=Qpy.stay u fun b aa ax=>s.block _ ax (by have:=(bs b aa).1;omega)
  have dd:Ext w V:=Qcu F (fun i ab=>by rw[ab];omega) s;have dy:S.length<=k:=(by have f:=(Xcq c (R.take k) ([],[]));obtain⟨q,c9,bh⟩:=f;have H:=congrArg Prod.fst Y;simp only at H;rw[H,c9];have:=bh.length_le;rw[Zn]at this;simp;omega);refine Gg ?_;refine⟨chC x,⟨rfl,cq.all⟩,Gg ?_⟩;intro dq eb I;refine Gg ?_;refine Qq Qpy (l:=S) (news:= [x]) rfl (b5.ext I.ext) rfl (Qpy.new1 (x:=x) I) (by simp;omega) (by have:=I.ext.size;omega) fun cj cl ar b6 aw cu=>?_
  have b7:∀i,B.map (·.block)=some i->w5.heap.size<=i:=Xm b5;have az:∀i,i<w5.heap.size->ar.heap[i]?=V.heap[i]? := fun i ab=>(by have dp:=I.ext.size;rw[aw.block i Om fun e=>by have:=b7 i e.symm;omega];exact I.ext.block i Om)
  have de:Ext w ar:=Qu (dd.trans I.ext) aw fun i ab=>by have:=b7 i ab;omega
  have cm:At ar C 30 (Qy1 c):=(az C Om).trans ((s.block C f.lt Om).trans f);have cn:At ar n 158 [.map (some g)]:=(az n Om).trans ((s.block n h.lt Om).trans h);have c6:=bd.keep (az g Om);have dc:Sl chC 4 ar (some a) R:=Qa7 db fun b aa=>az _ (bs b aa).2
  have eh:=aw.size;have dp:=I.ext.size;generalize dx:S++[x]=ck at b6 P⊢;clear aw cu I s;refine Gg ?_;refine⟨_,wrap_succ Om,Gg ?_⟩;exact⟨(k+1,(cj,cl,ck),z),Sj,⟨Sj,de,P.symm,fun m=>⟨by have f:=(Z m).1;have H:=(Xgp M j m).1;rw[<- K]at H;simp only;omega,by have f:=(Z m).2;have H:=(Xgp M j m).2;rw[<- K]at H;simp only;omega⟩,cm,cn,c6,b6,dc,Om⟩,Rr⟩
 intro a9;have a9:R.length<=k:=Su a9;rw[Zd a9]at Y;refine Gg ?_;rw[<- Y];exact⟨B,d,rfl,o.base Om,F⟩
end Go.Proofs.YtnpacgccajekgaaGreatDoor
namespace Go.Proofs.YtnpacgccajekgaaGreatDoor
open Go.RowKit Go.Se Go.Sort Go.Shelf
theorem Q9y{α:Type}[Inhabited α](val:α->Bj){w g b e}{l:List α}(d:w.heap[g]?=some (.cells b e (0,0)))(i:b.toList.take l.length=l.map fun x=>Value.string (val x)):Holds (fun x:α=>Value.string (val x)) w g 0 l.toArray:=by
 intro a f;have h:a<l.length:=Su f;refine⟨?_,by simp[World.frozen?,d]⟩;have c:(b.toList.take l.length)[a]?=(l.map fun x=>Value.string (val x))[a]? := by rw[i]
 rw[Zbm,if_pos h,Zaf,Zb h]at c;rw[getElem!_pos l.toArray a f];simp only[World.cell?,d,Za6,List.getElem_toArray];simpa using c
theorem Qkr{α:Type}[Inhabited α](val:α->Bj)(w blk off d k)(h:k≠blk):(putRow (fun x:α=>Value.string (val x)) w blk off d).heap[k]?=w.heap[k]? := by
 unfold putRow mapBlock;simp only[Zce,if_neg (Ne.symm h)]
theorem Qh0{α:Type}[Inhabited α](val:α->Bj)(w blk off d):(putRow (fun x:α=>Value.string (val x)) w blk off d).heap.size=w.heap.size:=by
 unfold putRow mapBlock;simp only[Zcp]
section
variable {P:Program}{ρ:Ren}
theorem Q6t{α:Type}[Inhabited α](val:α->Bj)(S:SlLaysF.n6 P ρ)(V:SlLaysF0.n6 P ρ)(cmp)(ar:Go.Sort.SWO (ltOf cmp))(N:Qql P (ρ.f 6)){f:Nat}{cb}(Y:∀args w,(callFunc f args).run P w=.ok (.enter f args) w)
 (l A c base w)(O:Own (fun x=>Qac (val x)) 1 (ρ.t 24) base w A c l)(a8:l.length<1000000)
 (ae:∀x y w',(∀k,(∀a,A=some a->k≠a.block)->k<w.heap.size->w'.heap[k]?=w.heap[k]?)->Cal P f ([.string (val x),.string (val y)]++cb.toList) w' fun r ax=>r=Vj (cmp x y)/\Gr w' ax) :
 Cal P (ρ.f 6) [.slice A l.length c,.func (.func f) #[] cb] w fun r w'=>r=.tuple #[]/\∃F,F.Perm l/\Srt (ltOf cmp) F/\Sl (fun x=>Qac (val x)) 1 w' A F/\∀o,Ext o w->o.heap.size<=base->Ext o w':=by
 by_cases d:l=[]
 .subst d;refine Qae N (AnyF.slices_SortFunc_none V A c _ w) ?_;rintro w' rfl;exact⟨rfl,[],Za9 _,Srt.nil,Sl.nil,fun o h _=>h⟩
 .have bb:=O.sl (fun x=>Qv (val x));have a9:0<l.length:=Zad.2 d;rcases O.2 with⟨_,E⟩|⟨g,cap,ay,D,az,L,a3,a4,a5,J⟩
  .omega
  injection D with aa _ ac;subst aa;subst ac;have H:Holds (fun x:α=>Value.string (val x)) w g 0 l.toArray:=Q9y val L (by rw[Zbl]at J;rw[J,show (fun x:α=>Qac (val x))=fun x=>[Value.string (val x)] from rfl,Qfe]);have I:g<w.heap.size:=lt_of_block L
  have af:CmpLays1 P f cb (fun x:α=>Value.string (val x)) cmp g 0 l.toArray.size w:=by
   intro m os s _ x y
   have al:∀k,(∀a,some (⟨g,0,none⟩:Addr)=some a->k≠a.block)->k<w.heap.size->(sortWorld (fun x:α=>Value.string (val x)) w g 0 m s os).heap[k]?=w.heap[k]? := by
    intro k C a7;have an:k≠g:=C ⟨g,0,none⟩ rfl;have E:(putRow (fun x:α=>Value.string (val x)) (Go.Sort.ahead w m) g 0 s).heap[k]?=(Go.Sort.ahead w m).heap[k]? := Qkr val _ _ _ _ _ an;have bd:w.heap.size=(putRow (fun x:α=>Value.string (val x)) (Go.Sort.ahead w m) g 0 s).heap.size:=by rw[Qh0 val];rfl
    have Z:=(Qdm (putRow (fun x:α=>Value.string (val x)) (Go.Sort.ahead w m) g 0 s) os).block k Om;unfold sortWorld;rw[Z,E];rfl
   have:=(ae x y (sortWorld (fun x:α=>Value.string (val x)) w g 0 m s os) al).2;have B:([Value.string (val x),Value.string (val y)]++cb.toList).toArray=#[Value.string (val x),Value.string (val y)]++cb:=by simp
   rw[B]at this;refine this.mono ?_;rintro e w' ⟨v,ag,D,q,aw,au⟩;exact⟨by rw[ag,D],q,aw,au⟩
  have K:=Any.slices_SortFunc S (fun x:α=>Value.string (val x)) (fun _=>rfl) cmp ar f cb g 0 c l.toArray w Y af H I (by simp;omega);rw[Za4]at K;refine Qae N K ?_;rintro w' ⟨b,n,os,R,aq,rfl⟩;have U:b.size=l.length:=Su R.1
  have ao:b.toList.Perm l:=by
   have:=R.2.2;have B:b.extract 0 l.length=b:=by rw[<- U];exact Array.extract_size
   have W:l.toArray.extract 0 l.length=l.toArray:=by simp
   rw[B,W]at this;simpa using this
  have ab:Holds (fun x:α=>Value.string (val x)) (sortWorld (fun x:α=>Value.string (val x)) w g 0 n b os) g 0 b:=(by unfold sortWorld;refine holds_grow _ _ _ _ _ _ ?_ (holds_putRow _ _ _ _ l.toArray b (holds_ahead _ _ _ _ _ _ H) (Su U));rw[Qh0 val];exact I);refine⟨rfl,b.toList,ao,?_,?_,?_⟩
  .unfold Srt;rw[Zaz];intro i j u z ai;have ah:i<b.size:=Su u;have aj:j<b.size:=Su z;have:=aq i j (Zt _) ai Om;rw[getElem!_pos b i ah,getElem!_pos b j aj]at this;simpa using this
  .intro i x u;have M:i<b.size:=by have:=(Zi.1 u).1;simpa using this
   refine⟨_,rfl,fun j v z=>?_⟩;have ak:j=0:=(by have:=(Zi.1 z).1;have e:((fun x=>Qac (val x)) x).length=1:=Qv _;omega);subst ak;have:=(ab i M).1;have hx:b[i]! = x:=by rw[getElem!_pos b i M];have:=Zi.1 u;simpa using this.2
   rw[hx,Za6]at this;rw[Q9,Qe7,Zbl,Zcf,this];simpa [Qac] using z
  .intro o d a0
   have av:Ext o (putRow (fun x:α=>Value.string (val x)) (Go.Sort.ahead w n) g 0 b):=by
    refine⟨d.os,d.tape,d.output,?_,fun k C=>?_⟩
    .rw[Qh0 val];exact d.size
    .rw[Qkr val _ _ _ _ _ Om];exact d.block k C
   exact av.trans (Qdm _ os)
end
end Go.Proofs.YtnpacgccajekgaaGreatDoor
namespace Go.Proofs.YtnpacgccajekgaaGreatDoor
open Go.Se Go.RowKit Go.Sort
set_option maxHeartbeats 2000000 in
theorem Qqi(l A c w)(ac:SlT w A l)(ao:l.length<1000000) :
 Cal Tryz.prog 71 [.slice A l.length c] w fun r w'=>∃H I,r=.slice H (Qbx l).length I/\Own Qac 1 9 w.heap.size w' H I (Qbx l)/\Ext w w':=by
 refine Fi Tryz.func71 rfl _ rfl rfl (Hh ?_);intro m u s;refine Gg ?_;have K:MapAt u m Value.string (Xj Value.bool (([]:List Bj).map fun x=>(x,true))):=MapAt.new s;have ak:=s.block;have aq:=s.size
 refine Qh Qb (fun(q:Nat×Option Addr×Nat×List Bj) w'=>q.1<=l.length/\Ext w w'/\u.heap.size<=w'.heap.size/\q.2.2.2=(l.take q.1).foldl Qg7 []/\MapAt w' m Value.string (Xj Value.bool (q.2.2.2.map fun x=>(x,true)))/\Own Qac 1 9 u.heap.size w' q.2.1 q.2.2.1 q.2.2.2)
  (fun|(k,B,d,R)=>[(3,.map (some m)),(4,.slice B R.length d),(8,.slice A l.length c),(9,Vj l.length),(10,Vj (k:Nat))]) (fun q=>l.length-q.1) (0,none,0,[]) ⟨Zt _,s.ext,Zf _,rfl,K,Own.nil⟩ Rr ?_
 clear K s;rintro ⟨k,B,d,R⟩ ar ⟨ab,C,ag,n,o,h⟩;simp only at ab n o h;have an:R.length<=k:=(by have:=Xh4 [] (l.take k);rw[<- n,Zn]at this;simp at this;omega);refine Gg ?_;constructor
 .intro y;have y:k<l.length:=Su y;obtain⟨a,W,J⟩:=(ac.ext C).get y;have j:(l.take (k+1)).foldl Qg7 []=Qg7 R l[k]:=by rw[Za y,Zv,<- n];rfl
  generalize l[k]=x at J j;refine Gg ?_;refine⟨a,⟨W,Om,Om⟩,Gg ?_⟩;refine⟨.string x,Qp J,Gg ?_⟩;have E:=X5 Xg1 (Qr Xd) (e:=ty4) ty4_ok (cl:= .same) Qs o x;rw[show ty4.zero=.bool false from rfl,Xt,Qrb]at E;refine⟨_,E,Gg ?_⟩;constructor
  .intro f;have f:x∉R:=Su f;have F:Qg7 R x=R++[x]:=by unfold Qg7;rw[if_neg f]
   rw[F]at j;refine Gg ?_;refine Qx Xg1 (Qr Xd) o x (.bool true) fun ah L z=>?_
   rw[Xc,Qvo _ _ f]at L;have ae:=z.ext C Om;have N:Own Qac 1 9 u.heap.size ah B d R:=h.keep fun b Z=>z.block _ (by have:=(h.block Z).1;omega)
   have av:=z.size;clear z o h E;refine Gg ?_;intro aj au g;refine Gg ?_;have aw:=g.ext.size;refine Qq Xp (l:=R) (news:= [x]) rfl (N.ext g.ext) rfl (Xp.new1 (x:=x) g) (by simp;omega) Om fun S V ai O v Y=>?_
   have P:∀i,B.map (·.block)=some i->u.heap.size<=i:=Xm N;have af:Ext w ai:=Qu (ae.trans g.ext) v fun i aa=>by have:=P i aa;omega
   have M:=(L.ext g.ext).keep (v.block m Om fun e=>by have:=P m e.symm;omega);have ax:=v.size;generalize al:R++[x]=U at O j M⊢;clear v Y g;refine Gg ?_;refine⟨_,wrap_succ Om,Gg ?_⟩;exact⟨(k+1,S,V,U),Sj,⟨Sj,af,Om,j.symm,M,O⟩,Rr⟩
  .intro f;have f:x∈R:=Su f;have F:Qg7 R x=R:=by unfold Qg7;rw[if_pos f]
   rw[F]at j;refine Gg ?_;refine⟨_,wrap_succ Om,Gg ?_⟩;exact⟨(k+1,B,d,R),Sj,⟨Sj,C,ag,j.symm,o,h⟩,Rr⟩
 intro D;have D:l.length<=k:=Su D;rw[Zd D]at n;refine Gg ?_;unfold Qbx;rw[<- n];exact⟨B,d,rfl,h.base Om,C⟩
theorem Qo5(a w):Cal Tryz.prog 193 [.int .u64 a] w fun r w'=>r=.bool false/\w'=w:=by
 refine Fi Tryz.func193 rfl _ rfl rfl (Hh ?_);exact⟨by simp,rfl⟩
theorem Qom(a b w):Cal Tryz.prog 137 [.int .u64 a,.int .u64 b] w fun r w'=>r=Vj (Qc5 a b)/\w'=w:=by
 refine Fi Tryz.func137 rfl _ rfl rfl (Hh ?_);refine(Qo5 a w).mono ?_;rintro _ _ ⟨rfl,rfl⟩;refine Hh ?_;refine(Qo5 b _).mono ?_;rintro _ _ ⟨rfl,rfl⟩;refine Hh ?_;constructor
 .intro h;cases h
 intro _;refine Hh ?_;constructor
 .intro h;cases h
 intro _;refine Hh ?_;constructor
 .intro h;have h:a<b:=Su h;refine Hh ?_;exact⟨by unfold Qc5;rw[if_pos h],rfl⟩
 intro h;have h:¬a<b:=Su h;refine Hh ?_;constructor
 .intro k;have k:b<a:=Su k;refine Hh ?_;exact⟨by unfold Qc5;rw[if_neg h,if_pos k],rfl⟩
 intro k;have k:¬b<a:=Su k;refine Hh ?_;exact⟨by unfold Qc5;rw[if_neg h,if_neg k],rfl⟩
theorem Q83(seed)(a b:Bj)(l w)(u:At w l 23 [.int .u64 seed])(x:a.size<1000000/\b.size<1000000):Cal Tryz.prog 136 [.string a,.string b,Pj l] w fun r w'=>r=Vj (Q4n (Qnc seed) a b)/\Gr w w':=by
 refine Fi Tryz.func136 rfl _ rfl rfl (Hh ?_);refine Ql1 (ι:=Unit) (fun _=>[(5,Vj (Q4n (Qnc seed) a b))]) (fun _ w'=>Gr w w') ?_ ?_
 .refine Qhl .ext (Pl.seq [0,1,4,5,9,10] (Pl.two 2 (Pl.seq [] (Pl.two 3 (Pl.seq [6,7,8,11,12,13,14] Pl.done) 6 (Pl.seq [3,7,8,11,12,13,14] Pl.done))) 6 (Pl.seq [2,3,7,8,11,12,13,14] Pl.done))) (by intro h;cases h) Qb mixed Kr (Hh ?_);have hx:Gr w w.drew:=Gr.drew w;have m:At w.drew l _ _:=u;generalize w.drew=y at hx m⊢;refine⟨.int .u64 seed,m.one0,Hh ?_⟩;refine⟨.int .u64 seed,m.one0,Hh ?_⟩;refine⟨?_,?_⟩
  .intro k n g;refine⟨g.ext,Hh ?_⟩;refine⟨?_,?_⟩
   .refine(Qdv seed [a] (some ⟨k,0,none⟩) 1 n (Qai (enc:=Qac) Qv g) (by simp) (fun s f=>by rw[Zl.1 f];omega)).mono ?_;rintro _ n ⟨rfl,rfl⟩;refine⟨Ext.refl _,Hh ?_⟩;intro i c d;refine⟨d.ext,Hh ?_⟩;refine(Qdv seed [b] (some ⟨i,0,none⟩) 1 c (Qai (enc:=Qac) Qv d) (by simp) (fun s f=>by rw[Zl.1 f];omega)).mono ?_;rintro _ c ⟨rfl,rfl⟩;refine⟨Ext.refl _,Hh ?_⟩;refine(Qom _ _ _).mono ?_;rintro _ c ⟨rfl,rfl⟩;refine⟨Ext.refl _,Hh ?_⟩;refine(Qaj _ _ _).mono ?_;rintro _ c ⟨rfl,rfl⟩;refine⟨Ext.refl _,Hh ?_⟩;intro o j e;refine⟨e.ext,Hh ?_⟩;refine(Qex [Qc5 (Qnc seed a) (Qnc seed b),Qcp a b] _ _ _ (Qai (enc:=Qf7) X8 e) (by simp)).mono ?_;rintro _ j ⟨rfl,rfl⟩;refine⟨Ext.refl _,Hh ?_⟩;exact⟨(),((hx.trans (Qam g)).trans (Qam d)).trans (Qam e),Rr⟩
   .intro i c d;refine⟨d.ext,Hh ?_⟩;refine(Qdv seed [a] (some ⟨k,0,none⟩) 1 c ((Qai (enc:=Qac) Qv g).ext d.ext) (by simp) (fun s f=>by rw[Zl.1 f];omega)).mono ?_;rintro _ c ⟨rfl,rfl⟩;refine⟨Ext.refl _,Hh ?_⟩;refine(Qdv seed [b] (some ⟨i,0,none⟩) 1 c (Qai (enc:=Qac) Qv d) (by simp) (fun s f=>by rw[Zl.1 f];omega)).mono ?_;rintro _ c ⟨rfl,rfl⟩;refine⟨Ext.refl _,Hh ?_⟩;refine(Qom _ _ _).mono ?_;rintro _ c ⟨rfl,rfl⟩;refine⟨Ext.refl _,Hh ?_⟩;refine(Qaj _ _ _).mono ?_;rintro _ c ⟨rfl,rfl⟩;refine⟨Ext.refl _,Hh ?_⟩;intro o j e;refine⟨e.ext,Hh ?_⟩;refine(Qex [Qc5 (Qnc seed a) (Qnc seed b),Qcp a b] _ _ _ (Qai (enc:=Qf7) X8 e) (by simp)).mono ?_;rintro _ j ⟨rfl,rfl⟩;refine⟨Ext.refl _,Hh ?_⟩;exact⟨(),((hx.trans (Qam g)).trans (Qam d)).trans (Qam e),Rr⟩
  .intro i n g;refine⟨g.ext,Hh ?_⟩;intro k c d;refine⟨d.ext,Hh ?_⟩;refine(Qdv seed [a] (some ⟨k,0,none⟩) 1 c (Qai (enc:=Qac) Qv d) (by simp) (fun s f=>by rw[Zl.1 f];omega)).mono ?_;rintro _ c ⟨rfl,rfl⟩;refine⟨Ext.refl _,Hh ?_⟩;refine(Qdv seed [b] (some ⟨i,0,none⟩) 1 c ((Qai (enc:=Qac) Qv g).ext d.ext) (by simp) (fun s f=>by rw[Zl.1 f];omega)).mono ?_;rintro _ c ⟨rfl,rfl⟩;refine⟨Ext.refl _,Hh ?_⟩;refine(Qom _ _ _).mono ?_;rintro _ c ⟨rfl,rfl⟩;refine⟨Ext.refl _,Hh ?_⟩;refine(Qaj _ _ _).mono ?_;rintro _ c ⟨rfl,rfl⟩;refine⟨Ext.refl _,Hh ?_⟩;intro o j e;refine⟨e.ext,Hh ?_⟩;refine(Qex [Qc5 (Qnc seed a) (Qnc seed b),Qcp a b] _ _ _ (Qai (enc:=Qf7) X8 e) (by simp)).mono ?_;rintro _ j ⟨rfl,rfl⟩;refine⟨Ext.refl _,Hh ?_⟩;exact⟨(),((hx.trans (Qam g)).trans (Qam d)).trans (Qam e),Rr⟩
 rintro _ w5 v;refine Hh ?_;exact⟨rfl,v⟩
abbrev TxS:={ x:Bj // x.size<1000000 }
instance:Inhabited TxS:=⟨⟨⟨#[]⟩,by decide⟩⟩
theorem Xeq(f):WC (fun a b:TxS=>Q4n f a.1 b.1):=⟨fun a b=>(Qs0 f).anti a.1 b.1,fun c d=>(Qs0 f).le c d⟩
set_option maxHeartbeats 2000000 in
theorem Q0p(seed l A c w)(af:SlT w A l)(ab:l.length<1000000)(M:∀x∈l,x.size<1000000) :
 Cal Tryz.prog 73 [.int .u64 seed,Vj 9223372036854775807,.slice A l.length c] w fun r w'=>∃D E,r=.slice D (Qgx seed l).length E/\Own Qac 1 9 w.heap.size w' D E (Qgx seed l)/\Ext w w':=by
 refine Fi Tryz.func73 rfl _ rfl rfl (Hh ?_);intro f j e;have g:At j f 23 [.int .u64 seed]:=e.At;have aj:=e.block;have ak:=e.size;refine Gg ?_;refine(Qqi l A c j (af.ext e.ext) ab).mono ?_;rintro _ N ⟨m,n,rfl,u,C⟩;have ag:=Qgk l;have B:∀x∈Qbx l,x.size<1000000:=fun x hx=>M x (Ql9 hx)
 unfold Qgx;have d:=Qnx (P:=fun x:Bj=>x.size<1000000) B;generalize Qbx l=U at u ag B d⊢;generalize Qnw (fun x:Bj=>x.size<1000000) U=V at d;have Y:V.length=U.length:=by rw[<- d,Zg]
 have i:Own (fun x:TxS=>Qac x.1) 1 9 j.heap.size N m n V:=Q0d (by rw[d];exact u);rw[<- Y];replace g:=g.ext C;have hx:=e.ext.trans C;have ai:=g.lt;clear e C M u;refine Gg ?_;refine(Q6t (fun x:TxS=>x.1) Tryz.sortTxt { Tryz.sortTxt with } (fun a b:TxS=>Q4n (Qnc seed) a.1 b.1) (Xeq _).swo ⟨_,Tryz.func135,rfl,rfl⟩ (enters_of Tryz.func136 Kr rfl) V m n j.heap.size N i Om (cb:= #[Pj f]) fun x y w' aa=>?_).mono ?_
 .exact Q83 seed x.1 y.1 f w' ((aa f (fun a Z=>by have:=(i.block Z).1;omega) ai).trans g) ⟨x.2,y.2⟩
 rintro _ O ⟨rfl,F,v,o,K,I⟩
 have H:F.map (·.1)=Qh7 (ltOf (Q4n (Qnc seed))) U:=by
  refine Quu (Qs0 _).swo ?_ ?_ fun x _ y _ h k=>Xit h k
  .rw[<- d];exact v.map _
  .unfold Srt at o⊢;rw[Z5];exact o
 have z:SlT O m (F.map (·.1)):=Xcp K;have L:=I w hx Om;have s:V.length=(F.map (·.1)).length:=by rw[Zg,v.length_eq]
 rw[H]at z s;generalize Qh7 (ltOf (Q4n (Qnc seed))) U=G at z s⊢;have J:=i.le;rw[s]at J⊢;have W:G.length<1000000:=Om;have ac:min (max (9223372036854775807:Int) 0) ((G.length:Nat):Int)=(G.length:Nat):=Om;clear o K I v H i d B;refine Gg ?_;rw[ac];refine⟨⟨Om,Om,Om,Om⟩,Gg ?_⟩;refine(Qoj G _ _ O (Qdj z 0 n J) W).mono ?_;rintro _ al ⟨R,S,rfl,ae,ah⟩;refine Gg ?_;exact⟨R,S,rfl,ae.base L.size,L.trans ah⟩
structure Qm9(w:World)(b2:Nat)(F:List Bj)(A1:Option Addr)(c1:Nat):Prop where
 head:At w b2 42 [.slice A1 F.length c1]
 sl:SlT w A1 F
theorem Qm9.ext{w w' b2 F a b}(h:Qm9 w b2 F a b)(hx:Ext w w'):Qm9 w' b2 F a b:=⟨h.head.ext hx,h.sl.ext hx⟩
theorem Qm9.only{w w' b2 b F c d}(h:Qm9 w b2 F c d)(f:Only w w' b)(g:b≠b2)(i:∀x,c=some x->b≠x.block):Qm9 w' b2 F c d:=
 ⟨f.at_ h.head (fun e=>g e.symm),f.sl h.sl fun a j e=>i a j e.symm⟩
def Qjw(F:List Bj)(x:Bj):Bool:=decide (x∈F)
def Xlk(b2:Nat):Value:= .func (.func 74) #[] #[Pj b2]
theorem Qw5{w b2 F a b}(x:Bj)(h:Qm9 w b2 F a b)(c:F.length<1000000) :
 Cal Tryz.prog 74 [.string x,Pj b2] w fun r w'=>r=.bool (Qjw F x)/\Ext w w':=by
 refine Fi Tryz.func74 rfl _ rfl rfl (Hh ?_);refine⟨.slice a F.length b,h.head.one0,Gg ?_⟩;refine(Qa3 F a b x w h.sl Om).mono ?_;rintro _ w' ⟨rfl,rfl⟩;refine Gg ?_;exact⟨rfl,Ext.refl _⟩
theorem Qsi(b2:Nat)(F:List Bj)(s:Option Addr)(u:Nat)(l:List Bj)(A:Option Addr)(c:Nat)(w:World)(z:Qm9 w b2 F s u)(v:F.length<1000000)(B:SlT w A l)(H:l.length<1000000) :
 Cal Tryz.prog 108 [.slice A l.length c,Xlk b2] w fun r w'=>r=Vj (match l.findIdx? (Qjw F) with|some i=>(i:Int)|none=>-1)/\Ext w w':=by
 refine Fi Tryz.func108 rfl _ rfl rfl (Hh ?_)
 refine Qh Qb (fun(k:Nat) w'=>k<=l.length/\Ext w w'/\∀x∈l.take k,Qjw F x=false)
  (fun k=>[(0,.slice A l.length c),(1,Xlk b2),(7,Vj l.length),(8,Vj (k:Nat))]) (fun k=>l.length-k) 0 ⟨Zt _,Ext.refl _,by simp⟩ Rr ?_
 rintro k I ⟨E,hx,e⟩;refine Hh ?_;constructor
 .intro d;have d:k<l.length:=Su d;obtain⟨a,rfl,g⟩:=(B.ext hx).get d;have n:=Qdb l k d;have m:Qjw F l[k]=true->l.findIdx? (Qjw F)=some k:=fun h=>(by rw[Z9];refine⟨d,h,fun j C=>?_⟩;have D:j<l.length:=Om;have:=e l[j] (by rw[Zcb];exact⟨j,Om,rfl⟩);simp[this])
  generalize l[k]=x at g n m;refine Gg ?_;refine⟨a,Ix,Gg ?_⟩;refine⟨.string x,Qp g,Gg ?_⟩;refine(Qw5 x (z.ext hx) v).mono ?_;rintro _ J ⟨rfl,o⟩;refine Gg ?_;constructor
  .intro h;rw[m h];refine Gg ?_;exact⟨rfl,hx.trans o⟩
  .intro h;have h:Qjw F x=false:=h;refine Gg ?_;refine⟨_,wrap_succ Om,Gg ?_⟩;refine⟨k+1,Om,⟨Om,hx.trans o,fun y b=>?_⟩,Rr⟩;rw[n]at b;rcases Zj.1 b with b|b
   .exact e y b
   .rw[Zl]at b;rw[b];exact h
 .intro f;have f:l.length<=k:=Su f;rw[Zd f]at e;have:l.findIdx? (Qjw F)=none:=(by rw[Zav];exact e);rw[this];refine Gg ?_;exact⟨rfl,hx⟩
set_option maxHeartbeats 2000000 in
theorem Q7g(b2 F u E l a c base w)(Y:Qm9 w b2 F u E)(O:F.length<1000000)(b:Own Qac 1 9 base w (some a) c l)(ah:a.block≠b2)(ag:∀x,u=some x->a.block≠x.block)(al:l.length<1000000)(af:l.any (Qjw F)=true) :
 Cal Tryz.prog 72 [.slice (some a) l.length c,Xlk b2] w fun r w'=>r=.slice (some a) (l.filter fun e=>!Qjw F e).length c/\Own Qac 1 9 base w' (some a) c (l.filter fun e=>!Qjw F e)/\Mod (fun k=>k=a.block) w w':=by
 have ar:=b.le
 obtain⟨m,V,N,K⟩:∃i,∃(h:i<l.length),Qjw F l[i]=true/\∀j (g:j<i),Qjw F (l[j]'Om)=false:=by
  cases h:l.findIdx? (Qjw F) with
  |none =>
   rw[Zav]at h;obtain⟨x,hx,d⟩:=Zb7.1 af;rw[h x hx]at d;cases d
  |some i =>
   rw[Z9]at h;obtain⟨y,ab,ac⟩:=h;exact⟨i,y,ab,fun j g=>by simpa using ac j g⟩
 have S:l.findIdx? (Qjw F)=some m:=(by rw[Z9];exact⟨V,N,fun j g=>by simp[K j g]⟩);have R:(l.take (m+1)).filter (fun e=>!Qjw F e)=l.take m:=(by rw[Qcq _ l m V,N];simp only[Zcz,Zal,if_false,Z4];rw[Zca];intro x hx;rw[Zcb]at hx;obtain⟨j,g,rfl⟩:=hx;rw[K j Om];rfl);refine Fi Tryz.func72 rfl _ rfl rfl (Hh ?_);refine(Qsi b2 F u E l (some a) c w Y O (b.sl Qv) al).mono ?_;rintro _ au ⟨rfl,C⟩;rw[S];replace b:=b.ext C;have Z:=Y.ext C;refine Gg ?_;constructor
 .intro h;simp at h
 intro _;refine Gg ?_;refine⟨_,wrap_succ Om,Gg ?_⟩
 refine Qh Qb (fun(x:Nat×Nat×List Bj) w'=>x.1<=l.length/\x.2.1<x.1/\x.2.2.length=l.length/\x.2.2.take x.2.1=(l.take x.1).filter (fun e=>!Qjw F e)/\x.2.2.drop x.1=l.drop x.1/\Own Qac 1 9 base w' (some a) c x.2.2/\Qm9 w' b2 F u E/\Mod (fun k=>k=a.block) w w')
  (fun|(j,i,U)=>[(0,.slice (some a) l.length c),(1,Xlk b2),(5,Vj (i:Nat)),(6,Vj (j:Nat))]) (fun x=>l.length-x.1) (m+1,m,l) ⟨Sj,Sj,rfl,R.symm,rfl,b,Z,Mod.of_ext C⟩ Rr ?_
 clear Z b C R S K N;rintro ⟨j,i,U⟩ av ⟨g,aj,I,o,H,b,s,n⟩;simp only at g aj I o H b;refine Hh ?_;constructor
 .intro z;have z:j<l.length:=Su z;have W:j<U.length:=Om;obtain⟨aq,J,L⟩:=(b.sl Qv).get W;injection J with J;subst J
  have ae:U[j]=l[j]:=by
   have y:(U.drop j)[0]?=(l.drop j)[0]? := by rw[H]
   rw[Zb3,Zb3,Zcf,Zb W,Zb z]at y;exact Zbc y
  have f:=Qcq (fun e=>!Qjw F e) l j z;rw[<- o]at f;have P:U.drop (j+1)=l.drop (j+1):=by rw[<- List.drop_drop,<- List.drop_drop,H]
  rw[ae]at L;generalize l[j]=v at L f;refine Gg ?_;refine⟨a,Ix,Gg ?_⟩;refine⟨.string v,Qp L,Gg ?_⟩;refine(Qw5 v s O).mono ?_;rintro _ w5 ⟨rfl,D⟩;replace b:=b.ext D;replace s:=s.ext D;replace n:=n.trans (Mod.of_ext D);clear D;refine Gg ?_;constructor
  .intro d;have d:Qjw F v=false:=Su d;rw[d]at f;simp only[Zde,if_true]at f;refine Gg ?_;refine⟨a,Ix,Gg ?_⟩;refine Qqb Qb (e:=ty9) rfl rfl Qv Qux (k:=i) Om v rfl b fun ao B A=>?_
   refine Gg ?_;refine⟨_,wrap_succ Om,Gg ?_⟩;refine⟨_,wrap_succ Om,Gg ?_⟩;refine⟨(j+1,i+1,U.set i v),Sj,⟨Sj,Sj,by simp only;rw[Zbi];exact I,?_,?_,B,s.only A ah ag,n.trans (Qj A rfl)⟩,Rr⟩
   .simp only;rw[f,List.take_set,List.take_add_one,Zb (by omega:i<U.length)];rw[Zcd _ _ (by rw[Zn];omega)];simp[Zn,Nat.min_eq_left (by omega:i<=U.length)]
   .simp only;rw[List.drop_set_of_lt Om];exact P
  .intro d;have d:Qjw F v=true:=Su d;rw[d]at f;simp only[Zcz,Zal,if_false,Z4]at f;refine Gg ?_;refine⟨_,wrap_succ Om,Gg ?_⟩;exact⟨(j+1,i,U),Sj,⟨Sj,Sj,I,f.symm,P,b,s,n⟩,Rr⟩
 intro M;have M:l.length<=j:=Su M;rw[Zd M]at o;have ak:i<U.length:=Om;have ai:(l.filter fun e=>!Qjw F e).length=i:=by rw[<- o,Zn];omega
 rw[ai];have an:(if((c:Nat):Int).toNat=((i:Nat):Int).toNat then some a else(some a).map (·.add (((i:Nat):Int).toNat*1)))=some (a.add (i*1)):=(by rw[Zbb,Zbb,if_neg Om];rfl);refine Gg ?_;refine⟨⟨Om,Om,Om,Om⟩,Gg ?_⟩;rw[an];refine Qvz Xh7 ty9_ok rfl (by simp[Qg,ty9,Value.oneCell']) Qv ak b (by simp;omega) fun ao B A=>?_
 rw[o]at B;refine Gg ?_;refine⟨⟨Om,Om,Om,Om⟩,Gg ?_⟩;refine⟨?_,B,n.trans (Qj A rfl)⟩;have aa:a.add 0=a:=by unfold Addr.add;simp
 simp[aa]
theorem Qu1(b2 F g i l A c base w)(v:Qm9 w b2 F g i)(n:F.length<1000000)(d:Own Qac 1 9 base w A c l)(I:b2<base)(y:∀x,g=some x->x.block<base)(u:l.length<1000000) :
 Cal Tryz.prog 72 [.slice A l.length c,Xlk b2] w fun r w'=>r=.slice A (l.filter fun e=>!Qjw F e).length c/\Own Qac 1 9 base w' A c (l.filter fun e=>!Qjw F e)/\(∀k,(∀a,A=some a->k≠a.block)->k<w.heap.size->w'.heap[k]?=w.heap[k]?)/\∀f,Ext f w->f.heap.size<=base->Ext f w':=by
 by_cases b:l.any (Qjw F)=true
 .obtain⟨a,rfl⟩:∃a,A=some a:=by
   cases A with
   |some a=>exact⟨a,rfl⟩
   |none =>
    cases l with
    |nil=>simp at b
    |cons x l=>obtain⟨a,z,_⟩:=(d.sl Qv) 0 x rfl;cases z
  have E:=(d.block rfl).1;refine(Q7g b2 F g i l a c base w v n d Om (fun x hx=>by have:=y x hx;omega) u b).mono ?_;rintro _ w' ⟨rfl,D,o⟩;exact⟨rfl,D,fun k s j=>o.block k j (s a rfl),fun f hx H=>Qcu hx (T:=fun k=>k=a.block) (fun k s=>Om) o⟩
 .have b:l.any (Qjw F)=false:=Su b;have B:(l.filter fun e=>!Qjw F e)=l:=(by rw[Zca];intro x hx;have:=List.any_eq_false.1 b x hx;simpa using this);have C:l.findIdx? (Qjw F)=none:=(by rw[Zav];intro x hx;simpa using List.any_eq_false.1 b x hx);rw[B];refine Fi Tryz.func72 rfl _ rfl rfl (Hh ?_);refine(Qsi b2 F g i l A c w v n (d.sl Qv) u).mono ?_;rintro _ J ⟨rfl,m⟩;rw[C];refine Gg ?_;constructor
  .intro _;refine Gg ?_;exact⟨rfl,d.ext m,fun k _ j=>m.block k j,fun f hx _=>hx.trans m⟩
  .intro h;exact absurd h (by decide)
theorem Xcr{w A x l}(h:SlT w A (x::l))(c)(a:(x::l).length<=c):SlT w (if c=1 then A else A.map (·.add (1*1))) l:=by
 have:=Qdj h 1 c a;exact this
set_option maxHeartbeats 4000000 in
theorem Xfi(seed every E other A B c d w)(cu:every<=9223372036854775807)(b2:SlT w A E)(ch:E.length<1000000)(b5:SlT w B other)(cj:other.length<1000000)(cl:∀x∈other,x.size<1000000) :
 Cal Tryz.prog 30 [.int .u64 seed,.slice A E.length c,.slice B other.length d,Vj every] w fun r w'=>∃bm bo,r=.slice bm (Xjk seed E other every).length bo/\Own Qac 1 9 w.heap.size w' bm bo (Xjk seed E other every)/\Ext w w':=by
 refine Fi Tryz.func30 rfl _ rfl rfl (Hh ?_);refine(Qqi E A c w b2 ch).mono ?_;rintro _ b9 ⟨v,K,rfl,Z,aw⟩;have ck:=Qgk E;unfold Xjk;generalize Qbx E=F at Z ck⊢;have bu:=Z.le;have V:∀a,v=some a->w.heap.size<=a.block/\a.block<b9.heap.size:=fun a o=>Z.block o
 have b3:=Z.sl Qv;clear Z b2;refine Gg ?_;intro g cy O;refine Gg ?_;refine Qc Qb (e:=ty42) rfl O.At rfl rfl rfl Oj fun ae ai bg=>?_
 have ai:At ae g 42 [.slice v F.length K]:=ai;have cr:=O.block;have ax:Ext b9 ae:=bg.ext O.ext (by rw[O.block];exact Zf _);have cx:=bg.size;have cw:=O.size;have cz:=aw.size;clear bg O;refine Gg ?_;refine(Q0p seed other B d ae (b5.ext (aw.trans ax)) cj cl).mono ?_;rintro _ ca ⟨af,bp,rfl,bh,ac⟩;have bs:(Qgx seed other).length<1000000:=(by unfold Qgx;rw[(Qbs _ _).length_eq];have:=Qgk other;omega);generalize Qgx seed other=ag at bh bs⊢;have ar:Qm9 ca g F v K:=⟨ai.ext ac,b3.ext (ax.trans ac)⟩;have b6:=aw.trans (ax.trans ac);have c0:=ac.size;clear b5 ac ax aw b3 ai;refine Gg ?_;refine(Qu1 g F v K ag af bp ae.heap.size ca ar Om bh Om (fun x hx=>by have:=(V x hx).2;omega) bs).mono ?_;rintro _ w5 ⟨rfl,aa,bd,bw⟩;have b7:=bw w b6 Om;have an:∀a,af=some a->ae.heap.size<=a.block/\a.block<w5.heap.size:=fun a o=>aa.block o
 have aj:At w5 g 42 [.slice v F.length K]:=(bd g (fun a o=>by have:=(an a o).1;omega) Om).trans ar.head;have b4:SlT w5 v F:=Qa7 ar.sl fun a o=>bd _ (fun b f=>by have:=(an b f).1;have:=(V a o).2;omega) (by have:=(V a o).2;omega)
 have bz:(fun s=>decide (s∉F))=fun e=>!Qjw F e:=by
  funext e;unfold Qjw
  by_cases h:e∈F<;>simp[h]
 rw[bz];have cd:(ag.filter fun e=>!Qjw F e).length<=ag.length:=Zc _ _;generalize (ag.filter fun e=>!Qjw F e)=D at aa cd⊢;have bv:=aa.le;have J:=aa.sl Qv;have cc:=aj.lt;have bq:∀a,v=some a->a.block<w5.heap.size/\a.block≠g:=fun a o=>by have:=(V a o).2;omega
 have br:∀a,af=some a->a.block<w5.heap.size/\a.block≠g:=fun a o=>by have:=an a o;omega
 have cg:w.heap.size<=g:=Om;clear aa bd bw ar b6 bh bz V an;refine Gg ?_;refine⟨.slice v F.length K,aj.one0,Gg ?_⟩
 refine Qh Qb (fun(q:Nat×(Option Addr×Nat×List Bj)×(Option Addr×Nat×List Bj)×(Option Addr×Nat×List Bj)) w'=>q.1<=F.length/\(q.2.1.2.2,q.2.2.1.2.2,q.2.2.2.2.2)=(List.range q.1).foldl (Qhu every) ([],F,D)/\Ext w w'/\w5.heap.size<=w'.heap.size/\Own Qac 1 9 w5.heap.size w' q.2.1.1 q.2.1.2.1 q.2.1.2.2/\At w' g 42 [.slice q.2.2.1.1 q.2.2.1.2.2.length q.2.2.1.2.1]/\SlT w' q.2.2.1.1 q.2.2.1.2.2/\q.2.2.1.2.2.length<=q.2.2.1.2.1/\(∀a,q.2.2.1.1=some a->a.block<w5.heap.size/\a.block≠g)/\SlT w' q.2.2.2.1 q.2.2.2.2.2/\q.2.2.2.2.2.length<=q.2.2.2.2.1/\(∀a,q.2.2.2.1=some a->a.block<w5.heap.size/\a.block≠g))
  (fun|(k,(U,a4,L),_,(ah,M,m))=>[(3,Vj every),(9,Pj g),(10,.slice ah m.length M),(11,.slice U L.length a4),(21,Vj F.length),(22,Vj (k:Nat))]) (fun q=>F.length-q.1) (0,(none,0,[]),(v,K,F),(af,bp,D)) ⟨Zt _,rfl,b7,Zf _,Own.nil,aj,b4,bu,bq,J,bv,br⟩ Rr ?_
 clear b7 aj b4 bu bq J bv br;rintro ⟨k,⟨U,a4,L⟩,⟨az,u,j⟩,⟨ah,M,m⟩⟩ cb ⟨b0,av,bk,cv,P,ak,au,aq,N,J,ao,H⟩;simp only at b0 av P ak au aq N J ao H;have bb:=Q21 every F D k b0;rw[<- av]at bb;simp only at bb;refine Gg ?_;constructor
 .intro b1;have b1:k<F.length:=Su b1;have S:(List.range (k+1)).foldl (Qhu every) ([],F,D)=Qhu every (L,j,m) k:=by rw[Zch,Zv,<- av];rfl
  refine Gg ?_;refine⟨(k:Int)+1,fun _=>wrap_eq rfl ⟨Om,Om⟩,Gg ?_⟩
  refine⟨((k:Int)+1).tmod every,fun bx=>⟨by have bx:1<=every:=Su bx
                                            omega,rfl⟩,Gg ?_⟩
  constructor
  .intro z;have z:(1<=every/\((k:Int)+1).tmod every=0)/\0<m.length:=Su z
   cases m with
   |nil=>simp at z
   |cons x m =>
   have be:Qhu every (L,j,x::m) k=(L++[x],j,m):=(by unfold Qhu;rw[if_pos ⟨z.1.1,z.1.2,by simp⟩];rfl);rw[be]at S;obtain⟨a,rfl,a8⟩:=J.get (k:=0) (by simp);refine Gg ?_;refine⟨a,⟨rfl,Om,by simp⟩,Gg ?_⟩;refine⟨.string x,Qp a8,Gg ?_⟩;intro b8 cn n;refine Gg ?_;have cp:=n.ext.size;refine Qq Xp (l:=L) (news:= [x]) rfl (P.ext n.ext) rfl (Xp.new1 (x:=x) n) (by simp;omega) Om fun ay a3 C R y a7=>?_
   have ab:∀i,U.map (·.block)=some i->w5.heap.size<=i:=Xm P;have bl:Ext w C:=Qu (bk.trans n.ext) y fun i W=>by have:=ab i W;omega
   have I:∀i,i<w5.heap.size->C.heap[i]?=cb.heap[i]? := fun i W=>(by rw[y.block i Om fun e=>by have:=ab i e.symm;omega];exact n.ext.block i Om)
   have al:At C g 42 [.slice az j.length u]:=(I g cc).trans ak;have bj:SlT C az j:=Qa7 au fun b f=>I _ (N b f).1
   have bi:=Xcr (Qa7 J fun b f=>I _ (H b f).1) M ao;have cq:=y.size;generalize cf:L++[x]=a0 at R S⊢;rw[Zx]at ao;clear y a7 n;refine Gg ?_;refine⟨⟨by simp,by simp only[Zx];omega,by simp only[Zx];omega,Om⟩,Gg ?_⟩;refine⟨_,wrap_succ Om,Gg ?_⟩;refine⟨(k+1,(ay,a3,a0),(az,u,j),((if M=1 then some a else(some a).map (·.add (1*1))),M-1,m)),Sj,⟨Sj,S.symm,bl,Om,R,al,bj,aq,N,bi,Sj,fun b f=>?_⟩,Rr⟩;simp only at f;split at f
   .exact H b f
   .simp at f;subst f;rw[add_block];exact H a rfl
  .intro z;have z:¬((1<=every/\((k:Int)+1).tmod every=0)/\0<m.length):=(by intro h;simp[h.1.1,h.1.2,h.2]at z)
   cases j with
   |nil=>simp at bb;omega
   |cons x j =>
   have be:Qhu every (L,x::j,m) k=(L++[x],j,m):=(by unfold Qhu;rw[if_neg (fun h=>z ⟨⟨h.1,h.2.1⟩,Zad.2 h.2.2⟩)];rfl);rw[be]at S;obtain⟨a,rfl,a8⟩:=au.get (k:=0) (by simp);refine Gg ?_;refine⟨.slice (some a) (x::j).length u,ak.one0,Gg ?_⟩;refine⟨a,⟨rfl,Om,by simp⟩,Gg ?_⟩;refine⟨.string x,Qp a8,Gg ?_⟩;intro b8 cn n;refine Gg ?_;have cp:=n.ext.size;refine Qq Xp (l:=L) (news:= [x]) rfl (P.ext n.ext) rfl (Xp.new1 (x:=x) n) (by simp;omega) Om fun ay a3 C R y a7=>?_
   have ab:∀i,U.map (·.block)=some i->w5.heap.size<=i:=Xm P;have bl:Ext w C:=Qu (bk.trans n.ext) y fun i W=>by have:=ab i W;omega
   have I:∀i,i<w5.heap.size->C.heap[i]?=cb.heap[i]? := fun i W=>(by rw[y.block i Om fun e=>by have:=ab i e.symm;omega];exact n.ext.block i Om)
   have al:At C g 42 [.slice (some a) (x::j).length u]:=(I g cc).trans ak;have bj:=Xcr (Qa7 au fun b f=>I _ (N b f).1) u aq;have bi:SlT C ah m:=Qa7 J fun b f=>I _ (H b f).1
   have cq:=y.size;generalize cf:L++[x]=a0 at R S⊢;rw[Zx]at aq;clear y a7 n;refine Gg ?_;refine⟨.slice (some a) (x::j).length u,al.one0,Gg ?_⟩;refine⟨⟨by simp,by simp only[Zx];omega,by simp only[Zx];omega,Om⟩,Gg ?_⟩;refine Qc Qb (e:=ty42) rfl al rfl rfl rfl Oj fun cm a5 Y=>?_
   have bt:∀b,(if u=1 then some a else(some a).map (·.add (1*1)))=some b->b.block<w5.heap.size/\b.block≠g:=fun b f=>by
    split at f
    .exact N b f
    .simp at f;subst f;rw[add_block];exact N a rfl
   have a5:At cm g 42 [.slice (if u=1 then some a else(some a).map (·.add (1*1))) j.length (u-1)]:=a5;refine Gg ?_;refine⟨_,wrap_succ Om,Gg ?_⟩;exact⟨(k+1,(ay,a3,a0),((if u=1 then some a else(some a).map (·.add (1*1))),u-1,j),(ah,M,m)),Sj,⟨Sj,S.symm,Y.ext bl cg,by have:=Y.size;omega,R.keep fun b f=>Y.block _ (by have:=(R.block f).1;omega),a5,Y.sl bj fun b f=>(bt b f).2,Sj,bt,Y.sl bi fun b f=>(H b f).2,ao,H⟩,Rr⟩
 intro a9;have a9:k=F.length:=(by have:F.length<=k:=Su a9;omega);subst a9;refine Gg ?_;rw[<- av];exact⟨U,a4,rfl,P.base Om,bk⟩
