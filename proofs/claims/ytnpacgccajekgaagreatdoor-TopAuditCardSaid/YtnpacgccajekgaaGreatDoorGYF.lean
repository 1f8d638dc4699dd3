import Derived.Test.YtnpacgccajekgaaGreatDoorGYD
import Derived.Test.YtnpacgccajekgaaGreatDoorGYE
set_option linter.all false
namespace Go.Proofs.YtnpacgccajekgaaGreatDoor
open Go.Se Go.RowKit Go.Sort
def Xm9(x:Bj×FuncId):List Value:= [.string x.1,.func (.func x.2) #[] #[]]
theorem Xg4(x):(Xm9 x).length=2:=rfl
def Xko:List (Bj×FuncId):= [(⟨#[112,111,112,117,108,97,114]⟩,175),(⟨#[114,105,115,105,110,103]⟩,176),(⟨#[107,105,110]⟩,177),(⟨#[102,111,108,108,111,119,101,100]⟩,178),(⟨#[102,114,101,115,104]⟩,179),(⟨#[97,103,97,105,110]⟩,180)]
theorem Qyl(w):Cal Tryz.prog 112 [] w fun r w'=>∃b,r=.slice (some ⟨b,0,none⟩) 6 6/\Sl Xm9 2 w' (some ⟨b,0,none⟩) Xko/\Ext w w':=by
 refine Fi Tryz.func112 rfl _ rfl rfl (Hh ?_);intro c d a;refine Hh ?_;exact⟨c,rfl,Qai (enc:=Xm9) (l:=Xko) Xg4 a,a.ext⟩
theorem Xaw(a:Int):(max a 0).toNat=a.toNat:=Om
set_option maxHeartbeats 1000000 in
theorem Q0m{w T p c z v}(h:WQ w T p c z v)(d:Qqm c z)(k:Nat)(f:k<6)(g:k≠2)(person:Bj)(now a)(e:0<=now/\now<=1099511627776)(b:0<=a/\a<=9223372036854775807) :
 Cal Tryz.prog (Xko[k]'f).2 [Pj p,.string person,Vj now,Vj a] w fun r w'=>Qn4 c z person now a k w r w':=by
 rcases k with _|_|_|_|_|_|k
 .exact Qxf h d person now a e b
 .exact Q6e h d person now a e b
 .exact absurd rfl g
 .exact Qtf h d person now a b
 .exact Qq1 h d person now a e b
 .exact Q31 h d person now a e b
 .omega
theorem Xf9{St w T n0 p c z}(b:PSt St n0 p c z)(h:St T w)(g:Qqm c z)(k:Nat)(d:k<6)(person:Bj)(now a)(j:0<=now/\now<=1099511627776)(f:0<=a/\a<=9223372036854775807) :
 Cal Tryz.prog (Xko[k]'d).2 [Pj p,.string person,Vj now,Vj a] w fun r w'=>Q74 St ((Qe4 c z person now k).take a.toNat) T w r w':=by
 by_cases e:k=2
 .subst e;exact Q6f b h g person now a f
 .obtain⟨v,m,i⟩:=b.wq h;exact(Q0m i g k d e person now a j f).mono fun r w' l=>l.p b h
theorem one_any{w}(p)(r:Int)(person:Bj)(now e)(s:e<=9223372036854775807){R}
 (j:¬(0<=r/\r<=5/\0<=now/\now<=1099511627776)->∀w1,Ext w w1->R (.slice none 0 0) w1)
 (n:∀(k:Nat) (d:k<6),r=k->0<=now/\now<=1099511627776->∀w1,Ext w w1->Cal Tryz.prog (Xko[k]'d).2 [Pj p,.string person,Vj now,Vj (max e 0)] w1 R) :
 Cal Tryz.prog 113 [Pj p,Vj r,.string person,Vj now,Vj e] w R:=by
 refine Fi Tryz.func113 rfl _ rfl rfl (Hh ?_);refine(Qyl w).mono ?_;rintro _ w1 ⟨b,rfl,l,h⟩;refine Hh ?_;constructor
 .intro c;have c:¬(0<=r/\r<=5/\0<=now/\now<=1099511627776):=by simp at c;omega
  refine Hh ?_;exact j c w1 h
 .intro c;have c:0<=r/\r<=5/\0<=now/\now<=1099511627776:=by simp at c;omega
  obtain⟨k,rfl⟩:∃k:Nat,r=k:=⟨r.toNat,Om⟩;have d:k<6:=Om;obtain⟨a,i,f⟩:=l.get (show k<Xko.length from d);have g:=n k d rfl ⟨c.2.2.1,c.2.2.2⟩ w1 h;refine Hh ?_;refine⟨a,⟨i,Om,Om⟩,Hh ?_⟩;generalize o:Xko[k]=wf at f g;refine⟨.func (.func wf.2) #[] #[],cells_at f (k:=1) rfl,Hh ?_⟩;refine g.mono ?_;rintro v u m;refine Hh ?_;exact m
theorem Xf7{c z person now b}{k:Nat}(d:k<6)(a:0<=now/\now<=1099511627776):Qhc c z person now k b=(Qe4 c z person now k).take (max b 0).toNat:=by
 unfold Qhc;rw[if_pos ⟨Om,Om,a.1,a.2⟩,Xaw,Zbb]
theorem Xb5{c z person now r a}(h:¬(0<=r/\r<=5/\0<=now/\now<=1099511627776)):Qhc c z person now r a=[]:=by
 unfold Qhc;rw[if_neg h]
theorem Xfs{St w T n0 p c z}(f:PSt St n0 p c z)(h:St T w)(B:Qqm c z)(r)(person:Bj)(now e)(y:e<=9223372036854775807) :
 Cal Tryz.prog 113 [Pj p,Vj r,.string person,Vj now,Vj e] w fun v w'=>Q74 St (Qhc c z person now r e) T w v w':=by
 refine one_any p r person now e y (fun C E b=>?_) (fun k d D g E b=>?_)
 .rw[Xb5 C];exact⟨none,0,T,rfl,Own.nil,fun a x=>(by cases x),f.ext h b,fun k d=>.inl d,Mod.of_ext b⟩
 .subst D;rw[Xf7 d g];refine(Xf9 f (f.ext h b) B k d person now (max e 0) g ⟨Om,Om⟩).mono ?_;rintro v F ⟨A,j,i,l,m,n,o,s,u⟩;exact⟨A,j,i,l,m.base b.size,n,o,fun k d=>(s k d).imp id fun h=>Zw b.size h,(Mod.of_ext b).trans u⟩
theorem Qxi{c z}(s:∀e∈z,Xy e=true){person now r x}(h:x∈Qe4 c z person now r):Qo x=true/\x∈z.map (·.item):=by
 have u:∀e,e∈z.filter wpB->Qo e.item=true/\e.item∈z.map (·.item):=fun e f=>⟨(Qu4 s f).2,Zh.2 ⟨_,(Ze.1 f).1,rfl⟩⟩
 have B:∀q:It->Bool,x∈(Q23 z now q).map (·.1)->Qo x=true/\x∈z.map (·.item):=fun q m=>(by obtain⟨e,f,rfl⟩:=Zh.1 (Qls (Q50 m));exact⟨Q68 s f,Zh.2 ⟨e,(Ze.1 f).1,rfl⟩⟩)
 unfold Qe4 at h;split at h
 .obtain⟨y,j,rfl⟩:=Zh.1 h;have v:=(Qgd _).mem_iff.1 j;rw[(Qc7 c.width z).1]at v;unfold Qhe at v;obtain⟨k,l,rfl⟩:=Zh.1 (Ze.1 v).1;obtain⟨d,o,rfl⟩:=Zh.1 l;obtain⟨e,f,i⟩:=(Q9b _).2 d o;have:=u e f;rw[i]at this;exact this
 split at h
 .obtain⟨y,j,rfl⟩:=Zh.1 h;have g:=Qir.1 ((Qbs _ _).mem_iff.1 j);unfold Xlx Qcm at g;obtain⟨k,l,D⟩:=Zh.1 (Ze.1 g).1;have E:y.1.1=k:=by rw[<- D];rfl
  rw[E];rw[(Qc7 c.width z).2.1]at l;unfold Qc3 at l;rw[Qaa]at l;obtain⟨d,o,rfl⟩:=Zh.1 l;obtain⟨e,f,i⟩:=(Xf1 c.width _).2 d (Ze.1 o).1;have:=u e f;rw[i]at this;exact this
 split at h
 .obtain⟨y,j,rfl⟩:=Zh.1 h;have g:=Qir.1 ((Qbs _ _).mem_iff.1 j);refine((Qj0 (Q:=fun q:Nr=>Qo q.1=true/\q.1∈z.map (·.item)) _ [] (by simp) (by simp) fun q m=>?_).2 _ g).2;obtain⟨a,_,m⟩:=Zbh.1 m;unfold Qhb at m;obtain⟨b,n,rfl⟩:=Zh.1 m;have n:=(Ze.1 n).1;unfold Qew at n;obtain⟨e,f,i⟩:=Zh.1 (Qte c z (Ze.1 (Qaa.1 n)).1);have:=u e f;rw[i]at this;exact this
 split at h
 .exact B _ h
 split at h
 .exact B _ h
 split at h
 .obtain⟨y,j,rfl⟩:=Zh.1 h;have C:=(Ze.1 ((Qgd _).mem_iff.1 j)).1;obtain⟨e,f,i⟩:=Zh.1 (Qwz C).1;have w:=Ze.1 f;have A:e∈z:=(by have g:=w.1;unfold Qfs hist Qak at g;exact(Ze.1 (Ze.1 g).1).1);rw[<- i];exact⟨(Qe0 (s e A) (Su w.2)).2,Zh.2 ⟨e,A,rfl⟩⟩
 .cases h
theorem Xf8{c z}(b:∀e∈z,Xy e=true)(a:(Qhd c z).length<1000)(person now r):(Qe4 c z person now r).length<=z.length:=by
 have h:=Qeg (Qsb a person now r) fun x hx=>(Qxi b hx).2
 rw[Zg]at h;exact h
theorem Xb4{c z}(b:∀e∈z,Xy e=true)(a:(Qhd c z).length<1000)(person now r d):(Qhc c z person now r d).length<=z.length:=by
 unfold Qhc;split
 .have:=Xf8 b a person now r.toNat;rw[Zn];omega
 .simp
end Go.Proofs.YtnpacgccajekgaaGreatDoor
namespace Go.Proofs.YtnpacgccajekgaaGreatDoor
open Go.Se Go.RowKit Go.Sort Go.Shelf
theorem Q5h(a w):Cal Tryz.prog 115 [.map a] w fun r w'=>r=.func (.func 183) #[] #[Pj w.heap.size]/\w'.cell? ⟨w.heap.size,0,none⟩=some (.map a)/\Ext w w':=
 Qf8 Tryz.keys115 ⟨_,Tryz.func115,rfl,rfl⟩ a w
theorem Qx0{w a b}{L:List (Bj×Value)}(g:w.cell? ⟨a,0,none⟩=some (.map (some b)))(j:MapAt w b Value.string L)(h:∀x∈L,x.1.size<=1000000)(i:L.length<=1000000000) :
 Cal Tryz.prog 114 [.func (.func 183) #[] #[Pj a]] w fun r w'=>∃A c,r=.slice A (Xh (L.map (·.1))).length c/\Own Qac 1 9 w.heap.size w' A c (Xh (L.map (·.1)))/\Ext w w':=by
 obtain⟨N,Q,d,e,f⟩:=Qhr { Tryz.keys115 with } g j h i;exact Qd1 Tryz.sorted114 Qx1 (enters_of Tryz.func182 Kr rfl) (enters_of Tryz.func183 Kr rfl) ⟨_,Tryz.func114,rfl,rfl⟩ e d f
def rdStep(r:Int)(f:Bj->List Int)(x:Bj):Bj->List Int:=Qm6 f x (f x++[r])
theorem Xbv(r):∀(l:List Bj) (f:Bj->List Int),l.Nodup->∀x,(l.foldl (rdStep r) f) x=if x∈l then f x++[r] else f x
 |[],f,_,x=>by simp
 |a::l,f,c,x=>by
  rw[Zbp]at c;rw[Zaq,Xbv r l _ c.2 x];unfold rdStep Qm6
  by_cases h:x=a
  .subst h;rw[if_neg c.1,if_pos rfl,if_pos (by simp)]
  .rw[if_neg h]
   by_cases b:x∈l
   .rw[if_pos b,if_pos (by simp[b])]
   .rw[if_neg b,if_neg (by simp[h,b])]
def Q7z(c:Cfg)(z:List Ev)(person:Bj)(now b:Int)(k:Nat)(x:Bj):List Int:=((List.range k).filter fun a=>decide (x∈Qhc c z person now (a:Nat) b)).map fun a=>((a:Nat):Int)
theorem Xbw(c z person now a k x):Q7z c z person now a (k+1) x=if x∈Qhc c z person now (k:Nat) a then Q7z c z person now a k x++[(k:Int)] else Q7z c z person now a k x:=by
 unfold Q7z;rw[Zch,Zq,Zp]
 by_cases h:x∈Qhc c z person now (k:Nat) a
 .rw[if_pos h];simp[h]
 .rw[if_neg h];simp[h]
theorem Xf4(c z person now a k x):(Q7z c z person now a k x).length<=k:=by
 unfold Q7z;rw[Zg];refine Zw (Zc _ _) ?_;simp
def Qit(c:Cfg)(z:List Ev)(person:Bj)(now a:Int):List Bj:=Qci ((List.range 6).flatMap fun b=>Qhc c z person now (b:Nat) a)
theorem Xek{c z person now d x}:x∈Qit c z person now d↔Q7z c z person now d 6 x≠[]:=by
 unfold Qit Q7z;rw[Qaa,Zbh];constructor
 .rintro ⟨a,b,hx⟩ h;have:(a:Int)∈(((List.range 6).filter fun a=>decide (x∈Qhc c z person now (a:Nat) d)).map fun a=>((a:Nat):Int)):=Zh.2 ⟨a,Ze.2 ⟨b,Su hx⟩,rfl⟩;rw[h]at this;cases this
 .intro h;obtain⟨y,g⟩:=List.exists_mem_of_ne_nil _ h;obtain⟨a,b,_⟩:=Zh.1 g;obtain⟨e,f⟩:=Ze.1 b;exact⟨a,e,Su f⟩
theorem Qj2{c z}(a:∀e∈z,Xy e=true){person now b x}(h:x∈Qit c z person now b):Qo x=true/\x∈z.map (·.item):=by
 unfold Qit at h;obtain⟨d,_,hx⟩:=Zbh.1 (Qaa.1 h);exact Qxi a (Xb6 hx)
theorem Qnk{c z}(b:∀e∈z,Xy e=true)(person now a):(Qit c z person now a).length<=z.length:=by
 have h:=Qeg (V:=Qit c z person now a) (Qdi _) fun x hx=>(Qj2 b hx).2
 rw[Zg]at h;exact h
theorem Xdx:Tryz.prog.underlying 208=some (.map 9 146):=by kernel_rfl
theorem Xl2:Qle Tryz.prog 146 212 Qf7 1 8:=⟨by kernel_rfl,⟨_,ty212_ok,rfl,rfl⟩,by212,by decide,by decide,X8,fun x=>by simp[Qf7,Value.oneCell']⟩
abbrev Cd:=Bj×SV
def cdC(x:Cd):List Value:= [.string x.1,.slice x.2.1 x.2.2.1 x.2.2.2]
theorem Q8s(x):(cdC x).length=2:=rfl
theorem Xjw:Qle Tryz.prog 144 148 cdC 2 40:=⟨by kernel_rfl,⟨_,ty148_ok,rfl,rfl⟩,by148,by decide,by decide,Q8s,fun x=>by simp[cdC,Value.oneCell']⟩
structure Xmo(c:Cfg)(z:List Ev)(person:Bj)(now limit:Int)(n:Nat)(T':Nat->Prop)(w':World)(A:Option Addr)(H:List Cd):Prop where
 sl:Sl cdC 2 w' A H
 keys:H.map (·.1)=Qit c z person now limit
 row:∀d∈H,d.2.2.1=(Q7z c z person now limit 6 d.1).length/\SlI w' d.2.1 (Q7z c z person now limit 6 d.1)/\∀a,d.2.1=some a->n<=a.block/\¬T' a.block
 new:∀a,A=some a->n<=a.block/\¬T' a.block
set_option maxHeartbeats 8000000 in
theorem Q9g{St w T n0 p c z}(D:PSt St n0 p c z)(h:St T w)(b9:Qqm c z)(bz:(Qhd c z).length<1000)(person:Bj)(now o)(c9:o<=9223372036854775807) :
 Cal Tryz.prog 61 [Pj p,.string person,Vj now,Vj o] w fun r w'=>∃A cp H a8,r=.slice A H.length cp/\Xmo c z person now o w.heap.size a8 w' A H/\St a8 w'/\(∀k,a8 k->T k\/w.heap.size<=k)/\Mod T w w':=by
 have d2:=D.low h;have c5:=D.lt h;have bm:∀e∈z,Xy e=true:=(by obtain⟨v,du,cx⟩:=D.wq h;exact cx.may);have ch:∀x∈Qit c z person now o,x.size<=1000000:=fun x hx=>(by have:=Qcg (Qj2 bm hx).1;omega)
 have b4:=Qnk (c:=c) bm person now o;have d4:=b9.len;replace b4:(Qit c z person now o).length<1000000:=Om;refine Fi Tryz.func61 rfl _ rfl rfl (Hh ?_);intro s ck al;have dv:=al.block;have ay:Qbu Qf7 1 212 ck (fun k=>k=s) s (fun _=>([]:List Int)) []:=Qbu.new al rfl;have bq:=al.ext;have d6:=al.size;clear al;refine Gg ?_;refine(Qyl ck).mono ?_;rintro _ cm ⟨bw,rfl,_,au⟩;have d7:=au.size;replace ay:Qbu Qf7 1 212 cm (fun k=>k=s) s (fun _=>([]:List Int)) []:=ay.keep fun k R m=>⟨au.block k R,m⟩
 have bs:=D.ext h (bq.trans au);have bv:Mod T w cm:=Mod.of_ext (bq.trans au);refine Gg ?_
 refine Qh Qb (fun(q:Nat×(Nat->Prop)×(Nat->Prop)×(Bj->List Int)×List (Bj×(Option Addr×Nat))) w'=>q.1<=6/\(∀x,q.2.2.2.1 x=Q7z c z person now o q.1 x)/\Qbu Qf7 1 212 w' q.2.2.1 s q.2.2.2.1 q.2.2.2.2/\(∀k,q.2.2.1 k->w.heap.size<=k/\k<w'.heap.size/\¬q.2.1 k)/\St q.2.1 w'/\(∀k,q.2.1 k->T k\/w.heap.size<=k)/\Mod T w w')
  (fun|(k,_)=>[(0,Pj p),(1,.string person),(2,Vj now),(3,Vj o),(9,.map (some s)),(18,Vj 6),(19,Vj (k:Nat))]) (fun q=>6-q.1) (0,T,(fun k=>k=s),(fun _=>[]),[]) ⟨Zt _,fun x=>rfl,ay,fun k R=>by subst R;exact⟨Om,Om,fun c1=>by have:=c5 _ c1;omega⟩,bs,fun k R=>.inl R,bv⟩ Rr ?_
 clear ay bs bv bq au;rintro ⟨k,cu,N,f,L⟩ dp ⟨R,ab,O,F,ai,ah,av⟩;simp only at R ab O F ai ah;have d8:=av.size;refine Gg ?_;constructor
 .intro W;have W:k<6:=(by have:(k:Int)<6:=Su W;omega);refine Gg ?_;refine(Xfs D ai b9 k person now o c9).mono ?_;rintro _ wb ⟨A,cp,af,rfl,U,dx,b1,bh,aw⟩;have d9:=aw.size;have c3:=D.lt b1;have bx:Qbu Qf7 1 212 wb N s f L:=O.keep fun i b m=>⟨aw.block i b (F i m).2.2,m⟩
  have b0:∀i,N i->¬af i:=fun i m Y=>by
   rcases bh i Y with q|q
   .exact(F i m).2.2 q
   .have:=(F i m).2.1;omega
  have c4:∀i,af i->T i\/w.heap.size<=i:=fun i Y=>by
   rcases bh i Y with q|q
   .exact ah i q
   .exact .inr Om
  have cw:Mod T w wb:=Qn av (aw.mono fun i _ b=>ah i b);have bo:=Q0l bz person now (k:Nat) o;have cg:=Xbw c z person now o k;have c7:∀x,(f x).length<=6:=fun x=>by rw[ab];have:=Xf4 c z person now o k x;omega
  have ar:=U.sl Qv;have cv:∀a,A=some a->¬N a.block:=fun a V m=>by have:=(F _ m).2.1;have:=(U.block V).1;omega
  have cy:(Qhc c z person now (k:Nat) o).length<1000000:=by have:=Xb4 bm bz person now (k:Nat) o;omega
  generalize Qhc c z person now (k:Nat) o=Q at U bo cg ar cy⊢;clear O ai ah bh av aw U;refine Gg ?_
  refine Qh Qb (fun(q:Nat×(Nat->Prop)×(Bj->List Int)×List (Bj×(Option Addr×Nat))) w'=>q.1<=Q.length/\q.2.2.1=(Q.take q.1).foldl (rdStep k) f/\Qbu Qf7 1 212 w' q.2.1 s q.2.2.1 q.2.2.2/\(∀i,q.2.1 i->w.heap.size<=i/\i<w'.heap.size/\¬af i)/\(∀i,q.2.1 i->i<wb.heap.size->N i)/\(∀i,i<wb.heap.size->¬N i->w'.heap[i]?=wb.heap[i]?)/\Mod (fun i=>w.heap.size<=i) wb w')
   (fun|(j,_)=>[(0,Pj p),(1,.string person),(2,Vj now),(3,Vj o),(9,.map (some s)),(10,Vj (k:Nat)),(18,Vj 6),(19,Vj (k:Nat)),(27,.slice A Q.length cp),(28,Vj Q.length),(29,Vj (j:Nat))]) (fun q=>Q.length-q.1) (0,N,f,L) ⟨Zt _,rfl,bx,fun i b=>⟨(F i b).1,by have:=(F i b).2.1;omega,b0 i b⟩,fun i b _=>b,fun i _ _=>rfl,Mod.refl _ _⟩ Rr ?_
  clear bx;rintro ⟨j,S,g,ae⟩ M ⟨bk,ak,C,ag,bg,bl,bd⟩;simp only at bk ak C ag bg;have dt:=bd.size
  have c8:∀x,(g x).length<=7:=fun x=>by
   rw[ak,Xbv _ _ _ (bo.sublist (Zc8 _ _))];have:=c7 x;split
   .rw[Zo];simp;omega
   .omega
  refine Gg ?_;constructor
  .intro a0;have a0:j<Q.length:=Su a0;have df:SlT M A Q:=Xp.stay ar fun a V da=>bl _ da (cv a V)
   obtain⟨ax,a9,aj⟩:=df.get a0;have J:(Q.take (j+1)).foldl (rdStep k) f=rdStep k g Q[j]:=by rw[Za a0,Zv,<- ak];rfl
   generalize Q[j]=x at aj J;refine Gg ?_;refine⟨ax,⟨a9,Om,Om⟩,Gg ?_⟩;refine⟨.string x,Qp aj,Gg ?_⟩;refine⟨_,C.look Xdx Xd (e:=ty146) ty146_ok rfl x Qs,Gg ?_⟩;intro be dr u;refine Gg ?_;have cc:=C.own x;have d1:=c8 x;have d0:=C.map.lt;have ea:=u.ext.size;have eb:=u.size;refine Qq Xl2 (l:=g x) (news:= [(k:Int)]) rfl (cc.1.ext u.ext) rfl (Xl2.new1 (x:=(k:Int)) u) (by simp;omega) (Zt _) fun a5 cf wf ao I bt=>?_
   have cb:∀i,(rowAt ae x).1.map (·.block)=some i->S i/\i≠s:=fun i b=>by
    cases aq:(rowAt ae x).1 with
    |none=>rw[aq]at b;simp at b
    |some a=>rw[aq]at b;simp at b;subst b;exact cc.2 a aq
   have dc:MapAt wf s Value.string (toV g ae):=(C.map.ext u.ext).keep (I.block s (C.map.ext u.ext).lt fun e=>(cb s e.symm).2 rfl);have ec:=I.size;generalize cd:g x++[(k:Int)]=row at ao⊢;have de:row≠[]:=by rw[<- cd];simp
   refine Gg ?_;refine Qx Xdx (Qr Xd) dc x _ fun cn dd ac=>?_
   have ca:=C.push (k:=x) (r:=row) de u.ext I bt ao dd ac;have ed:=ac.size;have dh:Qm6 g x row=(Q.take (j+1)).foldl (rdStep k) f:=by rw[J,<- cd];rfl
   rw[dh]at ca;have c0:S s:=C.mine;have b3:∀i,i<M.heap.size->¬S i->cn.heap[i]?=M.heap[i]? := fun i b m=>(by rw[ac.block i (fun e=>m (by rw[e];exact c0)),I.block i Om (fun e=>m (cb i e.symm).1)];exact u.ext.block i b)
   refine Gg ?_;refine⟨_,wrap_succ Om,Gg ?_⟩;refine⟨(j+1,(fun i=>Grow S M i/\i<cn.heap.size),(Q.take (j+1)).foldl (rdStep k) f,Xe ae x (a5,cf)),Sj,⟨Sj,rfl,ca.keep fun i b m=>⟨rfl,m,b⟩,fun i b=>?_,fun i b db=>?_,fun i b m=>?_,?_⟩,Rr⟩
   .obtain⟨E,b6⟩:=b;rcases E with E|E
    .exact⟨(ag i E).1,b6,(ag i E).2.2⟩
    .exact⟨Om,b6,fun Y=>by have:=c3 i Y;omega⟩
   .obtain⟨E,_⟩:=b;rcases E with E|E
    .exact bg i E db
    .omega
   .rw[b3 i Om (fun h=>m (bg i h b))];exact bl i b m
   .refine bd.trans ⟨by rw[ac.os,I.os,u.ext.os],by rw[ac.tape,I.tape,u.ext.tape],by rw[ac.output,I.output,u.ext.output],Om,fun i b m=>b3 i b fun h=>m (ag i h).1⟩
  .intro bj;have bj:Q.length<=j:=Su bj;rw[Zd bj]at ak;have hfin:∀x,g x=Q7z c z person now o (k+1) x:=fun x=>by rw[ak,Xbv _ _ _ bo,cg,ab]
   have bi:St af M:=D.keep b1 fun i b c6=>bl i b fun m=>by
    rcases c6 with q|q
    .exact b0 i m q
    .have:=(F i m).1;omega
   refine Gg ?_;refine⟨_,wrap_succ Om,Gg ?_⟩;refine⟨(k+1,af,S,g,ae),Sj,⟨Sj,hfin,C,ag,bi,c4,?_⟩,Rr⟩;exact Qn cw (bd.mono fun i _ b=>.inr b)
 intro P;have P:k=6:=(by have:¬(k:Int)<6:=Su P;omega);subst P;have bp:(toV f L).map (·.1)=L.map (·.1):=by unfold toV;rw[Zz];rfl
 have b7:=Qah O.keys
 have a3:∀x,x∈L.map (·.1)↔x∈Qit c z person now o:=fun x=>by
  rw[Xek,<- ab x];constructor
  .intro hx;obtain⟨y,dj,rfl⟩:=Zh.1 hx;exact O.ne y dj
  .intro hx;rw[Qnp]
   cases aq:Qe L x with
   |none=>exact absurd (O.all x aq) hx
   |some v=>rfl
 have bb:Xh (L.map (·.1))=Qit c z person now o:=(by unfold Qit at a3⊢;exact Qh4 b7 fun x=>(a3 x).trans Qaa);have dz:L.length=(Qit c z person now o).length:=by rw[<- bb,(Qbt _).length_eq,Zg]
 refine Gg ?_;refine(Q5h (some s) dp).mono ?_;rintro _ wb ⟨rfl,b2,br⟩;refine Gg ?_;refine(Qx0 b2 (O.map.ext br) (fun x hx=>?_) (by rw[show (toV f L).length=L.length by simp[toV]];omega)).mono ?_
 .refine ch x.1 ((a3 x.1).1 ?_);rw[<- bp];exact Zh.2 ⟨x,hx,rfl⟩
 rintro _ M ⟨A,cp,rfl,U,cj⟩;rw[bp,bb]at U⊢;have a4:=br.trans cj;have C:Qbu Qf7 1 212 M N s f L:=O.keep fun i b m=>⟨a4.block i b,m⟩
 have ar:=U.sl Qv;obtain⟨K,bu⟩:∃K,K=Qit c z person now o:=⟨_,rfl⟩;rw[<- bu]at ar b4⊢;have bi:=D.ext ai a4;have dt:=a4.size;have c2:=D.lt ai;clear U a3 bb bp b7 b2 br cj ch P R;refine Gg ?_
 refine Qh Qb (fun(q:Nat×Option Addr×Nat×List Cd) w'=>q.1<=K.length/\Ext M w'/\q.2.2.2=(K.take q.1).map (fun x=>((x,((rowAt L x).1,(f x).length,(rowAt L x).2)):Cd))/\Own cdC 2 148 M.heap.size w' q.2.1 q.2.2.1 q.2.2.2)
  (fun|(j,B,d,H)=>[(9,.map (some s)),(13,.slice B H.length d),(45,.slice A K.length cp),(46,Vj K.length),(47,Vj (j:Nat))]) (fun q=>K.length-q.1) (0,none,0,[]) ⟨Zt _,Ext.refl _,rfl,Own.nil⟩ Rr ?_
 rintro ⟨j,B,d,H⟩ dq ⟨bk,Z,aa,an⟩;simp only at bk aa an;have dy:H.length<=j:=by rw[aa,Zg,Zn];omega
 refine Gg ?_;constructor
 .intro W;have W:j<K.length:=Su W;obtain⟨ax,a9,aj⟩:=(ar.ext Z).get W;have J:(K.take (j+1)).map (fun x=>((x,((rowAt L x).1,(f x).length,(rowAt L x).2)):Cd))=H++[(K[j],((rowAt L K[j]).1,(f K[j]).length,(rowAt L K[j]).2))]:=by rw[Za W,Zp,aa];rfl
  generalize K[j]=x at aj J;have cz:Qbu Qf7 1 212 dq N s f L:=C.keep fun i b m=>⟨Z.block i b,m⟩
  have az:=cz.look Xdx Xd (e:=ty146) ty146_ok rfl x (cl:= .same) Qs;generalize d3:(f x).length=n at az J;generalize (rowAt L x).1=a7 at az J;generalize (rowAt L x).2=cr at az J;refine Gg ?_;refine⟨ax,⟨a9,Om,Om⟩,Gg ?_⟩;refine⟨.string x,Qp aj,Gg ?_⟩;refine⟨_,az,Gg ?_⟩;intro be dr u;refine Gg ?_;refine Qq Xjw (l:=H) (news:= [(x,(a7,n,cr))]) rfl (an.ext u.ext) rfl (Xjw.new1 (x:=(x,(a7,n,cr))) u) (by simp;omega) (Z.trans u.ext).size fun a5 cf wf ao I bt=>?_
  have di:=Qu (Z.trans u.ext) I (Xm (an.ext u.ext));generalize H++[(x,(a7,n,cr))]=cq at ao J⊢;refine Gg ?_;refine⟨_,wrap_succ Om,Gg ?_⟩;exact⟨(j+1,a5,cf,cq),Sj,⟨Sj,di,J.symm,ao⟩,Rr⟩
 intro P;have P:K.length<=j:=Su P;rw[Zd P]at aa;refine Gg ?_;refine⟨B,d,H,cu,rfl,⟨an.sl Q8s,?_,fun e b5=>?_,fun a V=>?_⟩,D.ext bi Z,ah,av.trans (Mod.of_ext (a4.trans Z))⟩
 .rw[aa,<- bu,Zz]
  conv=>rhs;rw[<- List.map_id K]
  rfl
 .rw[aa]at b5;obtain⟨x,_,rfl⟩:=Zh.1 b5;have b8:=C.own x;refine⟨by rw[<- ab x],?_,fun a V=>?_⟩
  .rw[<- ab x];exact(b8.1.ext Z).sl X8
  .obtain⟨dk,d5,dm⟩:=F _ (b8.2 a V).1;exact⟨dk,dm⟩
 .have dw:=(an.block V).1;exact⟨Om,fun Y=>by have:=c2 _ Y;omega⟩
