import Derived.Test.YtnpacgccajekgaaGreatDoorGYC
set_option linter.all false
namespace Go.Proofs.YtnpacgccajekgaaGreatDoor
open Go.Se Go.RowKit Go.Sort
structure SsR(Ss:List Sn):Prop where
 len:Ss.length<1000
 items:(Qmj Ss).length<1000
 near:∀a,(Qew Ss a).length<=1000
 name:∀a,∀x∈Qew Ss a,x.size<=1000000
theorem Xa5{Ss}(floor a)(K:List Bj)(k)(d:k<K.length)(f:List Bj->List Nr)(c:f=fun K=>(K.filter fun b=>decide (floor<=(Qd6 Ss a b:Int))).map fun b=>(b,Qha Ss a b)) :
 f (K.take (k+1))=f (K.take k)++if floor<=(Qd6 Ss a K[k]:Int) then [(K[k],Qha Ss a K[k])] else []:=by
 subst c;rw[Za d];simp only[Zq,Zp];congr 1
 by_cases h:floor<=(Qd6 Ss a K[k]:Int)
 .simp[h]
 .simp[h]
set_option maxHeartbeats 1000000 in
theorem Q5i(w S p Ss)(h:Qb2 w S p Ss)(z:SsR Ss)(a:Bj)(floor) :
 Cal Tryz.prog 308 [Pj p,.string a,Vj floor] w fun r w'=>∃A c,r=.slice A (Qhb Ss floor a).length c/\Sl nrC 3 w' A (Qhb Ss floor a)/\(Qhb Ss floor a).length<=1000/\(∀b,A=some b->w.heap.size<=b.block)/\Ext w w':=by
 have O:=z.near a;have v:(Qhb Ss floor a).length<=1000:=(by unfold Qhb;rw[Zg];exact Zw (Zc _ _) O);refine Fi Tryz.func308 rfl _ rfl rfl (Hh ?_);refine(Q55 w S p Ss h a (z.name a) Om).mono ?_;rintro _ V ⟨A,c,rfl,R,_,E⟩;have N:∀b∈Qew Ss a,a≠b:=fun b n=>(by unfold Qew at n;rw[Qaa]at n;exact(Qtz.1 n).1)
 obtain⟨f,o⟩:∃f:List Bj->List Nr,f=fun K=>(K.filter fun b=>decide (floor<=(Qd6 Ss a b:Int))).map fun b=>(b,Qha Ss a b):=⟨_,rfl⟩
 have ae:∀K,(f K).length<=K.length:=fun K=>(by rw[o];simp only[Zg];exact Zc _ _)
 have M:Qhb Ss floor a=f (Qew Ss a):=by rw[o];rfl
 have U:=fun k D=>Xa5 (Ss:=Ss) floor a (Qew Ss a) k D f o
 have ac:f []=[]:=by rw[o];rfl
 rw[M]at v⊢;clear M o;generalize Qew Ss a=K at R O N U v⊢;refine Gg ?_
 refine Qh Qb (fun(x:Nat×Option Addr×Nat×List Nr) w'=>x.1<=K.length/\Ext V w'/\x.2.2.2=f (K.take x.1)/\Own nrC 3 355 V.heap.size w' x.2.1 x.2.2.1 x.2.2.2)
  (fun|(k,B,d,F)=>[(0,Pj p),(1,.string a),(2,Vj floor),(7,.slice B F.length d),(12,.slice A K.length c),(13,Vj K.length),(14,Vj (k:Nat))]) (fun x=>K.length-x.1) (0,none,0,[]) ⟨Zt _,Ext.refl _,by rw[List.take_zero];exact ac.symm,Own.nil⟩ Rr ?_
 rintro ⟨k,B,d,F⟩ ai ⟨D,j,m,i⟩;simp only at D m i;have al:F.length<=k:=(by rw[m];refine Zw (ae _) ?_;rw[Zn];omega);refine Gg ?_;constructor
 .intro s;have s:k<K.length:=Su s;obtain⟨Z,ab,L⟩:=(R.ext j).get s;subst ab;have e:=U k s;rw[<- m]at e;have J:=N K[k] (Zu s);generalize K[k]=b at L e J;have I:=h.ext (E.trans j);refine Gg ?_;refine⟨Z,Ix,Gg ?_⟩;refine⟨.string b,Qp L,Gg ?_⟩;refine(Qpp ai S p Ss I a b J).mono ?_;rintro _ wb ⟨rfl,ag⟩;subst ag;refine Gg ?_;constructor
  .intro g;have g:floor<=(Qd6 Ss a b:Int):=Su g;rw[if_pos g]at e;refine Gg ?_;refine(Qpe wb S p Ss I a b z.len).mono ?_;rintro _ an ⟨rfl,y⟩;generalize Qha Ss a b=H at e⊢;refine Gg ?_;intro aj ao u;refine Gg ?_;refine Qq Q0o (l:=F) (news:= [(b,H)]) rfl ((i.ext y).ext u.ext) rfl (Q0o.new1 (x:=(b,H)) u) (by simp;omega) ((j.trans y).trans u.ext).size fun W aa wf P af ak=>?_
   have ah:=Qu ((j.trans y).trans u.ext) af (Xm ((i.ext y).ext u.ext));generalize F++[(b,H)]=Y at P e⊢;refine Gg ?_;refine⟨_,wrap_succ Om,Gg ?_⟩;exact⟨(k+1,W,aa,Y),Sj,⟨Sj,ah,e.symm,P⟩,Rr⟩
  .intro g;have g:¬floor<=(Qd6 Ss a b:Int):=Su g;rw[if_neg g,Z4]at e;refine Gg ?_;refine⟨_,wrap_succ Om,Gg ?_⟩;exact⟨(k+1,B,d,F),Sj,⟨Sj,j,e.symm,i⟩,Rr⟩
 intro C;have C:K.length<=k:=Su C;rw[Zd C]at m;rw[<- m]at v⊢;refine Gg ?_;exact⟨B,d,rfl,i.sl Qt6,v,fun b n=>Zw E.size (i.block n).1,E.trans j⟩
theorem Xke:Tryz.prog.underlying 427=some (.map 9 247):=by kernel_rfl
theorem Q7k{vs L:List Nr}(h:(Xj Qns vs).Perm (Xj Qns L)):vs.Perm L:=by
 have c:=h.map (fun x:Bj×Value=>((x.1,match x.2 with|.agg cs=>(match cs.toList with|[.int _ a,.int _ b]=>(a,b)|_=>(0,0))|_=>(0,0)):Nr));simpa [Xj,Zz,Function.comp_def,Qns,Qmv] using c
theorem Q4d{Ss floor K}:∀x∈Qof Ss floor K,x.1∈Qmj Ss:=by
 have h:=Qj0 (K:=K) (Q:=fun x=>x.1∈Qmj Ss) (K.flatMap (Qhb Ss floor)) [] (by simp) (by simp) (fun x hx=>by
  obtain⟨a,_,hx⟩:=Zbh.1 hx;unfold Qhb at hx;obtain⟨b,c,rfl⟩:=Zh.1 hx;have c:=(Ze.1 c).1;unfold Qew at c;rw[Qaa]at c;unfold Qmj;rw[Qaa];exact(Ze.1 c).1)
 exact fun x hx=>(h.2 x hx).2
theorem Q15{Ss}(a:SsR Ss)(floor K):(Qof Ss floor K).length<1000:=by
 have b:=Qeg (Qyy a.len floor K).1 (E:=Qmj Ss) fun x hx=>(by obtain⟨y,c,rfl⟩:=Zh.1 hx;exact Q4d y c)
 rw[Zg]at b;have:=a.items;omega
set_option maxHeartbeats 4000000 in
theorem Q38(w S p Ss)(h:Qb2 w S p Ss)(af:SsR Ss)(items A c)(a8:SlT w A items)(be:∀a,A=some a->a.block<w.heap.size/\a.spot=none)(bq:items.length<1000000)(n)(eu:0<=n/\n<=9223372036854775807)(floor) :
 Cal Tryz.prog 235 [Pj p,.slice A items.length c,Vj n,Vj floor] w fun r w'=>∃cg ck,r=.slice cg (((Q79 Ss floor items).map (·.1)).take n.toNat).length ck/\Own nrC 3 355 w.heap.size w' cg ck (((Q79 Ss floor items).map (·.1)).take n.toNat)/\(Q79 Ss floor items).length<1000/\Ext w w':=by
 refine Fi Tryz.func235 rfl _ rfl rfl (Hh ?_);refine(Qm7 A items.length c w).mono ?_;rintro _ d1 ⟨b1,rfl,eg,aj⟩;refine Gg ?_;refine(Qm2 d1 b1 A c items eg (a8.ext aj) (fun a Y=>⟨Zat (be a Y).1 aj.size,(be a Y).2⟩) bq).mono ?_;rintro _ fc ⟨O,V,di,dc,dt⟩;have dm:(Xh items).length=items.length:=(Qbt _).length_eq;rw[<- dm]at di;subst di;refine Gg ?_;refine(Q4t items O V d1.heap.size fc dc bq).mono ?_;rintro _ cd ⟨rfl,dj,du⟩;have b0:Ext w cd:=du w (aj.trans dt) aj.size;have cu:Srt bLt (Qci items):=Qgg _;have cq:(Qci items).length<1000000:=Zbw (Qnt items) bq;have bm:∀F:List NrS,(F.map (·.1)).Perm (Qof Ss floor (Qci items))->Srt (ltOf Qj5) F->F=Q79 Ss floor items:=fun F s ac=>Xk2 af.len s ac
 have bj:∀F:List NrS,(F.map (·.1)).Perm (Qof Ss floor (Qci items))->F.length<1000:=fun F s=>(by have:=s.length_eq;rw[Zg]at this;have ac:=Q15 af floor (Qci items);omega)
 clear aj dt du dc a8 be dm;generalize Qci items=K at dj cu cq bm bj⊢;refine Gg ?_;intro f L az;have c7:MapAt L f Value.string (Xj Qns ([]:List Nr)):=MapAt.new az;have e4:=az.block;have fq:=b0.size;have b3:=az.ext;clear az;have c3:∀{w':World},Mod (fun i=>i=f) L w'->∀i,i<cd.heap.size->w'.heap[i]?=cd.heap[i]? := fun ae i C=>(ae.block i (by have:=b3.size;omega) Om).trans (b3.block i C)
 have cv:∀{w':World},Mod (fun i=>i=f) L w'->SlT w' O K:=fun ae=>Xp.stay dj fun a _ D=>c3 ae _ D
 have ef:∀{w':World},Mod (fun i=>i=f) L w'->Qb2 w' S p Ss:=fun ae=>h.keep fun i C a8=>⟨(c3 ae i Om).trans (b0.block i C),a8⟩
 have eb:Mod (fun i=>i=f) L L:=Mod.refl _ _;refine Gg ?_
 refine Qh Qb (fun(q:Nat×List Nr) w'=>q.1<=K.length/\Mod (fun i=>i=f) L w'/\q.2=((K.take q.1).flatMap (Qhb Ss floor)).foldl (Qd8 K) []/\(∀x∈q.2,Qq8 x)/\MapAt w' f Value.string (Xj Qns q.2))
  (fun|(k,_)=>[(0,Pj p),(2,Vj n),(3,Vj floor),(9,.slice O K.length V),(10,.map (some f)),(27,.slice O K.length V),(28,Vj K.length),(29,Vj (k:Nat))]) (fun q=>K.length-q.1) (0,[]) ⟨Zt _,eb,rfl,by simp,c7⟩ Rr ?_
 clear c7;rintro ⟨k,m⟩ bd ⟨ep,W,Z,E,g⟩;simp only at ep Z E g;refine Gg ?_;constructor
 .intro D;have D:k<K.length:=Su D;obtain⟨ax,cm,bl⟩:=(cv W).get D;have bz:((K.take (k+1)).flatMap (Qhb Ss floor)).foldl (Qd8 K) []=(Qhb Ss floor K[k]).foldl (Qd8 K) m:=(by rw[Za D,Zbn,Zv,<- Z];simp);generalize K[k]=a at bl bz;refine Gg ?_;refine⟨ax,⟨cm,Om,Om⟩,Gg ?_⟩;refine⟨.string a,Qp bl,Gg ?_⟩;refine(Q5i bd S p Ss (ef W) af a floor).mono ?_;rintro _ wb ⟨ch,c5,rfl,dk,ee,d7,b4⟩;have eh:f<bd.heap.size:=g.lt;have cy:∀x∈Qhb Ss floor a,Qq8 x:=Xa3 af.len;have cw:=W.trans (Mod.of_ext (S:=fun i=>i=f) b4);replace g:=g.ext b4;generalize Qhb Ss floor a=N at dk ee cy bz⊢;have fi:f<wb.heap.size:=g.lt;have e2:∀w':World,w'.heap.size=w'.heap.size:=fun _=>rfl
  clear Z W b4 bl cm e2;refine Gg ?_
  refine Qh Qb (fun(q:Nat×List Nr) w'=>q.1<=N.length/\Mod (fun i=>i=f) L w'/\(∀i,i<wb.heap.size->i≠f->w'.heap[i]?=wb.heap[i]?)/\wb.heap.size<=w'.heap.size/\q.2=(N.take q.1).foldl (Qd8 K) m/\(∀x∈q.2,Qq8 x)/\MapAt w' f Value.string (Xj Qns q.2))
   (fun|(j,_)=>[(0,Pj p),(2,Vj n),(3,Vj floor),(9,.slice O K.length V),(10,.map (some f)),(27,.slice O K.length V),(28,Vj K.length),(29,Vj (k:Nat)),(36,.slice ch N.length c5),(37,Vj N.length),(38,Vj (j:Nat))]) (fun q=>N.length-q.1) (0,m) ⟨Zt _,cw,fun i _ _=>rfl,Zf _,rfl,E,g⟩ Rr ?_
  clear g cw E;rintro ⟨j,z⟩ d2 ⟨ag,ar,br,dz,aw,E,g⟩;simp only at ag aw E g;refine Gg ?_;constructor
  .intro ah;have ah:j<N.length:=Su ah;have e1:Sl nrC 3 d2 ch N:=Q0o.stay dk fun a Y D=>br _ D (by have:=d7 a Y;omega)
   obtain⟨ay,d8,cz⟩:=e1.get ah;have R:(N.take (j+1)).foldl (Qd8 K) m=Qd8 K z N[j]:=(by rw[Za ah,Zv,<- aw];rfl);have ca:=cy N[j] (Zu ah);generalize N[j]=x at cz R ca;refine Gg ?_;refine⟨ay,⟨d8,Om,Om⟩,Gg ?_⟩;refine⟨nrC x,⟨rfl,cz⟩,Gg ?_⟩;intro b7 fv a0;refine Gg ?_;refine Qc Qb (e:=ty355) rfl a0.At rfl rfl rfl (Qt7 x) fun cf u da=>?_
   have u:At cf b7 355 (nrC x):=u;have dx:Ext d2 cf:=da.ext a0.ext (by rw[a0.block];exact Zf _);clear da a0;refine Gg ?_;refine⟨.string x.1,u.one rfl,Gg ?_⟩;obtain⟨o,I⟩:∃o,o=(Qe z x.1).getD (0,0):=⟨_,rfl⟩;obtain⟨ok,J⟩:∃ok,ok=(Qe z x.1).isSome:=⟨_,rfl⟩;have bs:=Qph Xke (Qr Xd) (e:=ty247) ty247_ok (cl:= .same) Qs (g.ext dx) x.1;rw[show ty247.zero=Qns (0,0) from rfl,Xt,Qlf,Option.isSome_map,<- I,<- J]at bs;have ew:ok=true->Qld 100000000 o:=fun s=>(by rw[J]at s;obtain⟨v,dp⟩:=Zcj.1 s;rw[dp]at I;rw[I];exact E (x.1,v) (Qax dp))
   have ei:x.1∉K->Qd8 K z x=if ok=false\/Qxg o x.2=true then Xe z x.1 x.2 else z:=fun e7=>by
    unfold Qd8;rw[if_neg e7]
    cases H:Qe z x.1 with
    |none =>
     rw[H]at J;rw[if_pos (.inl J)]
    |some v =>
     rw[H]at J I;have J:ok=true:=J;have I:o=v:=I;subst I;rw[J];simp
   refine⟨_,bs,Gg ?_⟩;clear bs;intro b9 fw a3;refine Gg ?_;refine Qc Qb (e:=ty247) rfl a3.At rfl rfl rfl (Qkt o) fun cb ab c9=>?_
   have ab:At cb b9 247 (Qmv o):=ab;have dv:Ext cf cb:=c9.ext a3.ext (by rw[a3.block];exact Zf _);clear c9 a3;replace u:=u.ext dv;have dw:=dx.trans dv;refine Gg ?_;refine⟨.string x.1,u.one rfl,Gg ?_⟩;have ec:=ar.trans (Mod.of_ext (S:=fun i=>i=f) dw);refine(Q8g K cu O V x.1 cb cq (cv ec)).mono ?_;rintro _ U ⟨⟨fp,rfl⟩,b2⟩;replace u:=u.ext b2;replace ab:=ab.ext b2;have ak:=dw.trans b2;have ed:=ar.trans (Mod.of_ext (S:=fun i=>i=f) ak);have et:=g.ext ak;have er:∀i,i<wb.heap.size->i≠f->U.heap[i]?=wb.heap[i]? := fun i C aa=>(ak.block i Om).trans (br i C aa)
   have fb:wb.heap.size<=U.heap.size:=Zw dz ak.size;refine Gg ?_;constructor
   .intro H;have H:x.1∈K:=Su H;have e3:Qd8 K z x=z:=by unfold Qd8;rw[if_pos H]
    refine Gg ?_;refine⟨_,wrap_succ Om,Gg ?_⟩;exact⟨(j+1,z),Sj,⟨Sj,ed,er,fb,by rw[R,e3],E,et⟩,Rr⟩
   .intro H;have H:x.1∉K:=Su H;rw[ei H]at R;have bk:=Q2d (a:=x.2) (b:=o);refine Gg ?_;refine⟨Qmv x.2,fun _=>⟨rfl,Qst u 1 fun j v ag=>by rw[Zdc];exact ag⟩,Gg ?_⟩;refine⟨Qmv o,fun _=>⟨rfl,ab.all⟩,Gg ?_⟩;have ej:Qld 100000000 o->Cal Tryz.prog 310 [Qns x.2,Qns o] U fun r w'=>r=Vj (Qqo x.2 o)/\Ext U w':=fun I=>(Qef (N:=100000000) Om x.2 o ca I U).mono fun r w' h=>⟨h.1,h.2.ext⟩
    refine⟨Unit,fun _=>(Vj (Qqo x.2 o)),fun _ w'=>Ext U w',(),fun fk=>((ej (ew (by cases ok<;>simp_all)))).mono fun r w' h=>⟨(),h.1,h.2⟩,?_⟩;intro _ cc ac
    have dr:Ext U cc:=by
     rcases ac with⟨_,h⟩|⟨_,h⟩
     .exact h
     .rw[h];exact Ext.refl _
    clear ac;refine Hh ?_;replace u:=u.ext dr;have a9:=ak.trans dr;have cx:=ar.trans (Mod.of_ext (S:=fun i=>i=f) a9);have c8:=g.ext a9;have c2:∀i,i<wb.heap.size->i≠f->cc.heap[i]?=wb.heap[i]? := fun i C aa=>(a9.block i Om).trans (br i C aa)
    have d0:wb.heap.size<=cc.heap.size:=Zw dz a9.size;generalize Qqo x.2 o=cr at bk⊢;refine Gg ?_;constructor
    .intro ai;have ai:ok=false\/Qxg o x.2=true:=(by rw[<- bk];cases ok<;>simp_all);rw[if_pos ai]at R;refine Gg ?_;refine⟨.string x.1,u.one rfl,Gg ?_⟩;refine⟨Qmv x.2,⟨rfl,Qst u 1 fun j v ag=>by rw[Zdc];exact ag⟩,Gg ?_⟩;refine Qx Xke (Qr Xd) c8 x.1 (Qns x.2) fun fu c4 bu=>?_
     rw[Xc]at c4;refine Gg ?_;refine⟨_,wrap_succ Om,Gg ?_⟩;refine⟨(j+1,Xe z x.1 x.2),Sj,⟨Sj,cx.trans (Qj bu rfl),fun i C aa=>(bu.block i aa).trans (c2 i C aa),by rw[bu.size];exact d0,R.symm,fun y al=>?_,c4⟩,Rr⟩;rcases Qby al with s|s
     .rw[s];exact ca
     .exact E y s
    .intro ai;have ai:¬(ok=false\/Qxg o x.2=true):=(by rw[<- bk];cases ok<;>simp_all);rw[if_neg ai]at R;refine Gg ?_;refine⟨_,wrap_succ Om,Gg ?_⟩;exact⟨(j+1,z),Sj,⟨Sj,cx,c2,d0,R.symm,E,c8⟩,Rr⟩
  .intro bo;have bo:N.length<=j:=Su bo;rw[Zd bo]at aw;refine Gg ?_;refine⟨_,wrap_succ Om,Gg ?_⟩;exact⟨(k+1,z),Sj,⟨Sj,ar,by simp only;rw[bz,aw],E,g⟩,Rr⟩
 intro au;have au:K.length<=k:=Su au;rw[Zd au]at Z;have bt:m=Qof Ss floor K:=Z;have fl:m.length<1000:=by rw[bt];exact Q15 af floor K
 rw[<- bt]at bm bj;clear Z bt au;have eh:=g.lt;have bb:Ext w bd:=Qcu (b0.trans b3) (T:=fun i=>i=f) (fun i C=>Om) W;refine Gg ?_;refine map_range Xke g fun M hid b5=>?_
 generalize ez:bd.heap.size=r at hid⊢;refine Gg ?_
 refine Qh Qb (fun(q:List (Bj×Value)×Option Addr×Nat×List Nr) w'=>Ext w w'/\Iter w' r f Value.string (Xj Qns m) q.1/\Xj Qns q.2.2.2=q.1/\(∀x∈q.2.2.2,Qq8 x)/\Own nrC 3 355 M.heap.size w' q.2.1 q.2.2.1 q.2.2.2/\M.heap.size<=w'.heap.size)
  (fun|(_,B,d,F)=>[(2,Vj n),(19,.slice B F.length d),(74,Pj r)]) (fun q=>m.length-q.1.length) ([],none,0,[]) ⟨bb.trans b5,hid,rfl,by simp,Own.nil,Zf _⟩ Rr ?_
 have fo:r<M.heap.size:=hid.lt;have fj:f<M.heap.size:=hid.map.lt;have dq:w.heap.size<=M.heap.size:=(bb.trans b5).size;have e5:w.heap.size<=r:=by rw[<- ez];exact bb.size
 clear hid b5 W g;rintro ⟨an,B,d,F⟩ fd ⟨dy,c0,aq,bh,a7,ek⟩;simp only at c0 aq bh a7;have fh:F.length=an.length:=by rw[<- aq];simp[Xj]
 refine Gg ?_;refine Qff c0 (fun df=>?_) (fun x wf c1 fm D en bv em=>?_)
 .refine Gg ?_;constructor
  .intro P;cases P
  intro _;rw[<- aq]at df;have bw:=Q7k df;refine Gg ?_;refine(Qz1 F bh B d M.heap.size fd a7 (by have:=bw.length_eq;omega) ek n eu).mono ?_;rintro _ fe ⟨ao,dh,e0,d5,c6,rfl,ey,e6⟩;have d9:=bm ao (dh.trans bw) e0;have ea:=bj ao (dh.trans bw);refine Gg ?_;rw[<- d9];refine⟨d5,c6,rfl,ey.base dq,ea,e6 w dy dq⟩
 .have e8:Ext w wf:=bv.ext dy e5;have dd:Own nrC 3 355 M.heap.size wf B d F:=a7.keep fun a Y=>bv.block _ (by have:=(a7.block Y).1;omega)
  have D:an.length<m.length:=by simpa [Xj] using D
  have fr:=bv.size;obtain⟨y,al,rfl⟩:∃y∈m,x=(y.1,Qns y.2):=(by unfold Xj at c1;obtain⟨y,al,el⟩:=Zh.1 c1;exact⟨y,al,el.symm⟩);have fa:=E y al;refine Gg ?_;constructor
  .intro _;refine Gg ?_;refine Qa1 (em wf rfl rfl) ?_;refine Gg ?_;intro bg fe a4;refine Gg ?_;refine Qc Qb (e:=ty247) rfl a4.At rfl rfl rfl (Qkt y.2) fun d3 P db=>?_
   have P:At d3 bg 247 (Qmv y.2):=P;have b6:Ext wf d3:=db.ext a4.ext (by rw[a4.block];exact Zf _);clear db a4;refine Gg ?_;refine⟨Qmv y.2,⟨rfl,P.all⟩,Gg ?_⟩;intro bi fx a5;refine Gg ?_;refine Qq Q0o (l:=F) (news:= [y]) rfl ((dd.ext b6).ext a5.ext) rfl (Q0o.new1 (x:=y) a5) (by simp;omega) (by have:=b6.size;have:=a5.size;omega) fun d6 cj d4 de av ff=>?_
   have bx:∀i,B.map (·.block)=some i->M.heap.size<=i:=Xm dd;have b8:=b6.trans a5.ext;have e9:Ext w d4:=Qu (e8.trans b8) av (fun i C=>by have:=bx i C;have:=bb.size;omega);have eo:Iter d4 r f Value.string (Xj Qns m) (an++[(y.1,Qns y.2)]):=(by have bp:=en.ext b8;exact bp.keep (av.block f bp.map.lt fun e=>by have:=bx f e.symm;omega) (av.block r bp.lt fun e=>by have:=bx r e.symm;omega));have ft:=av.size;have fs:=b8.size;have cn:Xj Qns (F++[y])=an++[(y.1,Qns y.2)]:=by rw[<- aq];simp[Xj]
   have cp:∀x∈F++[y],Qq8 x:=fun x hx=>by
    rcases Zj.1 hx with s|s
    .exact bh x s
    .rw[Zl]at s;rw[s];exact fa
   generalize F++[y]=ao at de cn cp⊢;refine Gg ?_;exact⟨(an++[(y.1,Qns y.2)],d6,cj,ao),by simp;omega,⟨e9,eo,cn,cp,de,Om⟩,Rr⟩
  .intro P;cases P
theorem Xl8{c z}(b:∀e∈z,Xy e=true)(d:z.length<1000):SsR (Qhd c z):=
 ⟨(Q7n c z b d).len,Zbw (Q99 c z) d,fun a=>by have:=Xfj c z a;omega,fun a x hx=>by have:=Qcg (Xa2 b hx);omega⟩
structure PSt(St:(Nat->Prop)->World->Prop)(n0 p:Nat)(c:Cfg)(z:List Ev):Prop where
 keep:∀{T:Nat->Prop} {w w':World},St T w->(∀k,k<w.heap.size->(T k\/k<n0)->w'.heap[k]?=w.heap[k]?)->St T w'
 low:∀{T:Nat->Prop} {w:World},St T w->n0<=w.heap.size
 wq:∀{T:Nat->Prop} {w:World},St T w->∃v T0,WQ w T0 p c z v
 lt:∀{T:Nat->Prop} {w:World},St T w->∀k,T k->k<w.heap.size
 pairs:∀{T:Nat->Prop} {w:World},St T w->Cal Tryz.prog 140 [Pj p] w fun r w'=>∃pp T',r=Pj pp/\St T' w'/\(∀k,T' k->T k\/w.heap.size<=k)/\Mod T w w'/\¬T' pp/\∃R,Qb2 w' R pp (Qhd c z)
theorem PSt.ext{St n0 p c z}(h:PSt St n0 p c z){T w w'}(b:St T w)(hx:Ext w w'):St T w':=h.keep b fun k a _=>hx.block k a
theorem Qmt{p c z}(o:Qqm c z):PSt (fun T w=>WT w T p c z) 0 p c z where
 keep h n:=h.keep fun k d=>n k (h.lt k d) (.inl d)
 low _:=Zt _
 wq h:=by obtain⟨v,b,a,_⟩:=h;exact⟨v,b,a⟩
 lt h:=h.lt
 pairs {T w} h:=by
  obtain⟨v,b,a,_⟩:=id h;refine(Qju h (Q7n c z a.may o.len)).mono ?_;rintro r s ⟨pp,e,f,g,i,j,_,l,m⟩;exact⟨pp,e,f,g,i,j,l,_,m⟩
def Q74(St:(Nat->Prop)->World->Prop)(Q:List Bj)(T:Nat->Prop)(w:World)(r:Value)(w':World):Prop:=∃A c b,r=.slice A Q.length c/\Own Qac 1 9 w.heap.size w' A c Q/\(∀a,A=some a->¬b a.block)/\St b w'/\(∀k,b k->T k\/w.heap.size<=k)/\Mod T w w'
theorem Qn4.p{St c z person now g k T n0 p w w' r}(e:PSt St n0 p c z)(f:St T w)(h:Qn4 c z person now g k w r w'):Q74 St ((Qe4 c z person now k).take g.toNat) T w r w':=by
 obtain⟨A,i,j,b,d⟩:=h;exact⟨A,i,T,j,b,fun a m l=>by have:=e.lt f _ l;have:=(b.block m).1;omega,e.ext f d,fun k n=>.inl n,Mod.of_ext d⟩
set_option maxHeartbeats 2000000 in
theorem Q6f{St w T n0 p c z}(A:PSt St n0 p c z)(h:St T w)(bs:Qqm c z)(person:Bj)(now m)(bp:0<=m/\m<=9223372036854775807) :
 Cal Tryz.prog 177 [Pj p,.string person,Vj now,Vj m] w fun r w'=>Q74 St ((Qe4 c z person now 2).take m.toNat) T w r w':=by
 have bq:=bs.len;obtain⟨v,bv,au⟩:=A.wq h;have br:=au.may;have bj:=A.lt h;have bm:(Qmf z person).length<1000000:=(by have bw:(Qmf z person).length<=(Qfs z person).length:=Zc _ _;have bx:(Qfs z person).length<=z.length:=Qtg z person;omega);have av:=Xl8 (c:=c) br bq;have aa:(Qe4 c z person now 2).take m.toNat=(((Q79 (Qhd c z) 1 ((Qmf z person).map (fun x:Ev=>x.item))).map (·.1)).take m.toNat).map (fun x:Nr=>x.1):=(by unfold Qe4 Xnf;rw[if_neg (by decide),if_neg (by decide),if_pos rfl,List.map_take,Zz];rfl);refine Fi Tryz.func177 rfl _ rfl rfl (Hh ?_);refine(Qrk au person).mono ?_;rintro _ a3 ⟨a4,a7,rfl,ax,ah⟩;have ag:=ax.sl Qau;obtain⟨al,ab⟩:∃al,al=(Qmf z person).map (fun x:Ev=>x.item):=⟨_,rfl⟩;rw[<- ab]at aa;generalize Qmf z person=Q at ag bm ab⊢;refine Gg ?_
 refine Qh Qb (fun(x:Nat×Option Addr×Nat×List Bj) w'=>x.1<=Q.length/\Ext a3 w'/\x.2.2.2=(Q.take x.1).map (fun x:Ev=>x.item)/\Own Qac 1 9 a3.heap.size w' x.2.1 x.2.2.1 x.2.2.2)
  (fun|(k,B,d,K)=>[(0,Pj p),(3,Vj m),(9,.slice B K.length d),(17,.slice a4 Q.length a7),(18,Vj Q.length),(19,Vj (k:Nat))]) (fun x=>Q.length-x.1) (0,none,0,[]) ⟨Zt _,Ext.refl _,rfl,Own.nil⟩ Rr ?_
 rintro ⟨k,B,d,K⟩ R ⟨F,i,f,b⟩;simp only at F f b;have aq:K.length<=k:=by rw[f,Zg,Zn];omega
 refine Gg ?_;constructor
 .intro n;have n:k<Q.length:=Su n;obtain⟨V,Z,H⟩:=(ag.ext i).get n;subst Z;have s:(Q.take (k+1)).map (fun x:Ev=>x.item)=K++[((fun x:Ev=>x.item)) Q[k]]:=by rw[Za n,Zp,f];rfl
  generalize Q[k]=x at H s;refine Gg ?_;refine⟨V,Ix,Gg ?_⟩;refine⟨evC x,⟨rfl,H⟩,Gg ?_⟩;intro W wb o;refine Gg ?_;refine Qc Qb (e:=ty69) rfl o.At rfl rfl rfl (Qbn x) fun M D J=>?_
  have D:At M W 69 (evC x):=D;have u:Ext R M:=J.ext o.ext (by rw[o.block];exact Zf _);clear J o;have I:nth (evC x) 5=some (.string (((fun x:Ev=>x.item)) x)):=rfl;generalize bo:((fun x:Ev=>x.item)) x=y at I s;refine Gg ?_;refine⟨.string y,D.one I,Gg ?_⟩;intro be bt g;refine Gg ?_;refine Qq Xp (l:=K) (news:= [y]) rfl ((b.ext u).ext g.ext) rfl (Xp.new1 (x:=y) g) (by simp;omega) ((i.trans u).trans g.ext).size fun S Y wf L af a9=>?_
  have ai:=Qu ((i.trans u).trans g.ext) af (Xm ((b.ext u).ext g.ext));generalize K++[y]=U at L s⊢;refine Gg ?_;refine⟨_,wrap_succ Om,Gg ?_⟩;exact⟨(k+1,S,Y,U),Sj,⟨Sj,ai,s.symm,L⟩,Rr⟩
 intro E;have E:Q.length<=k:=Su E;rw[Zd E]at f;rw[<- ab]at f;subst f;have bb:K.length<1000000:=Om;have O:=ah.trans i;refine Gg ?_;refine(A.pairs (A.ext h O)).mono ?_;rintro _ aj ⟨pp,an,rfl,ae,aw,N,bz,bu,ar⟩;have b2:=O.size;have b0:=N.size;have ao:∀a,B=some a->aj.heap[a.block]?=R.heap[a.block]? := fun a C=>N.block _ (b.block C).2 fun ac=>(by have:=bj _ ac;have:=(b.block C).1;have:=ah.size;omega)
 have a0:SlT aj B K:=Qa7 (b.sl Qv) ao;refine Gg ?_;refine(Q38 aj _ pp _ ar av K B d a0 (fun a C=>⟨by have:=(b.block C).2;omega,Q3a b C⟩) bb m bp 1).mono ?_;rintro _ ak ⟨a5,a8,rfl,ay,bl,P⟩;unfold Q74;rw[aa];have az:=ay.sl Qt6;have bg:((((Q79 (Qhd c z) 1 K).map (·.1)).take m.toNat)).length<1000:=by rw[Zn,Zg];omega
 generalize ((Q79 (Qhd c z) 1 K).map (·.1)).take m.toNat=j at az bg⊢;have bd:Mod T w ak:=((Mod.of_ext O).trans N).trans (Mod.of_ext P);have bk:=A.ext ae P;have b1:=P.size;have bh:∀k,an k->T k\/w.heap.size<=k:=fun k F=>(aw k F).imp id fun h=>Om
 have bi:=A.lt ae;clear aa ay P a0 ao b N ae aw ar ax ag i O ah bl av aq F;refine Gg ?_
 refine Qh Qb (fun(x:Nat×Option Addr×Nat×List Bj) w'=>x.1<=j.length/\Ext ak w'/\x.2.2.2=(j.take x.1).map (fun x:Nr=>x.1)/\Own Qac 1 9 ak.heap.size w' x.2.1 x.2.2.1 x.2.2.2)
  (fun|(k,B,d,K)=>[(12,.slice B K.length d),(33,.slice a5 j.length a8),(34,Vj j.length),(35,Vj (k:Nat))]) (fun x=>j.length-x.1) (0,none,0,[]) ⟨Zt _,Ext.refl _,rfl,Own.nil⟩ Rr ?_
 rintro ⟨k,B,d,K⟩ R ⟨F,i,f,b⟩;simp only at F f b;have aq:K.length<=k:=by rw[f,Zg,Zn];omega
 refine Gg ?_;constructor
 .intro n;have n:k<j.length:=Su n;obtain⟨V,Z,H⟩:=(az.ext i).get n;subst Z;have s:(j.take (k+1)).map (fun x:Nr=>x.1)=K++[((fun x:Nr=>x.1)) j[k]]:=by rw[Za n,Zp,f];rfl
  generalize j[k]=x at H s;refine Gg ?_;refine⟨V,Ix,Gg ?_⟩;refine⟨nrC x,⟨rfl,H⟩,Gg ?_⟩;intro W wb o;refine Gg ?_;refine Qc Qb (e:=ty355) rfl o.At rfl rfl rfl (Qt7 x) fun M D J=>?_
  have D:At M W 355 (nrC x):=D;have u:Ext R M:=J.ext o.ext (by rw[o.block];exact Zf _);clear J o;have I:nth (nrC x) 0=some (.string (((fun x:Nr=>x.1)) x)):=rfl;generalize bo:((fun x:Nr=>x.1)) x=y at I s;refine Gg ?_;refine⟨.string y,D.one I,Gg ?_⟩;intro be bt g;refine Gg ?_;refine Qq Xp (l:=K) (news:= [y]) rfl ((b.ext u).ext g.ext) rfl (Xp.new1 (x:=y) g) (by simp;omega) ((i.trans u).trans g.ext).size fun S Y wf L af a9=>?_
  have ai:=Qu ((i.trans u).trans g.ext) af (Xm ((b.ext u).ext g.ext));generalize K++[y]=U at L s⊢;refine Gg ?_;refine⟨_,wrap_succ Om,Gg ?_⟩;exact⟨(k+1,S,Y,U),Sj,⟨Sj,ai,s.symm,L⟩,Rr⟩
 intro E;have E:j.length<=k:=Su E;rw[Zd E]at f;rw[<- f];refine Gg ?_;exact⟨B,d,an,rfl,b.base Om,fun a C ac=>by have:=bi _ ac;have:=(b.block C).1;omega,A.ext bk i,bh,bd.trans (Mod.of_ext i)⟩
