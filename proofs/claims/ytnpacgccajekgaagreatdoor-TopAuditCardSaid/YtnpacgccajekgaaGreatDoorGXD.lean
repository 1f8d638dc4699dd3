import Derived.Test.YtnpacgccajekgaaGreatDoorGXA
set_option linter.all false
namespace Go.Proofs.YtnpacgccajekgaaGreatDoor
open Go.Se Go.RowKit
theorem Q61(b tags A a)(x:Bj)(w)(c:At w b 42 [.slice A tags.length a])(e:SlT w A tags)(d:tags.length<1000000) :
 Cal Tryz.prog 144 [.string x,Pj b] w fun r w'=>r=.bool (decide (x∈tags))/\w'=w:=by
 refine Fi Tryz.func144 rfl _ rfl rfl (Hh ?_);refine⟨.slice A tags.length a,c.one0,Hh ?_⟩;refine(Qa3 tags A a x w e d).mono ?_;rintro _ _ ⟨rfl,rfl⟩;refine Hh ?_;exact⟨rfl,rfl⟩
theorem Q92(c tags A h row B g w)(n:At w c 42 [.slice A tags.length h])(v:SlT w A tags)(o:tags.length<1000000)(u:SlT w B row)(D:row.length<1000000) :
 Cal Tryz.prog 108 [.slice B row.length g,.func (.func 144) #[] #[Pj c]] w fun r w'=>(∃i:Int,r=Vj i /\ -1<=i/\(0<=i↔row.any (fun t=>decide (t∈tags))=true))/\w'=w:=by
 refine Fi Tryz.func108 rfl _ rfl rfl (Hh ?_)
 refine Qh Qb (fun(k:Nat) w'=>k<=row.length/\(row.take k).any (fun t=>decide (t∈tags))=false/\w'=w)
  (fun k=>[(0,.slice B row.length g),(1,.func (.func 144) #[] #[Pj c]),(7,Vj row.length),(8,Vj (k:Nat))]) (fun k=>row.length-k) 0 ⟨Zt _,rfl,rfl⟩ Rr ?_
 rintro k z ⟨C,e,x⟩;subst x;refine Hh ?_;constructor
 .intro b;have b:k<row.length:=Su b;obtain⟨a2,m,j⟩:=u.get b;subst m;have f:(row.take (k+1)).any (fun t=>decide (t∈tags))=decide (row[k]∈tags):=by rw[Za b,List.any_append,e];simp
  have l:row[k]∈row:=Zu b;generalize row[k]=y at j f l;refine Hh ?_;refine⟨a2,Ix,Hh ?_⟩;refine⟨.string y,Qp j,Hh ?_⟩;refine(Q61 c tags A h y z n v o).mono ?_;rintro _ _ ⟨rfl,rfl⟩;generalize s:decide (y∈tags)=q at f⊢;refine Hh ?_;constructor
  .intro a;have a:q=true:=a;refine Hh ?_;refine⟨⟨k,rfl,Om,?_⟩,rfl⟩;simp only[Int.natCast_nonneg,true_iff,Zb7];exact⟨y,l,by rw[s,a]⟩
  .intro a;have a:q=false:=a;refine Hh ?_;refine⟨_,wrap_succ Om,Hh ?_⟩;exact⟨k+1,Om,⟨Om,by rw[f,a],rfl⟩,Rr⟩
 .intro d;have d:row.length<=k:=Su d;rw[Zd d]at e;refine Hh ?_;exact⟨⟨-1,rfl,Om,by rw[e];simp⟩,rfl⟩
theorem Q9u(a tags A d row B c w)(f:At w a 42 [.slice A tags.length d])(l:SlT w A tags)(g:tags.length<1000000)(j:SlT w B row)(k:row.length<1000000) :
 Cal Tryz.prog 57 [.slice B row.length c,.func (.func 144) #[] #[Pj a]] w fun r w'=>r=.bool (row.any fun t=>decide (t∈tags))/\w'=w:=by
 refine Fi Tryz.func57 rfl _ rfl rfl (Hh ?_);refine(Q92 a tags A d row B c w f l g j k).mono ?_;rintro _ _ ⟨⟨i,rfl,m,e⟩,rfl⟩;refine Hh ?_;refine⟨?_,rfl⟩
 cases b:row.any (fun t=>decide (t∈tags)) with
 |true=>rw[decide_eq_true (e.2 b)]
 |false=>rw[decide_eq_false (fun h=>by rw[e.1 h]at b;cases b)]
structure Xg9(w:World)(p bw ba b6 b12 b11 b13 pp:Nat)(c:Cfg)(z:List Ev)(item:Bj)(tags:List Bj)(R:Nat->Prop):Prop where
 ap:ApAt w p bw ba z R
 low:10<=ba
 item:At w b6 9 [.string item]
 pr:At w b12 85 [Pj pp]
 pairs:∃S,Qb2 w S pp (Qhd c z)/\¬S ba
 tags:∃A cc,At w b11 42 [.slice A tags.length cc]/\SlT w A tags/\∀a,A=some a->tags≠[]->a.block≠ba
 apf:At w b13 244 [apV bw ba]
 ne:b6≠ba/\b12≠ba/\b11≠ba/\b13≠ba
theorem Xg9.go{w w1 p d ba b6 b12 b11 b13 pp c z item tags R R1}(h:Xg9 w p d ba b6 b12 b11 b13 pp c z item tags R)(u:ApAt w1 p d ba z R1)(b:Mod (fun k=>k=ba) w w1):Xg9 w1 p d ba b6 b12 b11 b13 pp c z item tags R1:=by
 obtain⟨S,y,l⟩:=h.pairs;obtain⟨A,o,r,s,g⟩:=h.tags;obtain⟨E,F,H,I⟩:=h.ne;refine⟨u,h.low,h.item.mod b E,h.pr.mod b F,⟨S,y.keep fun k D n=>⟨b.block k D (fun e=>l (e▸n)),n⟩,l⟩,⟨A,o,r.mod b H,?_,g⟩,h.apf.mod b I,h.ne⟩;exact fun i x f=>(by obtain⟨a,m,B⟩:=s i x f;refine⟨a,m,?_⟩;exact fun j v C=>b.cell (B j v C) (by show ¬_=ba;rw[add_block,add_block];exact g a m (fun e=>by rw[e]at f;simp at f)))
theorem Xg9.ext{w w1 p a ba b6 b12 b11 b13 pp c z item tags R}(h:Xg9 w p a ba b6 b12 b11 b13 pp c z item tags R)(hx:Ext w w1):Xg9 w1 p a ba b6 b12 b11 b13 pp c z item tags R:=h.go (h.ap.ext hx) (Mod.of_ext hx)
set_option maxHeartbeats 2000000 in
theorem Q5r{w T p c z}(u:WT w T p c z)(B:Gl w)(au:z.length<1000){i ba b6 b12 b11 b13 pp item tags R}(h:Xg9 w p i ba b6 b12 b11 b13 pp c z item tags R)(O:∀k,R k->k<w.heap.size)(ar:tags.length<1000)(ab:(Qhd c z).length<1000)(e)(V:e∈z)(Y:peB e=true) :
 Cal Tryz.prog 142 [evV e,Pj b6,Pj b12,Pj b11,Pj b13] w fun r w'=>r=.bool (Qz3 c z item tags e)/\ApAt w' p i ba z R/\Mod (fun k=>k=ba) w w':=by
 refine Fi Tryz.func142 rfl _ rfl rfl (Hh ?_);intro o F l;refine Gg ?_;have d:At F o 69 (evC e):=l.At;have b:=l.ext;have al:w.heap.size<=o:=by rw[l.block];exact Zf _
 clear l;refine⟨evC e,⟨rfl,d.all⟩,Gg ?_⟩;refine(Qc2 e F).mono ?_;rintro _ n ⟨rfl,D⟩;replace d:=d.ext D;replace b:=b.trans D;have a:=h.ext b;refine Gg ?_;constructor
 .intro g;have g:Qz e<=0:=Su g;refine Gg ?_;refine⟨?_,a.ap,Mod.of_ext b⟩;unfold Qz3;rw[decide_eq_false (by omega:¬0<Qz e)];rfl
 intro g;have g:0<Qz e:=(by have g:¬Qz e<=0:=Su g;omega);have C:Qz3 c z item tags e=((!decide (e.item=item)&&decide (0<(Qha (Qhd c z) e.item item).1))||(Qq5 z e).any fun t=>decide (t∈tags)):=(by unfold Qz3;rw[decide_eq_true g,Bool.true_and]);rw[C];clear C;refine Gg ?_;refine⟨.string e.item,d.one rfl,Gg ?_⟩;refine⟨.string item,a.item.one0,Gg ?_⟩;refine⟨Pj pp,fun _=>a.pr.one0,Gg ?_⟩;refine⟨.string e.item,fun _=>d.one rfl,Gg ?_⟩;refine⟨.string item,fun _=>a.item.one0,Gg ?_⟩;obtain⟨S,P,ak⟩:=a.pairs;refine⟨Unit,fun _=>(Qns (Qha (Qhd c z) e.item item)),fun _ w'=>Ext n w',(),fun B=>((Qpe n S pp _ P e.item item ab)).mono fun r w' h=>⟨(),h.1,h.2⟩,?_⟩;intro _ ah a
 have m:Ext n ah:=by
  rcases a with⟨_,h⟩|⟨_,h⟩
  .exact h
  .rw[h];exact Ext.refl _
 clear a;refine Hh ?_;replace d:=d.ext m;replace b:=b.trans m;replace a:=a.ext m;generalize Z:(!decide (e.item=item)&&decide (0<(Qha (Qhd c z) e.item item).1))=E;refine Gg ?_;constructor
 .intro f;have f:E=true:=f;subst f;refine Gg ?_;exact⟨rfl,a.ap,Mod.of_ext b⟩
 intro f;have f:E=false:=f;subst f;clear Z;obtain⟨A,K,ae,aq,an⟩:=a.tags;refine Gg ?_;refine⟨.slice A tags.length K,ae.one0,Gg ?_⟩;constructor
 .intro j;have j:tags=[]:=(by have:tags.length=0:=Su j;exact Zan this);refine Gg ?_;refine⟨?_,a.ap,Mod.of_ext b⟩;rw[j];simp
 intro j;refine Gg ?_;refine⟨apV i ba,a.apf.one0,Gg ?_⟩;refine⟨evC e,⟨rfl,d.all⟩,Gg ?_⟩;refine(Qyv (u.ext b) (B.ext b) Om i ba a.ap (fun k W=>Zat (O k W) b.size) a.low e V Y).mono ?_;rintro _ ai ⟨I,J,rfl,aa,x,s⟩;have M:=a.go x s;obtain⟨H,L,af,ac,ao⟩:=M.tags;have U:(Qq5 z e).length<1000000:=(by obtain⟨v,aj,N,_⟩:=u;have:=(Qo6 e.item ((Qm (Qhf z e)).filter (thQ e.item e.at_)) fun y ag=>N.may y (Qsu (Ze.1 (Ze.1 ag).1).1)).2.2;unfold Qq5;omega);refine Gg ?_;refine(Q9u b11 tags H L (Qq5 z e) I J ai af ac Om aa U).mono ?_;rintro _ _ ⟨rfl,rfl⟩;refine Gg ?_;exact⟨by simp,x,(Mod.of_ext b).trans s⟩
theorem Q5v(b10 b9 b it e w)(f:At w b10 4 [.bool b])(g:At w b9 152 (itC it)) :
 Cal Tryz.prog 145 [evV e,Pj b10,Pj b9] w fun r w'=>r=.bool (b&&decide (e.text=it.maker))/\Ext w w':=by
 refine Fi Tryz.func145 rfl _ rfl rfl (Hh ?_);intro c h a;refine Gg ?_;have d:At h c 69 (evC e):=a.At;refine⟨.bool b,(f.ext a.ext).one0,Gg ?_⟩;refine⟨.string e.text,fun _=>d.one rfl,Gg ?_⟩;refine⟨.string it.maker,fun _=>(g.ext a.ext).one rfl,Gg ?_⟩;exact⟨rfl,a.ext⟩
theorem Q5z(e w) :
 Cal Tryz.prog 146 [evV e] w fun r w'=>r=.bool false/\Ext w w':=by
 refine Fi Tryz.func146 rfl _ rfl rfl (Hh ?_);intro b c a;refine Gg ?_;exact⟨rfl,a.ext⟩
def Xmv(b6 b12 b11 b13 b10 b9:Nat):List Value:=
 let a:=Value.func (.func 146) #[] #[]
 let b:=Value.func (.func 142) #[] #[Pj b6,Pj b12,Pj b11,Pj b13]
 let mk:=Value.func (.func 145) #[] #[Pj b10,Pj b9]
 [a,b,b,b,b,a,a,mk,mk,a,a]
theorem Xk8{b6 b12 b11 b13 b10 b9}{k:Int}(b:0<=k)(c:k<11):∃a,nth (Xmv b6 b12 b11 b13 b10 b9) k.toNat=some a /\
 ((1<=k/\k<=4/\a=.func (.func 142) #[] #[Pj b6,Pj b12,Pj b11,Pj b13])
   \/ ((k=7\/k=8)/\a=.func (.func 145) #[] #[Pj b10,Pj b9])
   \/ (¬(1<=k/\k<=4)/\¬(k=7\/k=8)/\a=.func (.func 146) #[] #[])):=by
 obtain⟨n,rfl⟩:∃n:Nat,k=n:=⟨k.toNat,Om⟩;rw[Zbb];rcases n with _|_|_|_|_|_|_|_|_|_|_|n
 all_goals first
  |omega
  |exact⟨_,rfl,.inl ⟨Om,Om,rfl⟩⟩
  |exact⟨_,rfl,.inr (.inl ⟨Om,rfl⟩)⟩
  |exact⟨_,rfl,.inr (.inr ⟨Om,Om,rfl⟩)⟩
theorem Q9w{z person e}(h:e∈Qfs z person):e∈z/\peB e=true/\e.person=person:=by
 unfold Qfs hist Qak at h;obtain⟨a,b⟩:=Ze.1 h;obtain⟨c,d⟩:=Ze.1 a;exact⟨c,d,Su b⟩
theorem Q4f{c z item now e}(b:¬(1<=e.kind/\e.kind<=4))(a:¬(e.kind=7\/e.kind=8)):Qi9 c z item now e=false:=by
 unfold Qi9 Qz3;rw[if_neg a];have:Qz e=0:=(by unfold Qz;rw[if_neg Om,if_neg Om,if_neg Om,if_neg Om]);rw[this];rfl
set_option maxHeartbeats 4000000 in
theorem Xfu{w T p c z}(cf:WT w T p c z)(cp:Qqm c z)(ck:Gl w)(en:∀k,T k->10<=k)(person item:Bj)(now) :
 Cal Tryz.prog 76 [Pj p,.string person,.string item,Vj now] w fun r w'=>∃A cz,r=.slice A (Xd5 c z person item now).length cz/\Own evC 8 69 w.heap.size w' A cz (Xd5 c z person item now)/\Mod T w w'/\∃ah,WT w' ah p c z/\(∀k,ah k->T k\/w.heap.size<=k)/\∀a,A=some a->¬ah a.block:=by
 have ff:=cp.len;obtain⟨v0,ft,cc,_⟩:=id cf;have bh:=cc.may;have fr:=cc.rise;have f6:=ck.size;have fk:=(Q7n c z bh cp.len).len;refine Fi Tryz.func76 rfl _ rfl rfl (Hh ?_);intro Z F bp;refine Gg ?_;have V:At F Z 9 [.string item]:=bp.At;have cr:=bp.ext;have e1:w.heap.size<=Z:=by rw[bp.block];exact Zf _
 clear bp;have N:=cc.ext cr;refine Ql1 (ι:=Nat×Nat) (fun q=>[(0,Pj p),(1,.string person),(6,Pj Z),(9,Pj q.1),(10,Pj q.2)]) (fun q w'=>Ext F w'/\At w' q.1 152 (itC (Xz (Qm z) item now).1)/\At w' q.2 4 [.bool (Xz (Qm z) item now).2]/\F.heap.size<=q.1/\F.heap.size<=q.2) ?_ ?_
 .refine Q4z (.mods (fun k=>F.heap.size<=k)) (Pq.seq [0,2,3] (Pq.three 1 (Pq.three 4 (Pq.seq [5,6,7] (Pq.two 8 (Pq.one 9 (Pq.seq [10,11] Pq.done)) 9 (Pq.one 8 (Pq.seq [10,11] Pq.done)))) 8 (Pq.two 4 (Pq.seq [5,6,7] (Pq.one 9 (Pq.seq [10,11] Pq.done))) 9 (Pq.one 4 (Pq.seq [5,6,7] (Pq.seq [10,11] Pq.done)))) 9 (Pq.two 4 (Pq.seq [5,6,7] (Pq.one 8 (Pq.seq [10,11] Pq.done))) 8 (Pq.one 4 (Pq.seq [5,6,7] (Pq.seq [10,11] Pq.done))))) 8 (Pq.two 1 (Pq.two 4 (Pq.seq [5,6,7] (Pq.one 9 (Pq.seq [10,11] Pq.done))) 9 (Pq.one 4 (Pq.seq [5,6,7] (Pq.seq [10,11] Pq.done)))) 9 (Pq.one 1 (Pq.one 4 (Pq.seq [5,6,7] (Pq.seq [10,11] Pq.done))))) 9 (Pq.two 1 (Pq.two 4 (Pq.seq [5,6,7] (Pq.one 8 (Pq.seq [10,11] Pq.done))) 8 (Pq.one 4 (Pq.seq [5,6,7] (Pq.seq [10,11] Pq.done)))) 8 (Pq.one 1 (Pq.one 4 (Pq.seq [5,6,7] (Pq.seq [10,11] Pq.done))))))) (by intro h;cases h) Qb mixed Kr (Hh ?_);have f:Ext F F.drew:=(Ext.refl F).drew;have f0:=V.lt;have c1:At F.drew Z 9 [.string item]:=V;generalize F.drew=gz at f c1⊢;refine⟨.string item,⟨c1.one0,by show ¬(F.heap.size<=Z);omega⟩,Hh ?_⟩;refine⟨?_,?_,?_⟩
  .refine(Xo (N.ext f)).mono ?_;rintro _ b4 ⟨pc,S,rfl,K,L⟩;have f:=f.trans L;refine⟨Mod.of_ext L,Hh ?_⟩;refine⟨?_,?_,?_⟩
   .refine(Xa _ S pc _ K item now N.rows).mono ?_;rintro _ aa ⟨rfl,j⟩;have f:=f.trans j;refine⟨Mod.of_ext j,Hh ?_⟩;refine⟨?_,?_⟩
    .intro n U o;have D:F.heap.size<=n:=by rw[o.block];exact f.size
     have f:=f.trans o.ext;have g:=o.At;refine⟨Mod.of_ext o.ext,Hh ?_⟩;intro m Y s;have C:F.heap.size<=m:=by rw[s.block];exact f.size
     have E:n≠m:=by have:=g.lt;rw[s.block];omega
     have f:=f.trans s.ext;have i:=s.At;have g:=g.ext s.ext;refine⟨Mod.of_ext s.ext,Hh ?_⟩;refine Qc Qb (e:=ty152) rfl g rfl rfl rfl (by simp[Qg,itC,Value.oneCell']) fun R I v=>?_
     refine⟨Qj v D,Hh ?_⟩;refine Qc Qb (e:=ty4) rfl ((v.block m E.symm).trans i) rfl rfl rfl Oj fun O J u=>?_
     refine⟨Qj u C,Hh ?_⟩;exact⟨(n,m),⟨u.ext (v.ext f D) C,(u.block n E).trans I,J,D,C⟩,Rr⟩
    .intro m Y s;have C:F.heap.size<=m:=by rw[s.block];exact f.size
     have f:=f.trans s.ext;have i:=s.At;refine⟨Mod.of_ext s.ext,Hh ?_⟩;intro n U o;have D:F.heap.size<=n:=by rw[o.block];exact f.size
     have E:n≠m:=by have:=i.lt;rw[o.block];omega
     have i:=i.ext o.ext;have f:=f.trans o.ext;have g:=o.At;refine⟨Mod.of_ext o.ext,Hh ?_⟩;refine Qc Qb (e:=ty152) rfl g rfl rfl rfl (by simp[Qg,itC,Value.oneCell']) fun R I v=>?_
     refine⟨Qj v D,Hh ?_⟩;refine Qc Qb (e:=ty4) rfl ((v.block m E.symm).trans i) rfl rfl rfl Oj fun O J u=>?_
     refine⟨Qj u C,Hh ?_⟩;exact⟨(n,m),⟨u.ext (v.ext f D) C,(u.block n E).trans I,J,D,C⟩,Rr⟩
   .intro n U o;have D:F.heap.size<=n:=by rw[o.block];exact f.size
    have f:=f.trans o.ext;have g:=o.At;have K:=K.ext o.ext;refine⟨Mod.of_ext o.ext,Hh ?_⟩;refine⟨?_,?_⟩
    .refine(Xa _ S pc _ K item now N.rows).mono ?_;rintro _ aa ⟨rfl,j⟩;have f:=f.trans j;have g:=g.ext j;refine⟨Mod.of_ext j,Hh ?_⟩;intro m Y s;have C:F.heap.size<=m:=by rw[s.block];exact f.size
     have E:n≠m:=by have:=g.lt;rw[s.block];omega
     have f:=f.trans s.ext;have i:=s.At;have g:=g.ext s.ext;refine⟨Mod.of_ext s.ext,Hh ?_⟩;refine Qc Qb (e:=ty152) rfl g rfl rfl rfl (by simp[Qg,itC,Value.oneCell']) fun R I v=>?_
     refine⟨Qj v D,Hh ?_⟩;refine Qc Qb (e:=ty4) rfl ((v.block m E.symm).trans i) rfl rfl rfl Oj fun O J u=>?_
     refine⟨Qj u C,Hh ?_⟩;exact⟨(n,m),⟨u.ext (v.ext f D) C,(u.block n E).trans I,J,D,C⟩,Rr⟩
    .intro m Y s;have C:F.heap.size<=m:=by rw[s.block];exact f.size
     have E:n≠m:=by have:=g.lt;rw[s.block];omega
     have f:=f.trans s.ext;have i:=s.At;have g:=g.ext s.ext;have K:=K.ext s.ext;refine⟨Mod.of_ext s.ext,Hh ?_⟩;refine(Xa _ S pc _ K item now N.rows).mono ?_;rintro _ aa ⟨rfl,j⟩;have f:=f.trans j;have g:=g.ext j;have i:=i.ext j;refine⟨Mod.of_ext j,Hh ?_⟩;refine Qc Qb (e:=ty152) rfl g rfl rfl rfl (by simp[Qg,itC,Value.oneCell']) fun R I v=>?_
     refine⟨Qj v D,Hh ?_⟩;refine Qc Qb (e:=ty4) rfl ((v.block m E.symm).trans i) rfl rfl rfl Oj fun O J u=>?_
     refine⟨Qj u C,Hh ?_⟩;exact⟨(n,m),⟨u.ext (v.ext f D) C,(u.block n E).trans I,J,D,C⟩,Rr⟩
   .intro m Y s;have C:F.heap.size<=m:=by rw[s.block];exact f.size
    have f:=f.trans s.ext;have i:=s.At;have K:=K.ext s.ext;refine⟨Mod.of_ext s.ext,Hh ?_⟩;refine⟨?_,?_⟩
    .refine(Xa _ S pc _ K item now N.rows).mono ?_;rintro _ aa ⟨rfl,j⟩;have f:=f.trans j;have i:=i.ext j;refine⟨Mod.of_ext j,Hh ?_⟩;intro n U o;have D:F.heap.size<=n:=by rw[o.block];exact f.size
     have E:n≠m:=by have:=i.lt;rw[o.block];omega
     have i:=i.ext o.ext;have f:=f.trans o.ext;have g:=o.At;refine⟨Mod.of_ext o.ext,Hh ?_⟩;refine Qc Qb (e:=ty152) rfl g rfl rfl rfl (by simp[Qg,itC,Value.oneCell']) fun R I v=>?_
     refine⟨Qj v D,Hh ?_⟩;refine Qc Qb (e:=ty4) rfl ((v.block m E.symm).trans i) rfl rfl rfl Oj fun O J u=>?_
     refine⟨Qj u C,Hh ?_⟩;exact⟨(n,m),⟨u.ext (v.ext f D) C,(u.block n E).trans I,J,D,C⟩,Rr⟩
    .intro n U o;have D:F.heap.size<=n:=by rw[o.block];exact f.size
     have E:n≠m:=by have:=i.lt;rw[o.block];omega
     have i:=i.ext o.ext;have f:=f.trans o.ext;have g:=o.At;have K:=K.ext o.ext;refine⟨Mod.of_ext o.ext,Hh ?_⟩;refine(Xa _ S pc _ K item now N.rows).mono ?_;rintro _ aa ⟨rfl,j⟩;have f:=f.trans j;have g:=g.ext j;have i:=i.ext j;refine⟨Mod.of_ext j,Hh ?_⟩;refine Qc Qb (e:=ty152) rfl g rfl rfl rfl (by simp[Qg,itC,Value.oneCell']) fun R I v=>?_
     refine⟨Qj v D,Hh ?_⟩;refine Qc Qb (e:=ty4) rfl ((v.block m E.symm).trans i) rfl rfl rfl Oj fun O J u=>?_
     refine⟨Qj u C,Hh ?_⟩;exact⟨(n,m),⟨u.ext (v.ext f D) C,(u.block n E).trans I,J,D,C⟩,Rr⟩
  .intro n U o;have D:F.heap.size<=n:=by rw[o.block];exact f.size
   have f:=f.trans o.ext;have g:=o.At;refine⟨Mod.of_ext o.ext,Hh ?_⟩;refine⟨?_,?_⟩
   .refine(Xo (N.ext f)).mono ?_;rintro _ b4 ⟨pc,S,rfl,K,L⟩;have f:=f.trans L;have g:=g.ext L;refine⟨Mod.of_ext L,Hh ?_⟩;refine⟨?_,?_⟩
    .refine(Xa _ S pc _ K item now N.rows).mono ?_;rintro _ aa ⟨rfl,j⟩;have f:=f.trans j;have g:=g.ext j;refine⟨Mod.of_ext j,Hh ?_⟩;intro m Y s;have C:F.heap.size<=m:=by rw[s.block];exact f.size
     have E:n≠m:=by have:=g.lt;rw[s.block];omega
     have f:=f.trans s.ext;have i:=s.At;have g:=g.ext s.ext;refine⟨Mod.of_ext s.ext,Hh ?_⟩;refine Qc Qb (e:=ty152) rfl g rfl rfl rfl (by simp[Qg,itC,Value.oneCell']) fun R I v=>?_
     refine⟨Qj v D,Hh ?_⟩;refine Qc Qb (e:=ty4) rfl ((v.block m E.symm).trans i) rfl rfl rfl Oj fun O J u=>?_
     refine⟨Qj u C,Hh ?_⟩;exact⟨(n,m),⟨u.ext (v.ext f D) C,(u.block n E).trans I,J,D,C⟩,Rr⟩
    .intro m Y s;have C:F.heap.size<=m:=by rw[s.block];exact f.size
     have E:n≠m:=by have:=g.lt;rw[s.block];omega
     have f:=f.trans s.ext;have i:=s.At;have g:=g.ext s.ext;have K:=K.ext s.ext;refine⟨Mod.of_ext s.ext,Hh ?_⟩;refine(Xa _ S pc _ K item now N.rows).mono ?_;rintro _ aa ⟨rfl,j⟩;have f:=f.trans j;have g:=g.ext j;have i:=i.ext j;refine⟨Mod.of_ext j,Hh ?_⟩;refine Qc Qb (e:=ty152) rfl g rfl rfl rfl (by simp[Qg,itC,Value.oneCell']) fun R I v=>?_
     refine⟨Qj v D,Hh ?_⟩;refine Qc Qb (e:=ty4) rfl ((v.block m E.symm).trans i) rfl rfl rfl Oj fun O J u=>?_
     refine⟨Qj u C,Hh ?_⟩;exact⟨(n,m),⟨u.ext (v.ext f D) C,(u.block n E).trans I,J,D,C⟩,Rr⟩
   .intro m Y s;have C:F.heap.size<=m:=by rw[s.block];exact f.size
    have E:n≠m:=by have:=g.lt;rw[s.block];omega
    have f:=f.trans s.ext;have i:=s.At;have g:=g.ext s.ext;refine⟨Mod.of_ext s.ext,Hh ?_⟩;refine(Xo (N.ext f)).mono ?_;rintro _ b4 ⟨pc,S,rfl,K,L⟩;have f:=f.trans L;have g:=g.ext L;have i:=i.ext L;refine⟨Mod.of_ext L,Hh ?_⟩;refine(Xa _ S pc _ K item now N.rows).mono ?_;rintro _ aa ⟨rfl,j⟩;have f:=f.trans j;have g:=g.ext j;have i:=i.ext j;refine⟨Mod.of_ext j,Hh ?_⟩;refine Qc Qb (e:=ty152) rfl g rfl rfl rfl (by simp[Qg,itC,Value.oneCell']) fun R I v=>?_
    refine⟨Qj v D,Hh ?_⟩;refine Qc Qb (e:=ty4) rfl ((v.block m E.symm).trans i) rfl rfl rfl Oj fun O J u=>?_
    refine⟨Qj u C,Hh ?_⟩;exact⟨(n,m),⟨u.ext (v.ext f D) C,(u.block n E).trans I,J,D,C⟩,Rr⟩
  .intro m Y s;have C:F.heap.size<=m:=by rw[s.block];exact f.size
   have f:=f.trans s.ext;have i:=s.At;refine⟨Mod.of_ext s.ext,Hh ?_⟩;refine⟨?_,?_⟩
   .refine(Xo (N.ext f)).mono ?_;rintro _ b4 ⟨pc,S,rfl,K,L⟩;have f:=f.trans L;have i:=i.ext L;refine⟨Mod.of_ext L,Hh ?_⟩;refine⟨?_,?_⟩
    .refine(Xa _ S pc _ K item now N.rows).mono ?_;rintro _ aa ⟨rfl,j⟩;have f:=f.trans j;have i:=i.ext j;refine⟨Mod.of_ext j,Hh ?_⟩;intro n U o;have D:F.heap.size<=n:=by rw[o.block];exact f.size
     have E:n≠m:=by have:=i.lt;rw[o.block];omega
     have i:=i.ext o.ext;have f:=f.trans o.ext;have g:=o.At;refine⟨Mod.of_ext o.ext,Hh ?_⟩;refine Qc Qb (e:=ty152) rfl g rfl rfl rfl (by simp[Qg,itC,Value.oneCell']) fun R I v=>?_
     refine⟨Qj v D,Hh ?_⟩;refine Qc Qb (e:=ty4) rfl ((v.block m E.symm).trans i) rfl rfl rfl Oj fun O J u=>?_
     refine⟨Qj u C,Hh ?_⟩;exact⟨(n,m),⟨u.ext (v.ext f D) C,(u.block n E).trans I,J,D,C⟩,Rr⟩
    .intro n U o;have D:F.heap.size<=n:=by rw[o.block];exact f.size
     have E:n≠m:=by have:=i.lt;rw[o.block];omega
     have i:=i.ext o.ext;have f:=f.trans o.ext;have g:=o.At;have K:=K.ext o.ext;refine⟨Mod.of_ext o.ext,Hh ?_⟩;refine(Xa _ S pc _ K item now N.rows).mono ?_;rintro _ aa ⟨rfl,j⟩;have f:=f.trans j;have g:=g.ext j;have i:=i.ext j;refine⟨Mod.of_ext j,Hh ?_⟩;refine Qc Qb (e:=ty152) rfl g rfl rfl rfl (by simp[Qg,itC,Value.oneCell']) fun R I v=>?_
     refine⟨Qj v D,Hh ?_⟩;refine Qc Qb (e:=ty4) rfl ((v.block m E.symm).trans i) rfl rfl rfl Oj fun O J u=>?_
     refine⟨Qj u C,Hh ?_⟩;exact⟨(n,m),⟨u.ext (v.ext f D) C,(u.block n E).trans I,J,D,C⟩,Rr⟩
   .intro n U o;have D:F.heap.size<=n:=by rw[o.block];exact f.size
    have E:n≠m:=by have:=i.lt;rw[o.block];omega
    have i:=i.ext o.ext;have f:=f.trans o.ext;have g:=o.At;refine⟨Mod.of_ext o.ext,Hh ?_⟩;refine(Xo (N.ext f)).mono ?_;rintro _ b4 ⟨pc,S,rfl,K,L⟩;have f:=f.trans L;have g:=g.ext L;have i:=i.ext L;refine⟨Mod.of_ext L,Hh ?_⟩;refine(Xa _ S pc _ K item now N.rows).mono ?_;rintro _ aa ⟨rfl,j⟩;have f:=f.trans j;have g:=g.ext j;have i:=i.ext j;refine⟨Mod.of_ext j,Hh ?_⟩;refine Qc Qb (e:=ty152) rfl g rfl rfl rfl (by simp[Qg,itC,Value.oneCell']) fun R I v=>?_
    refine⟨Qj v D,Hh ?_⟩;refine Qc Qb (e:=ty4) rfl ((v.block m E.symm).trans i) rfl rfl rfl Oj fun O J u=>?_
    refine⟨Qj u C,Hh ?_⟩;exact⟨(n,m),⟨u.ext (v.ext f D) C,(u.block n E).trans I,J,D,C⟩,Rr⟩
 rintro ⟨n,m⟩ cw ⟨dy,g,i,D,C⟩;simp only at g i D C;have e6:=Qer (Qdk fr) item now;rw[e6]at g i;have fl:(!((Qm z).filter (thQ item now)).isEmpty)=Qzv z item now:=rfl;have fb:Qu9 item ((Qm z).filter (thQ item now))=Qnd z item now:=rfl;simp only[fl,fb]at g i;have f8:(Qnd z item now).tags.size<1000:=Qfb item ((Qm z).filter (thQ item now)) fun y aq=>Qd2 bh y (Ze.1 aq).1
 have f7:(Q1g z item now).length<=8:=(Qo6 item ((Qm z).filter (thQ item now)) fun y aq=>Qd2 bh y (Ze.1 aq).1).2.2;have cu:=cr.trans dy;replace V:=V.ext dy;have gh:=cr.size;refine Gg ?_;refine⟨.string (Qnd z item now).tags,g.one rfl,Gg ?_⟩;refine⟨sz2 (by decide) Om,Gg ?_⟩;refine(Qdg (Qg5 (Qnd z item now).tags) cw (ck.ext cu) (by unfold Qg5;rw[Zbd];have:(⟨#[59]⟩:Bj).size=1:=rfl;omega)).mono ?_;rintro _ gw ⟨b7,c3,rfl,cq,c2,bz⟩;have fm:Xg (Qg5 (Qnd z item now).tags)=Q1g z item now:=rfl;rw[fm]at cq⊢;refine Gg ?_;intro ai gx ak;refine Gg ?_;refine Qc Qb (e:=ty42) rfl ak.At rfl rfl rfl Oj fun w5 aj cn=>?_
 have aj:At w5 ai 42 [.slice b7 (Q1g z item now).length c3]:=aj;have bx:Ext cw w5:=cn.ext (bz.trans ak.ext) (by rw[ak.block];exact bz.size);have fz:cw.heap.size<=ai:=by rw[ak.block];exact bz.size
 have dv:SlT w5 b7 (Q1g z item now):=Xp.stay cq fun a M ab=>(cn.block _ (fun e=>by rw[ak.block]at e;omega)).trans (ak.ext.block _ ab)
 clear cn ak cq bz;replace V:=V.ext bx;replace g:=g.ext bx;replace i:=i.ext bx;have b0:=cu.trans bx;have gm:=cu.size;refine Gg ?_;refine(Qju (cf.ext b0) (Q7n c z bh cp.len)).mono ?_;rintro _ ae ⟨pp,ah,rfl,da,em,a8,fh,f4,c6⟩;have c8:=cf.lt;have gn:=b0.size;have bu:∀k,w.heap.size<=k->k<w5.heap.size->ae.heap[k]?=w5.heap[k]? := fun k b8 au=>a8.block k au fun h=>by have:=c8 k h;omega
 replace V:At ae Z 9 [.string item]:=(bu Z e1 V.lt).trans V;replace g:At ae n 152 _:=(bu n Om g.lt).trans g;replace i:At ae m 4 _:=(bu m Om i.lt).trans i;replace aj:At ae ai 42 _:=(bu ai Om aj.lt).trans aj;have fa:Gl ae:=(ck.ext b0).mod a8 en;have fx:=fh;refine Gg ?_;intro az gy bt;refine Gg ?_;refine Qc Qb (e:=ty85) rfl bt.At rfl rfl rfl Oj fun U I dr=>?_
 have I:At U az 85 [Pj pp]:=I;have et:ae.heap.size<=az:=by rw[bt.block];exact Zf _
 have d0:Ext ae U:=dr.ext bt.ext et;clear dr bt;refine Gg ?_;refine(Qvm p z (fun _=>False) U).mono ?_;rintro _ Y ⟨bw,ba,rfl,f3,f1,f2,dc,cv⟩;refine Gg ?_;intro a0 gs bq;refine Gg ?_;refine Qc Qb (e:=ty244) rfl bq.At rfl rfl rfl (by simp[Qg,apV,Value.oneCell']) fun b3 J dp=>?_
 have J:At b3 a0 244 [apV bw ba]:=J;have eu:Y.heap.size<=a0:=by rw[bq.block];exact Zf _
 have b1:Ext Y b3:=dp.ext bq.ext eu;clear dp bq;refine Gg ?_;intro a3 R br;refine Gg ?_;refine Qc Qb (e:=ty249) rfl br.At rfl rfl rfl (by simp[Qg,Xmv,Value.oneCell']) fun O a4 u=>?_
 have a4:At O a3 249 (Xmv Z az ai a0 m n):=a4;have ew:b3.heap.size<=a3:=by rw[br.block];exact Zf _
 have bd:Ext b3 O:=u.ext br.ext ew;clear u br;have ac:=d0.trans (cv.trans (b1.trans bd));have fp:=cv.trans (b1.trans bd);have gp:=a8.size;have gq:=d0.size;have gr:=cv.size;have gi:=b1.size;have gj:=bd.size;have gg:=dc.wb.lt;have gd:=V.lt;have gf:=g.lt;have l10:=i.lt;have ga:=aj.lt;have gb:=I.lt;have cd:=da.lt;have f5:pp<ae.heap.size:=by obtain⟨t,sh,h,_⟩:=c6;exact h.lt
 have bk:Xg9 O p bw ba Z az ai a0 pp c z item (Q1g z item now) (fun _=>False):=by
  refine⟨dc.ext (b1.trans bd),Om,V.ext ac,I.ext fp,⟨fun k=>k=pp\/ah k,c6.keep fun k P fi=>⟨ac.block k P,fi⟩,?_⟩,⟨b7,c3,aj.ext ac,?_,fun a M cm=>?_⟩,J.ext bd,Om,Om,Om,Om⟩
  .rintro (h|h)
   .omega
   .have:=cd ba h;omega
  .refine Xp.stay dv fun a M ab=>(ac.block a.block Om).trans (a8.block a.block ab fun h=>?_)
   have b8:=c8 _ h;have au:=c2 a M;omega
  .have au:=c2 a M;obtain⟨y,g0,fq⟩:=Zbs cm;have dw:=dv;rw[fq]at dw;obtain⟨d7,db,e4⟩:=dw 0 y rfl;have:d7=a:=by rw[M]at db;injection db with e;exact e.symm
   subst this;have fe:=cell_lt (Qp e4);rw[add_block]at fe;omega
 have c9:=da.ext ac;have e7:=fa.ext ac;replace g:=g.ext ac;replace i:=i.ext ac;have ej:Mod T w O:=((Mod.of_ext b0).trans a8).trans (Mod.of_ext ac);have e2:n≠ba:=Om;have er:m≠ba:=Om;have ey:a3≠ba:=Om;refine Gg ?_;obtain⟨v1,fu,el,_⟩:=id c9;refine(Qad el).mono ?_;rintro _ fs ⟨pw,d5,rfl,de,dz⟩;refine Gg ?_;have cg:=(Qb7 c.width z).2;have f9:(Qak z).length<1000000:=(by have au:=Zc peB z;unfold Qak;omega)
 refine(Qhp fs d5 pw _ _ de person (by
  have:(evs (Qi c.width z).rs).length=(Qak z).length:=by rw[cg]
  simp[evs]at this;omega)).mono ?_
 rintro _ ay ⟨b5,c0,rfl,al,fo⟩;rw[cg]at al⊢;have eg:hist (Qak z) person=Qfs z person:=rfl;rw[eg]at al⊢;have eh:=Qtg z person;have c4:∀e∈Qfs z person,e∈z/\peB e=true:=fun e df=>⟨(Q9w df).1,(Q9w df).2.1⟩
 unfold Xd5;generalize Qfs z person=H at al eh c4⊢;have ag:=dz.trans fo;have gk:=ag.size;have fj:=al.sl Qau;have ee:∀a,b5=some a->a.block≠ba:=fun a M=>(by have b8:=(al.block M).1;have au:=dz.size;omega)
 have ef:∀a,b5=some a->a.block<ay.heap.size:=fun a M=>(al.block M).2
 clear al de cg;replace bk:=bk.ext ag;have bl:=c9.ext ag;have e8:=e7.ext ag;replace g:=g.ext ag;replace i:=i.ext ag;replace a4:=a4.ext ag;have c5:=ej.trans (Mod.of_ext ag);have c7:¬ah ba:=fun h=>by have:=cd ba h;omega
 have e3:10<=ba:=Om;refine Gg ?_
 refine Qh Qb (fun(q:Nat×Option Addr×Nat×List Ev) w'=>q.1<=H.length/\q.2.2.2=(H.take q.1).filter (Qi9 c z item now)/\Own evC 8 69 ay.heap.size w' q.2.1 q.2.2.1 q.2.2.2/\ApAt w' p bw ba z (rowB q.2.1)/\Mod (fun k=>k=ba) ay w')
  (fun|(k,B,d,af)=>[(17,Pj a3),(18,.slice B af.length d),(54,.slice b5 H.length c0),(55,Vj H.length),(56,Vj (k:Nat))]) (fun q=>H.length-q.1) (0,none,0,[]) ⟨Zt _,rfl,Own.nil,bk.ap.keepR (fun k _ _=>⟨rfl,fun h=>by obtain⟨a,M,_⟩:=h;cases M⟩) id id,Mod.refl _ _⟩ Rr ?_
 rintro ⟨k,B,d,af⟩ d2 ⟨P,a9,an,bm,W⟩;simp only at P a9 an bm;have fy:af.length<=k:=(by rw[a9];have:=Zc (Qi9 c z item now) (H.take k);rw[Zn]at this;omega);refine Hh ?_;constructor
 .intro ab;have ab:k<H.length:=Su ab;obtain⟨a,ec,dd⟩:=(Qa7 fj fun a M=>W.block a.block (ef a M) (ee a M)).get ab;subst ec;have dx:=Qdb H k ab;have dj:=c4 H[k] (Zu ab);generalize H[k]=e at dd dx dj;obtain⟨dh,du⟩:=dj;have dk:=bh e dh;have fd:=Qtu dk;have fc:=(Xlt dk).1 du;have bb:(H.take (k+1)).filter (Qi9 c z item now)=af++if Qi9 c z item now e=true then [e] else []:=(by rw[dx,a9,Zq];cases h:Qi9 c z item now e<;>simp[h])
  have ei:=bk.go bm W;have eo:=bl.keep fun b av=>W.block b (bl.lt b av) (fun e=>c7 (e▸av))
  have e9:=e8.mod W fun k P=>by rw[P];exact e3
  have eb:=g.mod W e2;have d9:=i.mod W er;have ca:=a4.mod W ey;refine Gg ?_;refine⟨a,Ix,Gg ?_⟩;refine⟨evC e,⟨rfl,dd⟩,Gg ?_⟩;intro bi gu bs;refine Gg ?_;refine Qc Qb (e:=ty69) rfl bs.At rfl rfl rfl (Qbn e) fun ar bj dq=>?_
  have bj:At ar bi 69 (evC e):=bj;have ez:d2.heap.size<=bi:=by rw[bs.block];exact Zf _
  have be:Ext d2 ar:=dq.ext bs.ext ez;have gl:=W.size;clear dq bs;refine Gg ?_;refine Ql1 (ι:=Unit) (fun _=>[(17,Pj a3),(18,.slice B af.length d),(20,Pj bi),(54,.slice (some a) H.length c0),(55,Vj H.length),(56,Vj (k:Nat)),(65,.bool (Qi9 c z item now e))]) (fun _ w'=>ApAt w' p bw ba z (rowB B)/\Mod (fun k=>k=ba) ar w') ?_ ?_
  .refine Dr .same [0,1,2,3,4] [5] (Hh ?_);have ax:Ext ar ar.drew:=(Ext.refl ar).drew;have a5:=bj.ext ax;have j:=be.trans ax;generalize ar.drew=d3 at ax a5 j⊢;refine⟨Vj e.kind,a5.one rfl,Hh ?_⟩;refine⟨⟨Om,Om⟩,Hh ?_⟩;obtain⟨fv,cj,e5⟩:=Xk8 (b6:=Z) (b12:=az) (b11:=ai) (b13:=a0) (b10:=m) (b9:=n) fd.1 fc;rcases e5 with⟨b2,d1,rfl⟩|⟨b2,rfl⟩|⟨b2,d1,rfl⟩
   .have ch:Qi9 c z item now e=Qz3 c z item (Q1g z item now) e:=by unfold Qi9;rw[if_neg Om]
    rw[ch];refine⟨_,(ca.ext j).one (by rw[Zbl];exact cj),Hh ?_⟩;refine⟨evC e,⟨rfl,a5.all⟩,Hh ?_⟩;refine(Q5r (eo.ext j) (e9.ext j) ff (ei.ext j) (fun k P=>by obtain⟨y,aq,rfl⟩:=P;have:=(an.block aq).2;have:=j.size;omega) Om fk e dh du).mono ?_;rintro _ cx ⟨rfl,bo,a7⟩;refine Hh ?_;exact⟨(),⟨bo,(Mod.of_ext ax).trans a7⟩,Rr⟩
   .have ch:Qi9 c z item now e=(Qzv z item now&&decide (e.text=(Qnd z item now).maker)):=by unfold Qi9;rw[if_pos b2]
    rw[ch];refine⟨_,(ca.ext j).one (by rw[Zbl];exact cj),Hh ?_⟩;refine⟨evC e,⟨rfl,a5.all⟩,Hh ?_⟩;refine(Q5v m n _ _ e d3 (d9.ext j) (eb.ext j)).mono ?_;rintro _ cx ⟨rfl,bg⟩;refine Hh ?_;exact⟨(),⟨(bm.ext j).ext bg,Mod.of_ext (ax.trans bg)⟩,Rr⟩
   .rw[Q4f b2 d1];refine⟨_,(ca.ext j).one (by rw[Zbl];exact cj),Hh ?_⟩;refine⟨evC e,⟨rfl,a5.all⟩,Hh ?_⟩;refine(Q5z e d3).mono ?_;rintro _ cx ⟨rfl,bg⟩;refine Hh ?_;exact⟨(),⟨(bm.ext j).ext bg,Mod.of_ext (ax.trans bg)⟩,Rr⟩
  rintro _ cx ⟨bo,a7⟩;have cb:=W.trans ((Mod.of_ext be).trans a7);have e0:bi≠ba:=Om;have ea:=bj.mod a7 e0;have bv:=(an.ext be).keep fun a M=>a7.block a.block (by have:=((an.ext be).block M).2;omega) (fun e=>by have:=((an.ext be).block M).1;omega)
  refine Gg ?_;constructor
  .intro ao;have ao:Qi9 c z item now e=true:=ao;rw[if_pos ao]at bb;refine Gg ?_;refine⟨evC e,⟨rfl,ea.all⟩,Gg ?_⟩;intro fw gv aw;refine Gg ?_;refine Qq Qq2 (l:=af) (news:= [e]) rfl (bv.ext aw.ext) rfl (Qq2.new1 (x:=e) aw) (by simp;omega) (by have:=cb.size;have:=aw.ext.size;omega) fun cy d8 d4 dt di ed=>?_
   have ek:Mod (fun k=>k=ba) ay d4:=Qn (cb.trans (Mod.of_ext aw.ext)) ((Xn (S:=fun k=>ay.heap.size<=k) di (Xm (bv.ext aw.ext))).mono fun k _ P=>.inr P);have dm:∀b,b<ay.heap.size->¬rowB B b:=fun b av h=>(by obtain⟨y,aq,rfl⟩:=h;have:=(bv.block aq).1;omega)
   have ep:ApAt d4 p bw ba z (rowB cy):=(bo.ext aw.ext).keepR (fun k P cm=>Q5a di ed k P cm) (dm bw Om) (dm ba Om);generalize af++[e]=d6 at dt bb⊢;refine Gg ?_;refine⟨_,wrap_succ Om,Gg ?_⟩;exact⟨(k+1,cy,d8,d6),Sj,⟨Sj,bb.symm,dt,ep,ek⟩,Rr⟩
  .intro ao;have ao:¬Qi9 c z item now e=true:=by rw[Zai];exact ao
   rw[if_neg ao,Z4]at bb;refine Gg ?_;refine⟨_,wrap_succ Om,Gg ?_⟩;exact⟨(k+1,B,d,af),Sj,⟨Sj,bb.symm,bv,bo,cb⟩,Rr⟩
 .intro cl;have cl:H.length<=k:=Su cl;rw[Zd cl]at a9;rw[<- a9];refine Gg ?_;refine⟨B,d,rfl,Qhk an (by have:=c5.size;omega),Qn c5 (W.mono fun k _ P=>.inr (by rw[P];omega)),ah,bl.keep fun b av=>W.block b (bl.lt b av) (fun e=>c7 (e▸av)),fun k P=>(em k P).imp id fun h=>Om,fun a M h=>?_⟩;have b8:=(an.block M).1;have au:=cd a.block h;omega
def wsC(a:Nat->Int):List Value:= [Vj (a 0),Vj (a 1),Vj (a 2),Vj (a 3),Vj (a 4),Vj (a 5)]
def Xbu(c:Cfg)(z:List Ev)(person item:Bj)(now:Int)(k:Nat):Int:=Xlv c z person item now (k:Nat)
theorem Qxs{w f p c z}(h:WT w f p c z)(x:Qqm c z)(m:Gl w)(s:∀b,f b->10<=b)(a)(person item:Bj)(now) :
 Cal Tryz.prog 65 [Pj p,.agg (wsC a).toArray,.string person,.string item,Vj now] w fun r w'=>∃A cap T,r=.tuple #[.slice A 6 cap,Vj (Qqq (Qvc (Xbu c z person item now) a 6))]/\Own ptC 3 234 w.heap.size w' A cap (Qvc (Xbu c z person item now) a 6)/\WT w' T p c z/\(∀b,T b->f b\/w.heap.size<=b)/\(∀a,A=some a->¬T a.block)/\Mod f w w':=by
 have C:=m.size;refine(Xgg (Xbu c z person item now) a (fun _ T i=>WT i T p c z/\Gl i/\∀b,T b->10<=b) f p person item now w ⟨h,m,s⟩ (fun k T i d=>d.1.lt) (fun k T i D d e=>⟨d.1.mod e fun b g=>g.1,d.2.1.mod e fun b g=>Zw C g.2,d.2.2⟩) ?_).mono ?_
 .intro k E T i d;have B:=d.2.1.size;refine(Xc0 d.1 x d.2.1 person item now k).mono ?_;rintro r D ⟨j,e,n,v,l⟩;exact⟨j,e,n,⟨v,d.2.1.mod e d.2.2,fun b g=>(l b g).elim (d.2.2 b) fun h=>Zw B h⟩,l⟩
 .rintro r w' ⟨A,cap,T,j,y,d,u,o,e⟩;exact⟨A,cap,T,j,y,d.1,u,o,e⟩
