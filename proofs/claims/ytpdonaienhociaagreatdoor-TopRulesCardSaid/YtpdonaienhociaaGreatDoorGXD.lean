import Derived.Test.YtpdonaienhociaaGreatDoorGW
set_option linter.all false
namespace Go.Proofs.YtpdonaienhociaaGreatDoor
open Go.Se Go.RowKit
theorem Q47 (bt:Nat) (tags:List Bj) (A:Option Addr) (cc:Nat) (x:Bj) (w:World) (hb:At w bt 36 [.slice A tags.length cc]) (hs:SlT w A tags) (hl:tags.length<1000000) :
 Cal Tryz.prog 146 [.string x,Pj bt] w fun r w'=>r = .bool (decide (x∈tags))/\w'=w:=by
 refine Fi Tryz.func146 rfl _ rfl rfl (Hh ?_);refine⟨.slice A tags.length cc,hb.one0,Hh ?_⟩;refine(Qay tags A cc x w hs hl).mono ?_;rintro _ _ ⟨rfl,rfl⟩;refine Hh ?_;exact⟨rfl,rfl⟩
theorem Q7s (bt:Nat) (tags:List Bj) (A:Option Addr) (cc:Nat) (row:List Bj) (B:Option Addr) (cB:Nat) (w:World) (hb:At w bt 36 [.slice A tags.length cc]) (hs:SlT w A tags) (hl:tags.length<1000000) (hr:SlT w B row) (hrl:row.length<1000000) :
 Cal Tryz.prog 134 [.slice B row.length cB,.func (.func 146) #[] #[Pj bt]] w fun r w'=>(∃ i:Int,r = Vj i /\ -1<=i/\(0<=i↔row.any (fun t=>decide (t∈tags))=true))/\w'=w:=by
 refine Fi Tryz.func134 rfl _ rfl rfl (Hh ?_)
 refine Qh Qb (fun(k:Nat) w'=>k<=row.length/\(row.take k).any (fun t=>decide (t∈tags))=false/\w'=w)
  (fun k => [(0,.slice B row.length cB),(1,.func (.func 146) #[] #[Pj bt]),(7,Vj row.length),(8,Vj (k:Nat))]) (fun k=>row.length-k) 0 ⟨Zu _,rfl,rfl⟩ Rr ?_
 rintro k w2 ⟨hk,hno,hw2⟩;subst hw2;refine Hh ?_;constructor
 . intro hlt;have hlt:k<row.length:=Su hlt;obtain⟨a2,hA,hc2⟩:=hr.get hlt;subst hA;have htk:(row.take (k+1)).any (fun t=>decide (t∈tags))=decide (row[k]∈tags):=by rw[Za hlt,List.any_append,hno];simp
   have hmem:row[k]∈row:=Zx hlt;generalize row[k]=y at hc2 htk hmem;refine Hh ?_;refine⟨a2,Ix,Hh ?_⟩;refine⟨.string y,Qs hc2,Hh ?_⟩;refine(Q47 bt tags A cc y w2 hb hs hl).mono ?_;rintro _ _ ⟨rfl,rfl⟩;generalize hq:decide (y∈tags)=q at htk ⊢;refine Hh ?_;constructor
   . intro hc;have hc:q=true:=hc;refine Hh ?_;refine⟨⟨k,rfl,Om,?_⟩,rfl⟩;simp only[Int.natCast_nonneg,true_iff,Zcb];exact⟨y,hmem,by rw[hq,hc]⟩
   . intro hc;have hc:q=false:=hc;refine Hh ?_;refine⟨_,wrap_succ Om,Hh ?_⟩;exact⟨k+1,Om,⟨Om,by rw[htk,hc],rfl⟩,Rr⟩
 . intro hge;have hge:row.length<=k:=Su hge;rw[Zb hge] at hno;refine Hh ?_;exact⟨⟨-1,rfl,Om,by rw[hno];simp⟩,rfl⟩
theorem Q7l (bt:Nat) (tags:List Bj) (A:Option Addr) (cc:Nat) (row:List Bj) (B:Option Addr) (cB:Nat) (w:World) (hb:At w bt 36 [.slice A tags.length cc]) (hs:SlT w A tags) (hl:tags.length<1000000) (hr:SlT w B row) (hrl:row.length<1000000) :
 Cal Tryz.prog 145 [.slice B row.length cB,.func (.func 146) #[] #[Pj bt]] w fun r w'=>r = .bool (row.any fun t=>decide (t∈tags))/\w'=w:=by
 refine Fi Tryz.func145 rfl _ rfl rfl (Hh ?_);refine(Q7s bt tags A cc row B cB w hb hs hl hr hrl).mono ?_;rintro _ _ ⟨⟨i,rfl,hi1,hi2⟩,rfl⟩;refine Hh ?_;refine⟨?_,rfl⟩
 cases hq:row.any (fun t=>decide (t∈tags)) with
 | true=>rw[decide_eq_true (hi2.2 hq)]
 | false=>rw[decide_eq_false (fun h=>by rw[hi2.1 h] at hq;cases hq)]
structure Xd8 (w:World) (p bw ba b6 b12 b11 b13 pp:Nat) (c:Cfg) (z:List Ev) (item:Bj) (tags:List Bj) (R:Nat->Prop):Prop where
 ap:ApAt w p bw ba z R
 low:10<=ba
 item:At w b6 9 [.string item]
 pr:At w b12 95 [Pj pp]
 pairs:∃ S,Qbu w S pp (Qg0 c z)/\¬ S ba
 tags:∃ A cc,At w b11 36 [.slice A tags.length cc]/\SlT w A tags/\∀ a,A=some a->tags ≠ []->a.block≠ba
 apf:At w b13 239 [apV bw ba]
 ne:b6≠ba/\b12≠ba/\b11≠ba/\b13≠ba
theorem Xd8.go {w w1:World} {p bw ba b6 b12 b11 b13 pp:Nat} {c:Cfg} {z:List Ev} {item:Bj} {tags:List Bj} {R R1:Nat->Prop} (h:Xd8 w p bw ba b6 b12 b11 b13 pp c z item tags R) (hA:ApAt w1 p bw ba z R1) (hM:Mod (fun k=>k=ba) w w1):Xd8 w1 p bw ba b6 b12 b11 b13 pp c z item tags R1:=by
 obtain⟨S,hS,hSb⟩:=h.pairs;obtain⟨A,cc,h1,h2,h3⟩:=h.tags;obtain⟨n1,n2,n3,n4⟩:=h.ne;refine⟨hA,h.low,h.item.mod hM n1,h.pr.mod hM n2,⟨S,hS.keep fun k hk hs=>⟨hM.block k hk (fun e=>hSb (e ▸ hs)),hs⟩,hSb⟩,⟨A,cc,h1.mod hM n3,?_,h3⟩,h.apf.mod hM n4,h.ne⟩;exact fun i x hi=>(by obtain⟨a,ha,hc⟩:=h2 i x hi;refine⟨a,ha,?_⟩;exact fun j v hj=>hM.cell (hc j v hj) (by show ¬ _=ba;rw[add_block,add_block];exact h3 a ha (fun e=>by rw[e] at hi;simp at hi)))
theorem Xd8.ext {w w1:World} {p bw ba b6 b12 b11 b13 pp:Nat} {c:Cfg} {z:List Ev} {item:Bj} {tags:List Bj} {R:Nat->Prop} (h:Xd8 w p bw ba b6 b12 b11 b13 pp c z item tags R) (hx:Ext w w1):Xd8 w1 p bw ba b6 b12 b11 b13 pp c z item tags R:=h.go (h.ap.ext hx) (Mod.of_ext hx)
set_option maxHeartbeats 2000000 in
theorem Q3w {w:World} {T:Nat->Prop} {p:Nat} {c:Cfg} {z:List Ev} (hW:WT w T p c z) (hg:Gl w) (hz:z.length<1000) {bw ba b6 b12 b11 b13 pp:Nat} {item:Bj} {tags:List Bj} {R:Nat->Prop} (h:Xd8 w p bw ba b6 b12 b11 b13 pp c z item tags R) (hR:∀ k,R k->k<w.heap.size) (htl:tags.length<1000) (hsl:(Qg0 c z).length<1000) (e:Ev) (he:e∈z) (hpe:peB e=true) :
 Cal Tryz.prog 143 [evV e,Pj b6,Pj b12,Pj b11,Pj b13] w fun r w'=>r = .bool (Qyg c z item tags e)/\ApAt w' p bw ba z R/\Mod (fun k=>k=ba) w w':=by
 refine Fi Tryz.func143 rfl _ rfl rfl (Hh ?_);intro b1 w1 hn1;refine Gg ?_;have h1:At w1 b1 77 (evC e):=hn1.At;have hx1:=hn1.ext;have hb1:w.heap.size<=b1:=by rw[hn1.block];exact Zg _
 clear hn1;refine⟨evC e,⟨rfl,h1.all⟩,Gg ?_⟩;refine(Qcu e w1).mono ?_;rintro _ w2 ⟨rfl,hx2⟩;replace h1:=h1.ext hx2;replace hx1:=hx1.trans hx2;have h2:=h.ext hx1;refine Gg ?_;constructor
 . intro hq;have hq:Qy e<=0:=Su hq;refine Gg ?_;refine⟨?_,h2.ap,Mod.of_ext hx1⟩;unfold Qyg;rw[decide_eq_false (by omega:¬ 0<Qy e)];rfl
 intro hq;have hq:0<Qy e:=(by have hq:¬ Qy e<=0:=Su hq;omega);have hlk:Qyg c z item tags e=((!decide (e.item=item)&&decide (0<(Qgw (Qg0 c z) e.item item).1))||(Qp0 z e).any fun t=>decide (t∈tags)):=(by unfold Qyg;rw[decide_eq_true hq,Bool.true_and]);rw[hlk];clear hlk;refine Gg ?_;refine⟨.string e.item,h1.one rfl,Gg ?_⟩;refine⟨.string item,h2.item.one0,Gg ?_⟩;refine⟨Pj pp,fun _=>h2.pr.one0,Gg ?_⟩;refine⟨.string e.item,fun _=>h1.one rfl,Gg ?_⟩;refine⟨.string item,fun _=>h2.item.one0,Gg ?_⟩;obtain⟨S,hS,hSb⟩:=h2.pairs;refine⟨Unit,fun _=>(Qmt (Qgw (Qg0 c z) e.item item)),fun _ w'=>Ext w2 w',(),fun hg=>((Qoe w2 S pp _ hS e.item item hsl)).mono fun r w' h=>⟨(),h.1,h.2⟩,?_⟩;intro _ w3 h2
 have hx3:Ext w2 w3:=by
  rcases h2 with⟨_,h⟩ | ⟨_,h⟩
  . exact h
  . rw[h];exact Ext.refl _
 clear h2;refine Hh ?_;replace h1:=h1.ext hx3;replace hx1:=hx1.trans hx3;replace h2:=h2.ext hx3;generalize hq2:(!decide (e.item=item)&&decide (0<(Qgw (Qg0 c z) e.item item).1))=q2;refine Gg ?_;constructor
 . intro hc;have hc:q2=true:=hc;subst hc;refine Gg ?_;exact⟨rfl,h2.ap,Mod.of_ext hx1⟩
 intro hc;have hc:q2=false:=hc;subst hc;clear hq2;obtain⟨A,cc,ht,hst,hnt⟩:=h2.tags;refine Gg ?_;refine⟨.slice A tags.length cc,ht.one0,Gg ?_⟩;constructor
 . intro h0;have h0:tags = []:=(by have:tags.length=0:=Su h0;exact Zba this);refine Gg ?_;refine⟨?_,h2.ap,Mod.of_ext hx1⟩;rw[h0];simp
 intro h0;refine Gg ?_;refine⟨apV bw ba,h2.apf.one0,Gg ?_⟩;refine⟨evC e,⟨rfl,h1.all⟩,Gg ?_⟩;refine(Qxf (hW.ext hx1) (hg.ext hx1) Om bw ba h2.ap (fun k hk=>Zal (hR k hk) hx1.size) h2.low e he hpe).mono ?_;rintro _ w4 ⟨A4,c4,rfl,hs4,hap4,hM4⟩;have h4:=h2.go hap4 hM4;obtain⟨A',cc',ht',hst',hnt'⟩:=h4.tags;have hbl:(Qp0 z e).length<1000000:=(by obtain⟨v,T0,hQ,_⟩:=hW;have:=(Qn5 e.item ((Ql (Qg2 z e)).filter (thQ e.item e.at_)) fun y hy=>hQ.may y (Qrn (Ze.1 (Ze.1 hy).1).1)).2.2;unfold Qp0;omega);refine Gg ?_;refine(Q7l b11 tags A' cc' (Qp0 z e) A4 c4 w4 ht' hst' Om hs4 hbl).mono ?_;rintro _ _ ⟨rfl,rfl⟩;refine Gg ?_;exact⟨by simp,hap4,(Mod.of_ext hx1).trans hM4⟩
theorem Q3z (b10 b9:Nat) (there:Bool) (it:It) (e:Ev) (w:World) (h10:At w b10 4 [.bool there]) (h9:At w b9 59 (itC it)) :
 Cal Tryz.prog 147 [evV e,Pj b10,Pj b9] w fun r w'=>r = .bool (there&&decide (e.text=it.maker))/\Ext w w':=by
 refine Fi Tryz.func147 rfl _ rfl rfl (Hh ?_);intro b1 w1 hn1;refine Gg ?_;have h1:At w1 b1 77 (evC e):=hn1.At;refine⟨.bool there,(h10.ext hn1.ext).one0,Gg ?_⟩;refine⟨.string e.text,fun _=>h1.one rfl,Gg ?_⟩;refine⟨.string it.maker,fun _=>(h9.ext hn1.ext).one rfl,Gg ?_⟩;exact⟨rfl,hn1.ext⟩
theorem Q33 (e:Ev) (w:World) :
 Cal Tryz.prog 148 [evV e] w fun r w'=>r = .bool false/\Ext w w':=by
 refine Fi Tryz.func148 rfl _ rfl rfl (Hh ?_);intro b1 w1 hn1;refine Gg ?_;exact⟨rfl,hn1.ext⟩
def Xi6 (b6 b12 b11 b13 b10 b9:Nat):List Value :=
 let nv:=Value.func (.func 148) #[] #[]
 let lk:=Value.func (.func 143) #[] #[Pj b6,Pj b12,Pj b11,Pj b13]
 let mk:=Value.func (.func 147) #[] #[Pj b10,Pj b9]
 [nv,lk,lk,lk,lk,nv,nv,mk,mk,nv,nv]
theorem Xho {b6 b12 b11 b13 b10 b9:Nat} {k:Int} (h0:0<=k) (h1:k<11):∃ fv,nth (Xi6 b6 b12 b11 b13 b10 b9) k.toNat=some fv /\
 ((1<=k/\k<=4/\fv = .func (.func 143) #[] #[Pj b6,Pj b12,Pj b11,Pj b13])
   \/ ((k=7\/k=8)/\fv = .func (.func 147) #[] #[Pj b10,Pj b9])
   \/ (¬ (1<=k/\k<=4)/\¬ (k=7\/k=8)/\fv = .func (.func 148) #[] #[])):=by
 obtain⟨n,rfl⟩:∃ n:Nat,k=n:=⟨k.toNat,Om⟩;rw[Za4];rcases n with _ | _ | _ | _ | _ | _ | _ | _ | _ | _ | _ | n
 all_goals first
  | omega
  | exact⟨_,rfl,.inl ⟨Om,Om,rfl⟩⟩
  | exact⟨_,rfl,.inr (.inl ⟨Om,rfl⟩)⟩
  | exact⟨_,rfl,.inr (.inr ⟨Om,Om,rfl⟩)⟩
theorem Q7m {z:List Ev} {person:Bj} {e:Ev} (h:e∈Qej z person):e∈z/\peB e=true/\e.person=person:=by
 unfold Qej hist Qao at h;obtain⟨h1,h2⟩:=Ze.1 h;obtain⟨h3,h4⟩:=Ze.1 h1;exact⟨h3,h4,Su h2⟩
theorem Q2j {c:Cfg} {z:List Ev} {item:Bj} {now:Int} {e:Ev} (h1:¬ (1<=e.kind/\e.kind<=4)) (h2:¬ (e.kind=7\/e.kind=8)):Qh5 c z item now e=false:=by
 unfold Qh5 Qyg;rw[if_neg h2];have:Qy e=0:=(by unfold Qy;rw[if_neg Om,if_neg Om,if_neg Om,if_neg Om]);rw[this];rfl
set_option maxHeartbeats 4000000 in
theorem Xcy {w:World} {T:Nat->Prop} {p:Nat} {c:Cfg} {z:List Ev} (hW:WT w T p c z) (hok:Qm7 c z) (hg:Gl w) (hTw:∀ k,T k->10<=k) (person item:Bj) (now:Int) :
 Cal Tryz.prog 85 [Pj p,.string person,.string item,Vj now] w fun r w'=>∃ A c',r = .slice A (Qvt c z person item now).length c'/\Own evC 8 77 w.heap.size w' A c' (Qvt c z person item now)/\Mod T w w'/\∃ T',WT w' T' p c z/\(∀ k,T' k->T k\/w.heap.size<=k)/\∀ a,A=some a->¬ T' a.block:=by
 have hlen:=hok.len;obtain⟨v0,T0,hQ0,_⟩:=id hW;have hzm:=hQ0.may;have hzr:=hQ0.rise;have hsz:=hg.size;have hsl:=(Qz5 c z hzm hok.len).len;refine Fi Tryz.func85 rfl _ rfl rfl (Hh ?_);intro b6 w1 hn1;refine Gg ?_;have h6:At w1 b6 9 [.string item]:=hn1.At;have hx1:=hn1.ext;have hb6:w.heap.size<=b6:=by rw[hn1.block];exact Zg _
 clear hn1;have hQ:=hQ0.ext hx1;refine Qiy (ι:=Nat×Nat) (fun q => [(0,Pj p),(1,.string person),(6,Pj b6),(9,Pj q.1),(10,Pj q.2)]) (fun q w'=>Ext w1 w'/\At w' q.1 59 (itC (Xw (Ql z) item now).1)/\At w' q.2 4 [.bool (Xw (Ql z) item now).2]/\w1.heap.size<=q.1/\w1.heap.size<=q.2) ?_ ?_
 . refine Q23 (.mods (fun k=>w1.heap.size<=k)) (Pq.seq [0,2,3] (Pq.three 1 (Pq.three 4 (Pq.seq [5,6,7] (Pq.two 8 (Pq.one 9 (Pq.seq [10,11] Pq.done)) 9 (Pq.one 8 (Pq.seq [10,11] Pq.done)))) 8 (Pq.two 4 (Pq.seq [5,6,7] (Pq.one 9 (Pq.seq [10,11] Pq.done))) 9 (Pq.one 4 (Pq.seq [5,6,7] (Pq.seq [10,11] Pq.done)))) 9 (Pq.two 4 (Pq.seq [5,6,7] (Pq.one 8 (Pq.seq [10,11] Pq.done))) 8 (Pq.one 4 (Pq.seq [5,6,7] (Pq.seq [10,11] Pq.done))))) 8 (Pq.two 1 (Pq.two 4 (Pq.seq [5,6,7] (Pq.one 9 (Pq.seq [10,11] Pq.done))) 9 (Pq.one 4 (Pq.seq [5,6,7] (Pq.seq [10,11] Pq.done)))) 9 (Pq.one 1 (Pq.one 4 (Pq.seq [5,6,7] (Pq.seq [10,11] Pq.done))))) 9 (Pq.two 1 (Pq.two 4 (Pq.seq [5,6,7] (Pq.one 8 (Pq.seq [10,11] Pq.done))) 8 (Pq.one 4 (Pq.seq [5,6,7] (Pq.seq [10,11] Pq.done)))) 8 (Pq.one 1 (Pq.one 4 (Pq.seq [5,6,7] (Pq.seq [10,11] Pq.done))))))) (by intro h;cases h) Qb mixed Kr (Hh ?_);have hE:Ext w1 w1.drew:=(Ext.refl w1).drew;have hb6l:=h6.lt;have h6d:At w1.drew b6 9 [.string item]:=h6;generalize w1.drew=wd at hE h6d ⊢;refine⟨.string item,⟨h6d.one0,by show ¬ (w1.heap.size<=b6);omega⟩,Hh ?_⟩;refine⟨?_,?_,?_⟩
   . refine(Xh (hQ.ext hE)).mono ?_;rintro _ wc ⟨pc,S,rfl,hcat,hxc⟩;have hE:=hE.trans hxc;refine⟨Mod.of_ext hxc,Hh ?_⟩;refine⟨?_,?_,?_⟩
     . refine(Q7 _ S pc _ hcat item now hQ.rows).mono ?_;rintro _ wa ⟨rfl,hxa⟩;have hE:=hE.trans hxa;refine⟨Mod.of_ext hxa,Hh ?_⟩;refine⟨?_,?_⟩
       . intro b9 w8 hn8;have hb9:w1.heap.size<=b9:=by rw[hn8.block];exact hE.size
         have hE:=hE.trans hn8.ext;have h9:=hn8.At;refine⟨Mod.of_ext hn8.ext,Hh ?_⟩;intro b10 w9 hn9;have hb10:w1.heap.size<=b10:=by rw[hn9.block];exact hE.size
         have hne:b9≠b10:=by have:=h9.lt;rw[hn9.block];omega
         have hE:=hE.trans hn9.ext;have h10:=hn9.At;have h9:=h9.ext hn9.ext;refine⟨Mod.of_ext hn9.ext,Hh ?_⟩;refine Qc Qb (e:=ty59) rfl h9 rfl rfl rfl (by simp[Qg,itC,Value.oneCell']) fun w12 h12 ho12 => ?_
         refine⟨Qj ho12 hb9,Hh ?_⟩;refine Qc Qb (e:=ty4) rfl ((ho12.block b10 hne.symm).trans h10) rfl rfl rfl Oj fun w13 h13 ho13 => ?_
         refine⟨Qj ho13 hb10,Hh ?_⟩;exact⟨(b9,b10),⟨ho13.ext (ho12.ext hE hb9) hb10,(ho13.block b9 hne).trans h12,h13,hb9,hb10⟩,Rr⟩
       . intro b10 w9 hn9;have hb10:w1.heap.size<=b10:=by rw[hn9.block];exact hE.size
         have hE:=hE.trans hn9.ext;have h10:=hn9.At;refine⟨Mod.of_ext hn9.ext,Hh ?_⟩;intro b9 w8 hn8;have hb9:w1.heap.size<=b9:=by rw[hn8.block];exact hE.size
         have hne:b9≠b10:=by have:=h10.lt;rw[hn8.block];omega
         have h10:=h10.ext hn8.ext;have hE:=hE.trans hn8.ext;have h9:=hn8.At;refine⟨Mod.of_ext hn8.ext,Hh ?_⟩;refine Qc Qb (e:=ty59) rfl h9 rfl rfl rfl (by simp[Qg,itC,Value.oneCell']) fun w12 h12 ho12 => ?_
         refine⟨Qj ho12 hb9,Hh ?_⟩;refine Qc Qb (e:=ty4) rfl ((ho12.block b10 hne.symm).trans h10) rfl rfl rfl Oj fun w13 h13 ho13 => ?_
         refine⟨Qj ho13 hb10,Hh ?_⟩;exact⟨(b9,b10),⟨ho13.ext (ho12.ext hE hb9) hb10,(ho13.block b9 hne).trans h12,h13,hb9,hb10⟩,Rr⟩
     . intro b9 w8 hn8;have hb9:w1.heap.size<=b9:=by rw[hn8.block];exact hE.size
       have hE:=hE.trans hn8.ext;have h9:=hn8.At;have hcat:=hcat.ext hn8.ext;refine⟨Mod.of_ext hn8.ext,Hh ?_⟩;refine⟨?_,?_⟩
       . refine(Q7 _ S pc _ hcat item now hQ.rows).mono ?_;rintro _ wa ⟨rfl,hxa⟩;have hE:=hE.trans hxa;have h9:=h9.ext hxa;refine⟨Mod.of_ext hxa,Hh ?_⟩;intro b10 w9 hn9;have hb10:w1.heap.size<=b10:=by rw[hn9.block];exact hE.size
         have hne:b9≠b10:=by have:=h9.lt;rw[hn9.block];omega
         have hE:=hE.trans hn9.ext;have h10:=hn9.At;have h9:=h9.ext hn9.ext;refine⟨Mod.of_ext hn9.ext,Hh ?_⟩;refine Qc Qb (e:=ty59) rfl h9 rfl rfl rfl (by simp[Qg,itC,Value.oneCell']) fun w12 h12 ho12 => ?_
         refine⟨Qj ho12 hb9,Hh ?_⟩;refine Qc Qb (e:=ty4) rfl ((ho12.block b10 hne.symm).trans h10) rfl rfl rfl Oj fun w13 h13 ho13 => ?_
         refine⟨Qj ho13 hb10,Hh ?_⟩;exact⟨(b9,b10),⟨ho13.ext (ho12.ext hE hb9) hb10,(ho13.block b9 hne).trans h12,h13,hb9,hb10⟩,Rr⟩
       . intro b10 w9 hn9;have hb10:w1.heap.size<=b10:=by rw[hn9.block];exact hE.size
         have hne:b9≠b10:=by have:=h9.lt;rw[hn9.block];omega
         have hE:=hE.trans hn9.ext;have h10:=hn9.At;have h9:=h9.ext hn9.ext;have hcat:=hcat.ext hn9.ext;refine⟨Mod.of_ext hn9.ext,Hh ?_⟩;refine(Q7 _ S pc _ hcat item now hQ.rows).mono ?_;rintro _ wa ⟨rfl,hxa⟩;have hE:=hE.trans hxa;have h9:=h9.ext hxa;have h10:=h10.ext hxa;refine⟨Mod.of_ext hxa,Hh ?_⟩;refine Qc Qb (e:=ty59) rfl h9 rfl rfl rfl (by simp[Qg,itC,Value.oneCell']) fun w12 h12 ho12 => ?_
         refine⟨Qj ho12 hb9,Hh ?_⟩;refine Qc Qb (e:=ty4) rfl ((ho12.block b10 hne.symm).trans h10) rfl rfl rfl Oj fun w13 h13 ho13 => ?_
         refine⟨Qj ho13 hb10,Hh ?_⟩;exact⟨(b9,b10),⟨ho13.ext (ho12.ext hE hb9) hb10,(ho13.block b9 hne).trans h12,h13,hb9,hb10⟩,Rr⟩
     . intro b10 w9 hn9;have hb10:w1.heap.size<=b10:=by rw[hn9.block];exact hE.size
       have hE:=hE.trans hn9.ext;have h10:=hn9.At;have hcat:=hcat.ext hn9.ext;refine⟨Mod.of_ext hn9.ext,Hh ?_⟩;refine⟨?_,?_⟩
       . refine(Q7 _ S pc _ hcat item now hQ.rows).mono ?_;rintro _ wa ⟨rfl,hxa⟩;have hE:=hE.trans hxa;have h10:=h10.ext hxa;refine⟨Mod.of_ext hxa,Hh ?_⟩;intro b9 w8 hn8;have hb9:w1.heap.size<=b9:=by rw[hn8.block];exact hE.size
         have hne:b9≠b10:=by have:=h10.lt;rw[hn8.block];omega
         have h10:=h10.ext hn8.ext;have hE:=hE.trans hn8.ext;have h9:=hn8.At;refine⟨Mod.of_ext hn8.ext,Hh ?_⟩;refine Qc Qb (e:=ty59) rfl h9 rfl rfl rfl (by simp[Qg,itC,Value.oneCell']) fun w12 h12 ho12 => ?_
         refine⟨Qj ho12 hb9,Hh ?_⟩;refine Qc Qb (e:=ty4) rfl ((ho12.block b10 hne.symm).trans h10) rfl rfl rfl Oj fun w13 h13 ho13 => ?_
         refine⟨Qj ho13 hb10,Hh ?_⟩;exact⟨(b9,b10),⟨ho13.ext (ho12.ext hE hb9) hb10,(ho13.block b9 hne).trans h12,h13,hb9,hb10⟩,Rr⟩
       . intro b9 w8 hn8;have hb9:w1.heap.size<=b9:=by rw[hn8.block];exact hE.size
         have hne:b9≠b10:=by have:=h10.lt;rw[hn8.block];omega
         have h10:=h10.ext hn8.ext;have hE:=hE.trans hn8.ext;have h9:=hn8.At;have hcat:=hcat.ext hn8.ext;refine⟨Mod.of_ext hn8.ext,Hh ?_⟩;refine(Q7 _ S pc _ hcat item now hQ.rows).mono ?_;rintro _ wa ⟨rfl,hxa⟩;have hE:=hE.trans hxa;have h9:=h9.ext hxa;have h10:=h10.ext hxa;refine⟨Mod.of_ext hxa,Hh ?_⟩;refine Qc Qb (e:=ty59) rfl h9 rfl rfl rfl (by simp[Qg,itC,Value.oneCell']) fun w12 h12 ho12 => ?_
         refine⟨Qj ho12 hb9,Hh ?_⟩;refine Qc Qb (e:=ty4) rfl ((ho12.block b10 hne.symm).trans h10) rfl rfl rfl Oj fun w13 h13 ho13 => ?_
         refine⟨Qj ho13 hb10,Hh ?_⟩;exact⟨(b9,b10),⟨ho13.ext (ho12.ext hE hb9) hb10,(ho13.block b9 hne).trans h12,h13,hb9,hb10⟩,Rr⟩
   . intro b9 w8 hn8;have hb9:w1.heap.size<=b9:=by rw[hn8.block];exact hE.size
     have hE:=hE.trans hn8.ext;have h9:=hn8.At;refine⟨Mod.of_ext hn8.ext,Hh ?_⟩;refine⟨?_,?_⟩
     . refine(Xh (hQ.ext hE)).mono ?_;rintro _ wc ⟨pc,S,rfl,hcat,hxc⟩;have hE:=hE.trans hxc;have h9:=h9.ext hxc;refine⟨Mod.of_ext hxc,Hh ?_⟩;refine⟨?_,?_⟩
       . refine(Q7 _ S pc _ hcat item now hQ.rows).mono ?_;rintro _ wa ⟨rfl,hxa⟩;have hE:=hE.trans hxa;have h9:=h9.ext hxa;refine⟨Mod.of_ext hxa,Hh ?_⟩;intro b10 w9 hn9;have hb10:w1.heap.size<=b10:=by rw[hn9.block];exact hE.size
         have hne:b9≠b10:=by have:=h9.lt;rw[hn9.block];omega
         have hE:=hE.trans hn9.ext;have h10:=hn9.At;have h9:=h9.ext hn9.ext;refine⟨Mod.of_ext hn9.ext,Hh ?_⟩;refine Qc Qb (e:=ty59) rfl h9 rfl rfl rfl (by simp[Qg,itC,Value.oneCell']) fun w12 h12 ho12 => ?_
         refine⟨Qj ho12 hb9,Hh ?_⟩;refine Qc Qb (e:=ty4) rfl ((ho12.block b10 hne.symm).trans h10) rfl rfl rfl Oj fun w13 h13 ho13 => ?_
         refine⟨Qj ho13 hb10,Hh ?_⟩;exact⟨(b9,b10),⟨ho13.ext (ho12.ext hE hb9) hb10,(ho13.block b9 hne).trans h12,h13,hb9,hb10⟩,Rr⟩
       . intro b10 w9 hn9;have hb10:w1.heap.size<=b10:=by rw[hn9.block];exact hE.size
         have hne:b9≠b10:=by have:=h9.lt;rw[hn9.block];omega
         have hE:=hE.trans hn9.ext;have h10:=hn9.At;have h9:=h9.ext hn9.ext;have hcat:=hcat.ext hn9.ext;refine⟨Mod.of_ext hn9.ext,Hh ?_⟩;refine(Q7 _ S pc _ hcat item now hQ.rows).mono ?_;rintro _ wa ⟨rfl,hxa⟩;have hE:=hE.trans hxa;have h9:=h9.ext hxa;have h10:=h10.ext hxa;refine⟨Mod.of_ext hxa,Hh ?_⟩;refine Qc Qb (e:=ty59) rfl h9 rfl rfl rfl (by simp[Qg,itC,Value.oneCell']) fun w12 h12 ho12 => ?_
         refine⟨Qj ho12 hb9,Hh ?_⟩;refine Qc Qb (e:=ty4) rfl ((ho12.block b10 hne.symm).trans h10) rfl rfl rfl Oj fun w13 h13 ho13 => ?_
         refine⟨Qj ho13 hb10,Hh ?_⟩;exact⟨(b9,b10),⟨ho13.ext (ho12.ext hE hb9) hb10,(ho13.block b9 hne).trans h12,h13,hb9,hb10⟩,Rr⟩
     . intro b10 w9 hn9;have hb10:w1.heap.size<=b10:=by rw[hn9.block];exact hE.size
       have hne:b9≠b10:=by have:=h9.lt;rw[hn9.block];omega
       have hE:=hE.trans hn9.ext;have h10:=hn9.At;have h9:=h9.ext hn9.ext;refine⟨Mod.of_ext hn9.ext,Hh ?_⟩;refine(Xh (hQ.ext hE)).mono ?_;rintro _ wc ⟨pc,S,rfl,hcat,hxc⟩;have hE:=hE.trans hxc;have h9:=h9.ext hxc;have h10:=h10.ext hxc;refine⟨Mod.of_ext hxc,Hh ?_⟩;refine(Q7 _ S pc _ hcat item now hQ.rows).mono ?_;rintro _ wa ⟨rfl,hxa⟩;have hE:=hE.trans hxa;have h9:=h9.ext hxa;have h10:=h10.ext hxa;refine⟨Mod.of_ext hxa,Hh ?_⟩;refine Qc Qb (e:=ty59) rfl h9 rfl rfl rfl (by simp[Qg,itC,Value.oneCell']) fun w12 h12 ho12 => ?_
       refine⟨Qj ho12 hb9,Hh ?_⟩;refine Qc Qb (e:=ty4) rfl ((ho12.block b10 hne.symm).trans h10) rfl rfl rfl Oj fun w13 h13 ho13 => ?_
       refine⟨Qj ho13 hb10,Hh ?_⟩;exact⟨(b9,b10),⟨ho13.ext (ho12.ext hE hb9) hb10,(ho13.block b9 hne).trans h12,h13,hb9,hb10⟩,Rr⟩
   . intro b10 w9 hn9;have hb10:w1.heap.size<=b10:=by rw[hn9.block];exact hE.size
     have hE:=hE.trans hn9.ext;have h10:=hn9.At;refine⟨Mod.of_ext hn9.ext,Hh ?_⟩;refine⟨?_,?_⟩
     . refine(Xh (hQ.ext hE)).mono ?_;rintro _ wc ⟨pc,S,rfl,hcat,hxc⟩;have hE:=hE.trans hxc;have h10:=h10.ext hxc;refine⟨Mod.of_ext hxc,Hh ?_⟩;refine⟨?_,?_⟩
       . refine(Q7 _ S pc _ hcat item now hQ.rows).mono ?_;rintro _ wa ⟨rfl,hxa⟩;have hE:=hE.trans hxa;have h10:=h10.ext hxa;refine⟨Mod.of_ext hxa,Hh ?_⟩;intro b9 w8 hn8;have hb9:w1.heap.size<=b9:=by rw[hn8.block];exact hE.size
         have hne:b9≠b10:=by have:=h10.lt;rw[hn8.block];omega
         have h10:=h10.ext hn8.ext;have hE:=hE.trans hn8.ext;have h9:=hn8.At;refine⟨Mod.of_ext hn8.ext,Hh ?_⟩;refine Qc Qb (e:=ty59) rfl h9 rfl rfl rfl (by simp[Qg,itC,Value.oneCell']) fun w12 h12 ho12 => ?_
         refine⟨Qj ho12 hb9,Hh ?_⟩;refine Qc Qb (e:=ty4) rfl ((ho12.block b10 hne.symm).trans h10) rfl rfl rfl Oj fun w13 h13 ho13 => ?_
         refine⟨Qj ho13 hb10,Hh ?_⟩;exact⟨(b9,b10),⟨ho13.ext (ho12.ext hE hb9) hb10,(ho13.block b9 hne).trans h12,h13,hb9,hb10⟩,Rr⟩
       . intro b9 w8 hn8;have hb9:w1.heap.size<=b9:=by rw[hn8.block];exact hE.size
         have hne:b9≠b10:=by have:=h10.lt;rw[hn8.block];omega
         have h10:=h10.ext hn8.ext;have hE:=hE.trans hn8.ext;have h9:=hn8.At;have hcat:=hcat.ext hn8.ext;refine⟨Mod.of_ext hn8.ext,Hh ?_⟩;refine(Q7 _ S pc _ hcat item now hQ.rows).mono ?_;rintro _ wa ⟨rfl,hxa⟩;have hE:=hE.trans hxa;have h9:=h9.ext hxa;have h10:=h10.ext hxa;refine⟨Mod.of_ext hxa,Hh ?_⟩;refine Qc Qb (e:=ty59) rfl h9 rfl rfl rfl (by simp[Qg,itC,Value.oneCell']) fun w12 h12 ho12 => ?_
         refine⟨Qj ho12 hb9,Hh ?_⟩;refine Qc Qb (e:=ty4) rfl ((ho12.block b10 hne.symm).trans h10) rfl rfl rfl Oj fun w13 h13 ho13 => ?_
         refine⟨Qj ho13 hb10,Hh ?_⟩;exact⟨(b9,b10),⟨ho13.ext (ho12.ext hE hb9) hb10,(ho13.block b9 hne).trans h12,h13,hb9,hb10⟩,Rr⟩
     . intro b9 w8 hn8;have hb9:w1.heap.size<=b9:=by rw[hn8.block];exact hE.size
       have hne:b9≠b10:=by have:=h10.lt;rw[hn8.block];omega
       have h10:=h10.ext hn8.ext;have hE:=hE.trans hn8.ext;have h9:=hn8.At;refine⟨Mod.of_ext hn8.ext,Hh ?_⟩;refine(Xh (hQ.ext hE)).mono ?_;rintro _ wc ⟨pc,S,rfl,hcat,hxc⟩;have hE:=hE.trans hxc;have h9:=h9.ext hxc;have h10:=h10.ext hxc;refine⟨Mod.of_ext hxc,Hh ?_⟩;refine(Q7 _ S pc _ hcat item now hQ.rows).mono ?_;rintro _ wa ⟨rfl,hxa⟩;have hE:=hE.trans hxa;have h9:=h9.ext hxa;have h10:=h10.ext hxa;refine⟨Mod.of_ext hxa,Hh ?_⟩;refine Qc Qb (e:=ty59) rfl h9 rfl rfl rfl (by simp[Qg,itC,Value.oneCell']) fun w12 h12 ho12 => ?_
       refine⟨Qj ho12 hb9,Hh ?_⟩;refine Qc Qb (e:=ty4) rfl ((ho12.block b10 hne.symm).trans h10) rfl rfl rfl Oj fun w13 h13 ho13 => ?_
       refine⟨Qj ho13 hb10,Hh ?_⟩;exact⟨(b9,b10),⟨ho13.ext (ho12.ext hE hb9) hb10,(ho13.block b9 hne).trans h12,h13,hb9,hb10⟩,Rr⟩
 rintro ⟨b9,b10⟩ w2 ⟨hx12,h9,h10,hb9,hb10⟩;simp only at h9 h10 hb9 hb10;have hcd:=Qee (Qda hzr) item now;rw[hcd] at h9 h10;have hthere:(!((Ql z).filter (thQ item now)).isEmpty)=Qx9 z item now:=rfl;have hitd:Qtz item ((Ql z).filter (thQ item now))=Qmd z item now:=rfl;simp only[hthere,hitd] at h9 h10;have htz:(Qmd z item now).tags.size<1000:=Qe4 item ((Ql z).filter (thQ item now)) fun y hy=>Qdp hzm y (Ze.1 hy).1
 have htl:(Qzr z item now).length<=8:=(Qn5 item ((Ql z).filter (thQ item now)) fun y hy=>Qdp hzm y (Ze.1 hy).1).2.2;have hx2:=hx1.trans hx12;replace h6:=h6.ext hx12;have s1:=hx1.size;refine Gg ?_;refine⟨.string (Qmd z item now).tags,h9.one rfl,Gg ?_⟩;refine⟨sz2 (by decide) Om,Gg ?_⟩;refine(Qc7 (Qgr (Qmd z item now).tags) w2 (hg.ext hx2) (by unfold Qgr;rw[Za5];have:(⟨#[59]⟩:Bj).size=1:=rfl;omega)).mono ?_;rintro _ w3 ⟨A3,c3,rfl,hs3,hA3,hx3⟩;have hti:Xg (Qgr (Qmd z item now).tags)=Qzr z item now:=rfl;rw[hti] at hs3 ⊢;refine Gg ?_;intro b11 w4 hn4;refine Gg ?_;refine Qc Qb (e:=ty36) rfl hn4.At rfl rfl rfl Oj fun w5 h11 ho5 => ?_
 have h11:At w5 b11 36 [.slice A3 (Qzr z item now).length c3]:=h11;have hx25:Ext w2 w5:=ho5.ext (hx3.trans hn4.ext) (by rw[hn4.block];exact hx3.size);have hb11:w2.heap.size<=b11:=by rw[hn4.block];exact hx3.size
 have hs5:SlT w5 A3 (Qzr z item now):=X7.stay hs3 fun a ha hlt=>(ho5.block _ (fun e=>by rw[hn4.block] at e;omega)).trans (hn4.ext.block _ hlt)
 clear ho5 hn4 hs3 hx3;replace h6:=h6.ext hx25;replace h9:=h9.ext hx25;replace h10:=h10.ext hx25;have hx5:=hx2.trans hx25;have s2:=hx2.size;refine Gg ?_;refine(Qi2 (hW.ext hx5) (Qz5 c z hzm hok.len)).mono ?_;rintro _ w6 ⟨pp,T',rfl,hW6,hT6,hM6,hpp,hppT,hP6⟩;have hTl:=hW.lt;have s5:=hx5.size;have hnT:∀ k,w.heap.size<=k->k<w5.heap.size->w6.heap[k]? = w5.heap[k]? := fun k h1 h2=>hM6.block k h2 fun h=>by have:=hTl k h;omega
 replace h6:At w6 b6 9 [.string item]:=(hnT b6 hb6 h6.lt).trans h6;replace h9:At w6 b9 59 _:=(hnT b9 Om h9.lt).trans h9;replace h10:At w6 b10 4 _:=(hnT b10 Om h10.lt).trans h10;replace h11:At w6 b11 36 _:=(hnT b11 Om h11.lt).trans h11;have hg6:Gl w6:=(hg.ext hx5).mod hM6 hTw;have h12l:=hpp;refine Gg ?_;intro b12 w7 hn7;refine Gg ?_;refine Qc Qb (e:=ty95) rfl hn7.At rfl rfl rfl Oj fun w8 h12 ho8 => ?_
 have h12:At w8 b12 95 [Pj pp]:=h12;have hb12:w6.heap.size<=b12:=by rw[hn7.block];exact Zg _
 have hx68:Ext w6 w8:=ho8.ext hn7.ext hb12;clear ho8 hn7;refine Gg ?_;refine(Qt8 p z (fun _=>False) w8).mono ?_;rintro _ w9 ⟨bw,ba,rfl,hbw,hba,hbal,hap9,hx9⟩;refine Gg ?_;intro b13 w10 hn10;refine Gg ?_;refine Qc Qb (e:=ty239) rfl hn10.At rfl rfl rfl (by simp[Qg,apV,Value.oneCell']) fun w11 h13 ho11 => ?_
 have h13:At w11 b13 239 [apV bw ba]:=h13;have hb13:w9.heap.size<=b13:=by rw[hn10.block];exact Zg _
 have hx911:Ext w9 w11:=ho11.ext hn10.ext hb13;clear ho11 hn10;refine Gg ?_;intro b17 w12 hn12;refine Gg ?_;refine Qc Qb (e:=ty245) rfl hn12.At rfl rfl rfl (by simp[Qg,Xi6,Value.oneCell']) fun w13 h17 ho13 => ?_
 have h17:At w13 b17 245 (Xi6 b6 b12 b11 b13 b10 b9):=h17;have hb17:w11.heap.size<=b17:=by rw[hn12.block];exact Zg _
 have hx1113:Ext w11 w13:=ho13.ext hn12.ext hb17;clear ho13 hn12;have hx613:=hx68.trans (hx9.trans (hx911.trans hx1113));have hx813:=hx9.trans (hx911.trans hx1113);have s6:=hM6.size;have s8:=hx68.size;have s9:=hx9.size;have s11:=hx911.size;have s13:=hx1113.size;have lbw:=hap9.wb.lt;have l6:=h6.lt;have l9:=h9.lt;have l10:=h10.lt;have l11:=h11.lt;have l12:=h12.lt;have hT'l:=hW6.lt;have hppl:pp<w6.heap.size:=by obtain⟨t,sh,h,_⟩:=hP6;exact h.lt
 have hLk:Xd8 w13 p bw ba b6 b12 b11 b13 pp c z item (Qzr z item now) (fun _=>False):=by
  refine⟨hap9.ext (hx911.trans hx1113),Om,h6.ext hx613,h12.ext hx813,⟨fun k=>k=pp\/T' k,hP6.keep fun k hk hs=>⟨hx613.block k hk,hs⟩,?_⟩,⟨A3,c3,h11.ext hx613,?_,fun a ha hn => ?_⟩,h13.ext hx1113,Om,Om,Om,Om⟩
  . rintro (h | h)
    . omega
    . have:=hT'l ba h;omega
  . refine X7.stay hs5 fun a ha hlt=>(hx613.block a.block Om).trans (hM6.block a.block hlt fun h => ?_)
    have h1:=hTl _ h;have h2:=hA3 a ha;omega
  . have h2:=hA3 a ha;obtain⟨y,ys,hyy⟩:=Zcl hn;have hs5':=hs5;rw[hyy] at hs5';obtain⟨a',ha',hc'⟩:=hs5' 0 y rfl;have:a'=a:=by rw[ha] at ha';injection ha' with e;exact e.symm
    subst this;have hl:=cell_lt (Qs hc');rw[add_block] at hl;omega
 have hW13:=hW6.ext hx613;have hg13:=hg6.ext hx613;replace h9:=h9.ext hx613;replace h10:=h10.ext hx613;have hM13:Mod T w w13:=((Mod.of_ext hx5).trans hM6).trans (Mod.of_ext hx613);have hb9a:b9≠ba:=Om;have hb10a:b10≠ba:=Om;have hb17a:b17≠ba:=Om;refine Gg ?_;obtain⟨v1,T1,hQ13,_⟩:=id hW13;refine(X6 hQ13).mono ?_;rintro _ w14 ⟨pw,S4,rfl,hcr,hx14⟩;refine Gg ?_;have hcp:=(Qbz c.width z).2;have hzp:(Qao z).length<1000000:=(by have h2:=Zc peB z;unfold Qao;omega)
 refine(Qg7 w14 S4 pw _ _ hcr person (by
  have:(evs (Qi c.width z).rs).length=(Qao z).length:=by rw[hcp]
  simp[evs] at this;omega)).mono ?_
 rintro _ w15 ⟨A15,c15,rfl,ho15,hx15⟩;rw[hcp] at ho15 ⊢;have hHe:hist (Qao z) person=Qej z person:=rfl;rw[hHe] at ho15 ⊢;have hHl:=Qmq z person;have hHm:∀ e∈Qej z person,e∈z/\peB e=true:=fun e he=>⟨(Q7m he).1,(Q7m he).2.1⟩
 unfold Qvt;generalize Qej z person=H at ho15 hHl hHm ⊢;have hx1315:=hx14.trans hx15;have s15:=hx1315.size;have hsH:=ho15.sl Qag;have hHa:∀ a,A15=some a->a.block≠ba:=fun a ha=>(by have h1:=(ho15.block ha).1;have h2:=hx14.size;omega)
 have hHb:∀ a,A15=some a->a.block<w15.heap.size:=fun a ha=>(ho15.block ha).2
 clear ho15 hcr hcp;replace hLk:=hLk.ext hx1315;have hW15:=hW13.ext hx1315;have hg15:=hg13.ext hx1315;replace h9:=h9.ext hx1315;replace h10:=h10.ext hx1315;replace h17:=h17.ext hx1315;have hM15:=hM13.trans (Mod.of_ext hx1315);have hTba:¬ T' ba:=fun h=>by have:=hT'l ba h;omega
 have hba10:10<=ba:=Om;refine Gg ?_
 refine Qh Qb (fun(q:Nat×Option Addr×Nat×List Ev) w'=>q.1<=H.length/\q.2.2.2=(H.take q.1).filter (Qh5 c z item now)/\Own evC 8 77 w15.heap.size w' q.2.1 q.2.2.1 q.2.2.2/\ApAt w' p bw ba z (rowB q.2.1)/\Mod (fun k=>k=ba) w15 w')
  (fun | (k,B,d,U) => [(17,Pj b17),(18,.slice B U.length d),(54,.slice A15 H.length c15),(55,Vj H.length),(56,Vj (k:Nat))]) (fun q=>H.length-q.1) (0,none,0,[]) ⟨Zu _,rfl,Own.nil,hLk.ap.keepR (fun k _ _=>⟨rfl,fun h=>by obtain⟨a,ha,_⟩:=h;cases ha⟩) id id,Mod.refl _ _⟩ Rr ?_
 rintro ⟨k,B,d,U⟩ w16 ⟨hk,hU,hown,hap,hM16⟩;simp only at hk hU hown hap;have hUl:U.length<=k:=(by rw[hU];have:=Zc (Qh5 c z item now) (H.take k);rw[Zn] at this;omega);refine Hh ?_;constructor
 . intro hlt;have hlt:k<H.length:=Su hlt;obtain⟨a,hA,hc⟩:=(Qa8 hsH fun a ha=>hM16.block a.block (hHb a ha) (hHa a ha)).get hlt;subst hA;have htk:=Qc3 H k hlt;have hme:=hHm H[k] (Zx hlt);generalize H[k]=e at hc htk hme;obtain⟨hez,hpe⟩:=hme;have hmm:=hzm e hez;have hkd:=Qsl hmm;have hk11:=(Xh8 hmm).1 hpe;have hsn:(H.take (k+1)).filter (Qh5 c z item now)=U++if Qh5 c z item now e=true then [e] else []:=(by rw[htk,hU,Zq];cases h:Qh5 c z item now e <;> simp[h])
   have hLk16:=hLk.go hap hM16;have hW16:=hW15.keep fun b hb=>hM16.block b (hW15.lt b hb) (fun e=>hTba (e ▸ hb))
   have hg16:=hg15.mod hM16 fun k hk=>by rw[hk];exact hba10
   have h9':=h9.mod hM16 hb9a;have h10':=h10.mod hM16 hb10a;have h17':=h17.mod hM16 hb17a;refine Gg ?_;refine⟨a,Ix,Gg ?_⟩;refine⟨evC e,⟨rfl,hc⟩,Gg ?_⟩;intro b20 w17 hn17;refine Gg ?_;refine Qc Qb (e:=ty77) rfl hn17.At rfl rfl rfl (Qbg e) fun w18 h20 ho18 => ?_
   have h20:At w18 b20 77 (evC e):=h20;have hb20:w16.heap.size<=b20:=by rw[hn17.block];exact Zg _
   have hx1618:Ext w16 w18:=ho18.ext hn17.ext hb20;have s16:=hM16.size;clear ho18 hn17;refine Gg ?_;refine Qiy (ι:=Unit) (fun _ => [(17,Pj b17),(18,.slice B U.length d),(20,Pj b20),(54,.slice (some a) H.length c15),(55,Vj H.length),(56,Vj (k:Nat)),(65,.bool (Qh5 c z item now e))]) (fun _ w'=>ApAt w' p bw ba z (rowB B)/\Mod (fun k=>k=ba) w18 w') ?_ ?_
   . refine Dr .same [0,1,2,3,4] [5] (Hh ?_);have hxd:Ext w18 w18.drew:=(Ext.refl w18).drew;have h20d:=h20.ext hxd;have hxa:=hx1618.trans hxd;generalize w18.drew=w19 at hxd h20d hxa ⊢;refine⟨Vj e.kind,h20d.one rfl,Hh ?_⟩;refine⟨⟨Om,Om⟩,Hh ?_⟩;obtain⟨fv,hfv,hcase⟩:=Xho (b6:=b6) (b12:=b12) (b11:=b11) (b13:=b13) (b10:=b10) (b9:=b9) hkd.1 hk11;rcases hcase with⟨k1,k2,rfl⟩ | ⟨k1,rfl⟩ | ⟨k1,k2,rfl⟩
     . have hcv:Qh5 c z item now e=Qyg c z item (Qzr z item now) e:=by unfold Qh5;rw[if_neg Om]
       rw[hcv];refine⟨_,(h17'.ext hxa).one (by rw[Zbh];exact hfv),Hh ?_⟩;refine⟨evC e,⟨rfl,h20d.all⟩,Hh ?_⟩;refine(Q3w (hW16.ext hxa) (hg16.ext hxa) hlen (hLk16.ext hxa) (fun k hk=>by obtain⟨y,hy,rfl⟩:=hk;have:=(hown.block hy).2;have:=hxa.size;omega) Om hsl e hez hpe).mono ?_;rintro _ w20 ⟨rfl,hap20,hM20⟩;refine Hh ?_;exact⟨(),⟨hap20,(Mod.of_ext hxd).trans hM20⟩,Rr⟩
     . have hcv:Qh5 c z item now e=(Qx9 z item now&&decide (e.text=(Qmd z item now).maker)):=by unfold Qh5;rw[if_pos k1]
       rw[hcv];refine⟨_,(h17'.ext hxa).one (by rw[Zbh];exact hfv),Hh ?_⟩;refine⟨evC e,⟨rfl,h20d.all⟩,Hh ?_⟩;refine(Q3z b10 b9 _ _ e w19 (h10'.ext hxa) (h9'.ext hxa)).mono ?_;rintro _ w20 ⟨rfl,hx20⟩;refine Hh ?_;exact⟨(),⟨(hap.ext hxa).ext hx20,Mod.of_ext (hxd.trans hx20)⟩,Rr⟩
     . rw[Q2j k1 k2];refine⟨_,(h17'.ext hxa).one (by rw[Zbh];exact hfv),Hh ?_⟩;refine⟨evC e,⟨rfl,h20d.all⟩,Hh ?_⟩;refine(Q33 e w19).mono ?_;rintro _ w20 ⟨rfl,hx20⟩;refine Hh ?_;exact⟨(),⟨(hap.ext hxa).ext hx20,Mod.of_ext (hxd.trans hx20)⟩,Rr⟩
   rintro _ w20 ⟨hap20,hM20⟩;have hM1520:=hM16.trans ((Mod.of_ext hx1618).trans hM20);have hb20a:b20≠ba:=Om;have h20':=h20.mod hM20 hb20a;have hown20:=(hown.ext hx1618).keep fun a ha=>hM20.block a.block (by have:=((hown.ext hx1618).block ha).2;omega) (fun e=>by have:=((hown.ext hx1618).block ha).1;omega)
   refine Gg ?_;constructor
   . intro hq;have hq:Qh5 c z item now e=true:=hq;rw[if_pos hq] at hsn;refine Gg ?_;refine⟨evC e,⟨rfl,h20'.all⟩,Gg ?_⟩;intro b21 w21 hn21;refine Gg ?_;refine Qq Qk2 (l:=U) (news := [e]) rfl (hown20.ext hn21.ext) rfl (Qk2.new1 (x:=e) hn21) (by simp;omega) (by have:=hM1520.size;have:=hn21.ext.size;omega) fun A22 c22 w22 hown22 hg22 hA22 => ?_
     have hM22:Mod (fun k=>k=ba) w15 w22:=Qn (hM1520.trans (Mod.of_ext hn21.ext)) ((Xx (S:=fun k=>w15.heap.size<=k) hg22 (Xq (hown20.ext hn21.ext))).mono fun k _ hk => .inr hk);have hnB:∀ b,b<w15.heap.size->¬ rowB B b:=fun b hb h=>(by obtain⟨y,hy,rfl⟩:=h;have:=(hown20.block hy).1;omega)
     have hap22:ApAt w22 p bw ba z (rowB A22):=(hap20.ext hn21.ext).keepR (fun k hk hn=>Q3g hg22 hA22 k hk hn) (hnB bw Om) (hnB ba Om);generalize U ++ [e]=U2 at hown22 hsn ⊢;refine Gg ?_;refine⟨_,wrap_succ Om,Gg ?_⟩;exact⟨(k+1,A22,c22,U2),Sj,⟨Sj,hsn.symm,hown22,hap22,hM22⟩,Rr⟩
   . intro hq;have hq:¬ Qh5 c z item now e=true:=by rw[Zad];exact hq
     rw[if_neg hq,Zw] at hsn;refine Gg ?_;refine⟨_,wrap_succ Om,Gg ?_⟩;exact⟨(k+1,B,d,U),Sj,⟨Sj,hsn.symm,hown20,hap20,hM1520⟩,Rr⟩
 . intro hge;have hge:H.length<=k:=Su hge;rw[Zb hge] at hU;rw[<- hU];refine Gg ?_;refine⟨B,d,rfl,Qg5 hown (by have:=hM15.size;omega),Qn hM15 (hM16.mono fun k _ hk => .inr (by rw[hk];omega)),T',hW15.keep fun b hb=>hM16.block b (hW15.lt b hb) (fun e=>hTba (e ▸ hb)),fun k hk=>(hT6 k hk).imp id fun h=>Om,fun a ha h => ?_⟩;have h1:=(hown.block ha).1;have h2:=hT'l a.block h;omega
def wsC (a:Nat->Int):List Value := [Vj (a 0),Vj (a 1),Vj (a 2),Vj (a 3),Vj (a 4),Vj (a 5)]
def Qs6 (c:Cfg) (z:List Ev) (person item:Bj) (now:Int) (k:Nat):Int:=Xia c z person item now (k:Nat)
theorem Qo0 {w:World} {T0:Nat->Prop} {p:Nat} {c:Cfg} {z:List Ev} (h:WT w T0 p c z) (hok:Qm7 c z) (hg:Gl w) (hT:∀ b,T0 b->10<=b) (a:Nat->Int) (person item:Bj) (now:Int) :
 Cal Tryz.prog 15 [Pj p,.agg (wsC a).toArray,.string person,.string item,Vj now] w fun r w'=>∃ A cap T,r = .tuple #[.slice A 6 cap,Vj (Qmi (Qlt (Qs6 c z person item now) a 6))]/\Own ptC 3 146 w.heap.size w' A cap (Qlt (Qs6 c z person item now) a 6)/\WT w' T p c z/\(∀ b,T b->T0 b\/w.heap.size<=b)/\(∀ a,A=some a->¬ T a.block)/\Mod T0 w w':=by
 have hsz:=hg.size;refine(Xdi (Qs6 c z person item now) a (fun _ T w1=>WT w1 T p c z/\Gl w1/\∀ b,T b->10<=b) T0 p person item now w ⟨h,hg,hT⟩ (fun k T w1 hJ=>hJ.1.lt) (fun k T w1 w2 hJ hM=>⟨hJ.1.mod hM fun b hb=>hb.1,hJ.2.1.mod hM fun b hb=>Zv hsz hb.2,hJ.2.2⟩) ?_).mono ?_
 . intro k hk T w1 hJ;have hs1:=hJ.2.1.size;refine(Xag hJ.1 hok hJ.2.1 person item now k).mono ?_;rintro r w2 ⟨hr,hM,T',hW,hT'⟩;exact⟨hr,hM,T',⟨hW,hJ.2.1.mod hM hJ.2.2,fun b hb=>(hT' b hb).elim (hJ.2.2 b) fun h=>Zv hs1 h⟩,hT'⟩
 . rintro r w' ⟨A,cap,T,hr,hown,hJ,hT1,hA,hM⟩;exact⟨A,cap,T,hr,hown,hJ.1,hT1,hA,hM⟩
theorem Xja (a b:Pt) (ox oy:Operand):Qm4 Tryz.prog 146 ox oy (.agg (ptC a).toArray) (.agg (ptC b).toArray) (decide (a=b)):=by
 have h:=Qe1 (ox:=ox) (oy:=oy) Qb st146 (xs:=ptC a) (ys:=ptC b) (b:=decide (a.1=b.1)&&(decide (a.2.1=b.2.1)&&(decide (a.2.2=b.2.2)&&true))) rfl;have e:(decide (a.1=b.1)&&(decide (a.2.1=b.2.1)&&(decide (a.2.2=b.2.2)&&true)))=decide (a=b):=(by rw[Zbx];obtain⟨a1,a2,a3⟩:=a;obtain⟨b1,b2,b3⟩:=b;simp);rw[e] at h;exact h
