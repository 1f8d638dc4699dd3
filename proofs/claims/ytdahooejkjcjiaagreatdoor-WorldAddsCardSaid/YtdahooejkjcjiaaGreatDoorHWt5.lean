import Derived.Test.YtdahooejkjcjiaaGreatDoorHWt3
import Derived.Test.YtdahooejkjcjiaaGreatDoorHWt4
/- The law WorldAdds. -/
set_option linter.unusedVariables false
set_option linter.unusedSimpArgs false
namespace Go.Proofs.YtdahooejkjcjiaaGreatDoor
open Go.Se Go.RowKit Go.Shelf
theorem Qa9.keep {w w1:World} {base p:Nat} {c:Cfg} {s:WS} {col:Nat→Nat} (h:Qa9 w base p c s col) (hk:∀ k,k<w.heap.size→col k≠0→w1.heap[k]? = w.heap[k]?) (hz:w.heap.size≤w1.heap.size):Qa9 w1 base p c s col:=by
 obtain⟨⟨q,A,cap,h⟩,hz0⟩:=h;refine⟨⟨q,A,cap,h.low,?_,h.cols,?_,?_,?_,?_⟩,fun k hk=>hz0 k (by omega)⟩
 · exact(hk p h.head.lt (by rw[h.cols.1];decide)).trans h.head
 · exact h.added.keep (hk _ h.added.lt (by rw[h.cols.2.1];decide))
 · exact h.forg.keep (hk _ h.forg.lt (by rw[h.cols.2.2.1];decide))
 · exact h.evs.keep fun a ha=>hk _ (h.evs.block ha).2 (by rw[h.cols.2.2.2 a ha];decide)
 · exact h.cts.keep fun k hl hc=>⟨hk k hl (by omega),rfl⟩
theorem Qa9.wt {w:World} {base p:Nat} {c:Cfg} {s:WS} {col:Nat→Nat} (h:Qa9 w base p c s col) (hI:Qo1 c s) (hl:s.es.length<1000000):WT w (fun k=>col k≠0) p c s.es:=by
 obtain⟨⟨q,A,cap,hL⟩,hz⟩:=h;have hc:=hL.cts;rw[hI.ct] at hc;have hlt:∀ k,col k≠0→k<w.heap.size:=fun k hk=>Nat.lt_of_not_le fun h=>hk (hz k h)
 exact⟨_,fun k=>col k≠0,⟨⟨col,q,A,_,cap,_,_,hL.head,hc,hL.cols.1,fun k hk=>hk,hlt,rfl,hL.evs.sl Qaq,hL.cols.2.2.2⟩,hI.may,hI.rise,hl⟩,fun _ hk=>hk,hlt,.inl rfl⟩
theorem Q9r (l:List Ev):(Qen l).length≤l.length:=List.length_filter_le _ _
theorem Qja.any_step {c:Cfg} {s:WS} {all:List Ev} (h:Qja c s all) (x:Ev) {all' inn':List Ev} (h1:Qeq all s.es x≠0→all'=all∧inn'=s.es) (h2:Qeq all s.es x=0→all'=all ++ [x]∧inn'=Qen (s.es ++ [x])):Qja c (Qnp c.width s x) all'∧(Qnp c.width s x).es=inn':=by
 have ha:=h.answer x
 by_cases hq:Qeq all s.es x=0
 · obtain⟨rfl,rfl⟩:=h2 hq
   exact h.step (ha.trans hq)
 · obtain⟨rfl,rfl⟩:=h1 hq
   have:Qnp c.width s x=s:=by unfold Qnp;rw[if_neg (by rw[ha];exact hq)]
   rw[this]
   exact⟨h,rfl⟩
theorem Q9f {all inn:List Ev} {x:Ev} (h:Xw x=false):Qeq all inn x=1:=by unfold Qeq;rw[if_pos h]
theorem Q8g {all inn:List Ev} {x:Ev} (h:Xw x=true) (h2:Q3m all.getLast? x=true):Qeq all inn x=10:=by unfold Qeq;rw[if_neg (by rw[h];decide),if_pos h2]
theorem Q9g {all inn:List Ev} {x:Ev} (h:Xw x=true) (h2:Q3m all.getLast? x=false) (h3:Qqn all x=true):Qeq all inn x=7:=by
 unfold Qeq;rw[if_neg (by rw[h];decide),if_neg (by rw[h2];decide),if_pos (c:=(all.any fun e=>decide (idE e=idE x))=true) h3]
theorem Q8h {all inn:List Ev} {x:Ev} (h:Xw x=true) (h2:Q3m all.getLast? x=false) (h3:Qqn all x=false) (h4:(Qcc inn x.person && !decide (x.kind=14))=true):Qeq all inn x=12:=by
 unfold Qeq;rw[if_neg (by rw[h];decide),if_neg (by rw[h2];decide),if_neg (by show ¬ Qqn all x=true;rw[h3];decide),if_pos h4]
theorem Q9e {all inn:List Ev} {x:Ev} (h:Xw x=true) (h2:Q3m all.getLast? x=false) (h3:Qqn all x=false) (h4:(Qcc inn x.person && !decide (x.kind=14))=false):Qeq all inn x=0:=by
 unfold Qeq;rw[if_neg (by rw[h];decide),if_neg (by rw[h2];decide),if_neg (by show ¬ Qqn all x=true;rw[h3];decide),if_neg (by rw[h4];decide)]
structure Q51 (w:World) (base:Nat) (col:Nat→Nat) (Aa:Option Addr) (ca:Nat) (al:List Ev) (Ai:Option Addr) (ci:Nat) (inn:List Ev):Prop where
 al:Own evC 8 34 base w Aa ca al
 inn:Own evC 8 34 base w Ai ci inn
 ne:∀ a b,Aa=some a→Ai=some b→a.block≠b.block
 ca:∀ a,Aa=some a→col a.block=0
 ci:∀ a,Ai=some a→col a.block=0
theorem Q51.ext {w w1:World} {base:Nat} {col:Nat→Nat} {Aa:Option Addr} {ca:Nat} {al:List Ev} {Ai:Option Addr} {ci:Nat} {inn:List Ev} (h:Q51 w base col Aa ca al Ai ci inn) (hx:Ext w w1):Q51 w1 base col Aa ca al Ai ci inn :=
 ⟨h.al.ext hx,h.inn.ext hx,h.ne,h.ca,h.ci⟩
set_option maxHeartbeats 16000000 in
theorem worldAdds_spec (c:Cfg) (l:List Ev) (A:Option Addr) (cap:Nat) (now:Int) (w:World) (hg0:Gl w) (hs:SlE w A l) :
 Cal Tryz.prog 3 [Q0a c,.slice A l.length cap,.int .i64 now] w fun r w'=>r = .bool true∧Ext w w':=by
 have hsz:=hg0.size;refine Fi Tryz.func3 rfl _ rfl rfl ?_;conv=>whnf
 intro b5 w1 hn1;(conv=>whnf);repeat(refine Sg ?_;(conv=>whnf))
 have g5:At w1 b5 23 (Qi9 c):=hn1.At;have hx:=hn1.ext;clear hn1;refine(Qwa w1 (hg0.ext hx)).mono ?_;rintro _ w2 ⟨rfl,hx2⟩;replace g5:=g5.ext hx2;replace hx:=hx.trans hx2;clear hx2
 (conv=>whnf);repeat(refine Sg ?_;(conv=>whnf))
 constructor
 · intro h;simp at h
 intro _
 (conv=>whnf);repeat(refine Sg ?_;(conv=>whnf))
 refine⟨Unit,fun _=>(.bool (l.any (Q30 300))),fun _ w'=>Ext w2 w',(),fun hg=>((Q23 l A cap 300 w2 (hs.ext hx) (by simp at hg;omega))).mono fun r w' h=>⟨(),h.1,h.2⟩,?_⟩;intro _ w3 h2
 have hx3:Ext w2 w3:=by
  rcases h2 with⟨_,h⟩ | ⟨_,h⟩
  · exact h
  · rw[h];exact Ext.refl _
 clear h2
 conv=>whnf
 replace g5:=g5.ext hx3;replace hx:=hx.trans hx3;clear hx3
 (conv=>whnf);repeat(refine Sg ?_;(conv=>whnf))
 constructor
 · intro _
   (conv=>whnf);repeat(refine Sg ?_;(conv=>whnf))
   exact⟨rfl,hx⟩
 intro hq;have hq:(decide ((30:Int)<l.length)||l.any (Q30 300))=false:=hq
 have hl:l.length≤30:=by
  have:=(Bool.or_eq_false_iff.1 hq).1
  simp at this
  omega
 have ht:=Q3v (Bool.or_eq_false_iff.1 hq).2;have ht4:=Q3w (Bool.or_eq_false_iff.1 hq).2;clear hq
 (conv=>whnf);repeat(refine Sg ?_;(conv=>whnf))
 refine⟨Qi9 c,⟨rfl,g5.all⟩,?_⟩;(conv=>whnf);repeat(refine Sg ?_;(conv=>whnf))
 by_cases hcf:Qo7 c=true
 rotate_left
 · have hcf:Qo7 c=false:=by simpa using hcf
   refine(Qus c w3 hcf).mono ?_;rintro _ w4 ⟨rfl,hx4⟩;replace g5:=g5.ext hx4;replace hx:=hx.trans hx4
   (conv=>whnf);repeat(refine Sg ?_;(conv=>whnf))
   refine⟨Qi9 c,⟨rfl,g5.all⟩,?_⟩;(conv=>whnf);repeat(refine Sg ?_;(conv=>whnf))
   refine(Qkc c w4).mono ?_;rintro _ w5 ⟨rfl,hx5⟩;rw[hcf]
   (conv=>whnf);repeat(refine Sg ?_;(conv=>whnf))
   constructor
   · intro _
     (conv=>whnf);repeat(refine Sg ?_;(conv=>whnf))
     refine⟨_,Qcb Q9x _ _ _,?_⟩;(conv=>whnf);repeat(refine Sg ?_;(conv=>whnf))
     exact⟨by simp,hx.trans hx5⟩
   · intro h;simp at h
 refine(Qi8 c w3 (Nat.le_trans hsz hx.size) hcf).mono ?_;rintro _ w4 ⟨pn,rfl,hW,hx4⟩;obtain⟨col0,hC0⟩:=hW.col;have s3:=hx.size;have g5l:=g5.lt;replace g5:=g5.ext hx4
 (conv=>whnf);repeat(refine Sg ?_;(conv=>whnf))
 refine⟨Qi9 c,⟨rfl,g5.all⟩,?_⟩;(conv=>whnf);repeat(refine Sg ?_;(conv=>whnf))
 refine(Qkc c w4).mono ?_;rintro _ w5 ⟨rfl,hx5⟩;rw[hcf]
 (conv=>whnf);repeat(refine Sg ?_;(conv=>whnf))
 constructor
 · intro h;simp at h
 intro _;replace g5:=g5.ext hx5;replace hC0:=hC0.ext hx5;have hx35:=hx4.trans hx5;have s5:=hx35.size;clear hW hx4 hx5
 (conv=>whnf);repeat(refine Sg ?_;(conv=>whnf))
 intro b7 w6 hn6;conv=>whnf
 have o6:Own evC 8 34 w3.heap.size w6 (some ⟨b7,0,none⟩) 0 []:=Qiw.made hn6 s5;have e6:=hn6.block;have s6:=hn6.size;intro b8 w7 hn7;(conv=>whnf);repeat(refine Sg ?_;(conv=>whnf))
 have o7:Own evC 8 34 w3.heap.size w7 (some ⟨b8,0,none⟩) 0 []:=Qiw.made hn7 (by omega);have e7:=hn7.block;have hx57:=hn6.ext.trans hn7.ext;have hz0:=hC0.2
 have hD0:Q51 w7 w3.heap.size col0 (some ⟨b7,0,none⟩) 0 [] (some ⟨b8,0,none⟩) 0 [] :=
  ⟨o6.ext hn7.ext,o7,fun a b h1 h2=>by injection h1 with h1;injection h2 with h2;subst h1 h2;show b7≠b8;omega,fun a h=>by injection h with h;subst h;exact hz0 b7 (by omega),fun a h=>by injection h with h;subst h;exact hz0 b8 (by omega)⟩
 replace g5:=g5.ext hx57;replace hC0:=hC0.ext hx57;replace hx35:=hx35.trans hx57;clear hx57 hn6 hn7 o6 o7 e6 e7 s6 hz0
 refine Qe Qa (fun(x:Nat×(Option Addr×Nat×List Ev)×(Option Addr×Nat×List Ev)×WS×(Nat→Nat)) w'=>(x.1≤l.length∧x.2.1.2.2.length≤x.1∧x.2.2.1.2.2.length≤x.1)∧Qa9 w' w3.heap.size pn c x.2.2.2.1 x.2.2.2.2∧Qja c x.2.2.2.1 x.2.1.2.2∧x.2.2.2.1.es=x.2.2.1.2.2∧Q51 w' w3.heap.size x.2.2.2.2 x.2.1.1 x.2.1.2.1 x.2.1.2.2 x.2.2.1.1 x.2.2.1.2.1 x.2.2.1.2.2∧Ext w3 w')
  (fun | (k,(Aa,ca,al),(Ai,ci,inn),_,_) => [(1,.slice A l.length cap),(2,.int .i64 now),(3,.pointer (some ⟨b5,0,none⟩)),(7,.pointer (some ⟨pn,0,none⟩)),(8,.int .i64 0),(9,.slice Aa al.length ca),(10,.slice Ai inn.length ci),(11,.int .i64 (k:Nat))]) (fun x=>l.length-x.1) (0,(some ⟨b7,0,none⟩,0,[]),(some ⟨b8,0,none⟩,0,[]),WS0,col0)
  ⟨⟨Nat.zero_le _,Nat.le_refl _,Nat.le_refl _⟩,hC0,add_zero c,rfl,hD0,hx35⟩ ⟨rfl,rfl,rfl,rfl,rfl,rfl,rfl,rfl,trivial⟩ ?_
 replace g5:At w3 b5 23 (Qi9 c):=by
  have h:=hx35.block b5 g5l;unfold At at g5 ⊢;rw[← h];exact g5
 clear hC0 hD0 hx35 s5;rintro ⟨k,⟨Aa,ca,al⟩,⟨Ai,ci,inn⟩,s,col⟩ wa ⟨⟨hk,hal,hin⟩,hC,hA,hes,hD,hxa⟩;simp only at hk hal hin hC hA hes hD hxa
 conv=>whnf
 constructor
 · intro hlt
   have hlt:k<l.length:=by simpa using hlt
   obtain⟨a,rfl,hc8⟩:=(hs.ext (hx.trans hxa)).get hlt;have htx:l[k].text.size<4000000000:=ht _ (List.getElem_mem hlt);have htx4:l[k].text.size<1000000000000:=ht4 _ (List.getElem_mem hlt);generalize l[k]=x at hc8 htx htx4
   (conv=>whnf);repeat(refine Sg ?_;(conv=>whnf))
   refine⟨a,⟨rfl,by omega,by omega⟩,?_⟩;(conv=>whnf);repeat(refine Sg ?_;(conv=>whnf))
   refine⟨evC x,⟨rfl,hc8⟩,?_⟩;(conv=>whnf);repeat(refine Sg ?_;(conv=>whnf))
   intro b9 wb hn9;(conv=>whnf);repeat(refine Sg ?_;(conv=>whnf))
   have e9:=hn9.block;have s9:=hn9.size;refine Qh Qa (e:=ty34) (v:=evV x) rfl hn9.At rfl rfl rfl (Qe0 x) fun wc h9 ho9 => ?_
   have g9:At wc b9 34 (evC x):=h9;have hxb:Ext wa wc:=ho9.ext hn9.ext (by rw[hn9.block];exact Nat.le_refl _);have hb9:wa.heap.size≤b9:=by omega
   have hDa:∀ a,Aa=some a→a.block<wa.heap.size:=fun a ha=>(hD.al.block ha).2
   have hDi:∀ a,Ai=some a→a.block<wa.heap.size:=fun a ha=>(hD.inn.block ha).2
   replace hC:=hC.ext hxb;replace hD:=hD.ext hxb;replace hxa:=hxa.trans hxb;have hgc:=hg0.ext (hx.trans hxa);clear hn9 ho9 h9 hxb
   conv=>whnf
   refine Xk Qa (ι:=(Option Addr×Nat×List Ev)×(Option Addr×Nat×List Ev)) (fun | ((Aa,ca,al'),(Ai,ci,inn')) => [(1,.slice (some a) l.length cap),(2,.int .i64 now),(3,.pointer (some ⟨b5,0,none⟩)),(7,.pointer (some ⟨pn,0,none⟩)),(8,.int .i64 0),(9,.slice Aa al'.length ca),(10,.slice Ai inn'.length ci),(11,.int .i64 (k:Nat)),(12,.pointer (some ⟨b9,0,none⟩)),(13,.int .i64 (Qeq al inn x))])
    (fun j w'=>(Qeq al inn x≠0→j.1.2.2=al∧j.2.2.2=inn)∧(Qeq al inn x=0→j.1.2.2=al ++ [x]∧j.2.2.2=Qen (inn ++ [x]))∧Q51 w' w3.heap.size col j.1.1 j.1.2.1 j.1.2.2 j.2.1 j.2.2.1 j.2.2.2∧Qa9 w' w3.heap.size pn c s col∧At w' b9 34 (evC x)∧Ext w3 w') ?_ ?_
   · (conv=>whnf);repeat(refine Sg ?_;(conv=>whnf))
     refine⟨evC x,⟨rfl,g9.all⟩,?_⟩;(conv=>whnf);repeat(refine Sg ?_;(conv=>whnf))
     refine(Q2m x wc htx4).mono ?_;rintro _ wd ⟨rfl,hxd⟩;replace hC:=hC.ext hxd;replace hD:=hD.ext hxd;replace g9:=g9.ext hxd;replace hxa:=hxa.trans hxd
     (conv=>whnf);repeat(refine Sg ?_;(conv=>whnf))
     constructor
     · intro hq
       have hq:Xw x=false:=by simpa using hq
       have hw:=Q9f (all:=al) (inn:=inn) hq
       (conv=>whnf);repeat(refine Sg ?_;(conv=>whnf))
       exact⟨((Aa,ca,al),(Ai,ci,inn)),⟨fun _=>⟨rfl,rfl⟩,fun h=>(by rw[hw] at h;cases h),hD,hC,g9,hxa⟩,⟨rfl,rfl,rfl,rfl,rfl,rfl,rfl,rfl,rfl,by rw[hw];rfl,trivial⟩⟩
     · intro hq
       have hme:Xw x=true:=by simpa using hq
       obtain⟨a0,e0,h0⟩:=Q7u x (hD.al.sl Qaq)
       (conv=>whnf);repeat(refine Sg ?_;(conv=>whnf))
       refine Dr .same [0,1,2,3,4,5,6,7,8,9,10] [11,12,13] ?_;conv=>whnf
       have hxe:Ext wd wd.drew:=(Ext.refl wd).drew;replace hC:=hC.ext hxe;replace hD:=hD.ext hxe;replace g9:=g9.ext hxe;replace hxa:=hxa.trans hxe;have h0c:0<al.length→Xt wd.drew (a0.add ((al.length-1)*8)) (evC e0):=fun h=>hxe.cells (h0 h).2.1
       generalize wd.drew=we at hC hD g9 hxa h0c ⊢;clear hxe hxd;refine⟨((al.length-1:Nat):Int),fun hg=>wrap_eq (by simp at hg;omega) ⟨by omega,by omega⟩,?_⟩;conv=>whnf
       refine⟨a0,fun hg=>⟨(h0 (by simpa using hg)).1,by omega,by simp at hg;omega⟩,?_⟩;conv=>whnf
       refine⟨evC e0,fun hg=>⟨rfl,h0c (by simpa using hg)⟩,?_⟩;conv=>whnf
       refine⟨evC x,fun _=>⟨rfl,g9.all⟩,?_⟩;conv=>whnf
       refine⟨Unit,fun _=>(.bool (Qbw e0 x)),fun _ w'=>Ext we w',(),fun hg=>((Q1p e0 x we)).mono fun r w' h=>⟨(),h.1,h.2⟩,?_⟩;intro _ wf h2
       have hxf:Ext we wf:=by
        rcases h2 with⟨_,h⟩ | ⟨_,h⟩
        · exact h
        · rw[h];exact Ext.refl _
       clear h2
       conv=>whnf
       replace hC:=hC.ext hxf;replace hD:=hD.ext hxf;replace g9:=g9.ext hxf;replace hxa:=hxa.trans hxf
       have hbh:(decide ((0:Int)<al.length) && !Qbw e0 x)=Q3m al.getLast? x:=by
        cases al with
        | nil=>rfl
        | cons y al' =>
          have:=(h0 (by simp)).2.2;rw[this];unfold Q3m
          simp
       clear h0 h0c hxf
       (conv=>whnf);repeat(refine Sg ?_;(conv=>whnf))
       constructor
       · intro hq
         have hq:(decide ((0:Int)<al.length) && !Qbw e0 x)=true:=hq;rw[hbh] at hq;have hw:=Q8g (all:=al) (inn:=inn) hme hq
         (conv=>whnf);repeat(refine Sg ?_;(conv=>whnf))
         exact⟨((Aa,ca,al),(Ai,ci,inn)),⟨fun _=>⟨rfl,rfl⟩,fun h=>(by rw[hw] at h;cases h),hD,hC,g9,hxa⟩,⟨rfl,rfl,rfl,rfl,rfl,rfl,rfl,rfl,rfl,by rw[hw];rfl,trivial⟩⟩
       intro hq;have hq:(decide ((0:Int)<al.length) && !Qbw e0 x)=false:=hq;rw[hbh] at hq;have hbe:=hq;clear hbh hq
       (conv=>whnf);repeat(refine Sg ?_;(conv=>whnf))
       refine⟨evC x,⟨rfl,g9.all⟩,?_⟩;(conv=>whnf);repeat(refine Sg ?_;(conv=>whnf))
       refine(Qzh al Aa ca x wf (hD.al.sl Qaq) (by omega)).mono ?_;rintro _ wg ⟨rfl,hxg⟩;replace hC:=hC.ext hxg;replace hD:=hD.ext hxg;replace g9:=g9.ext hxg;replace hxa:=hxa.trans hxg
       (conv=>whnf);repeat(refine Sg ?_;(conv=>whnf))
       constructor
       · intro hq
         have hw:=Q9g (all:=al) (inn:=inn) hme hbe hq
         (conv=>whnf);repeat(refine Sg ?_;(conv=>whnf))
         exact⟨((Aa,ca,al),(Ai,ci,inn)),⟨fun _=>⟨rfl,rfl⟩,fun h=>(by rw[hw] at h;cases h),hD,hC,g9,hxa⟩,⟨rfl,rfl,rfl,rfl,rfl,rfl,rfl,rfl,rfl,by rw[hw];rfl,trivial⟩⟩
       intro htw;have htw:Qqn al x=false:=htw
       (conv=>whnf);repeat(refine Sg ?_;(conv=>whnf))
       refine Dr .ext [0,2,3,1] [4,5,6,7,8,9] ?_;conv=>whnf
       have hxe:Ext wg wg.drew:=(Ext.refl wg).drew;replace hC:=hC.ext hxe;replace hD:=hD.ext hxe;replace g9:=g9.ext hxe;replace hxa:=hxa.trans hxe;generalize wg.drew=wh at hC hD g9 hxa ⊢;clear hxe hxg;refine⟨.string x.person,g9.one rfl,?_⟩;conv=>whnf
       refine(Qoi inn Ai ci wh (hD.inn.sl Qaq) (by omega)).mono ?_;rintro _ wi ⟨AG,cG,G,rfl,hG,hGl,hsG,hxi⟩;replace hC:=hC.ext hxi;replace hD:=hD.ext hxi;replace g9:=g9.ext hxi;replace hxa:=hxa.trans hxi;refine⟨hxi,?_⟩;conv=>whnf
       refine(Qk8 G x.person AG cG wi hsG (by omega)).mono ?_;rintro _ w' ⟨rfl,rfl⟩;have hGe:inT G x.person=Qcc inn x.person:=by rw[Bool.eq_iff_iff,Qe1];exact hG x.person
       rw[hGe]
       conv=>whnf
       refine⟨_,fun _=>g9.one rfl,?_⟩;conv=>whnf
       clear hxi hsG hG hGl hGe;constructor
       · intro hq
         have hq:(Qcc inn x.person && !decide (x.kind=14))=true:=hq;have hw:=Q8h (all:=al) (inn:=inn) hme hbe htw hq
         (conv=>whnf);repeat(refine Sg ?_;(conv=>whnf))
         exact⟨((Aa,ca,al),(Ai,ci,inn)),⟨fun _=>⟨rfl,rfl⟩,fun h=>(by rw[hw] at h;cases h),hD,hC,g9,hxa⟩,⟨rfl,rfl,rfl,rfl,rfl,rfl,rfl,rfl,rfl,by rw[hw];rfl,trivial⟩⟩
       intro hq;have hq:(Qcc inn x.person && !decide (x.kind=14))=false:=hq;have hw:=Q9e (all:=al) (inn:=inn) hme hbe htw hq;clear hq htw hbe hme;have hAb:∀ a,Aa=some a→w3.heap.size≤a.block∧a.block<w'.heap.size:=fun a ha=>hD.al.block ha
       have hIb:∀ a,Ai=some a→w3.heap.size≤a.block∧a.block<w'.heap.size:=fun a ha=>hD.inn.block ha
       (conv=>whnf);repeat(refine Sg ?_;(conv=>whnf))
       refine⟨evC x,⟨rfl,g9.all⟩,?_⟩;(conv=>whnf);repeat(refine Sg ?_;(conv=>whnf))
       intro bb wj hnb;(conv=>whnf);repeat(refine Sg ?_;(conv=>whnf))
       refine Qg Qiw (l:=al) (news := [x]) rfl (hD.al.ext hnb.ext) rfl (Qiw.new1 (x:=x) hnb) (by simp;omega) (hxa.trans hnb.ext).size fun A1 c1 wk hown1 hg1 hA1 => ?_
       have hE1:Ext w3 wk:=Qi (hxa.trans hnb.ext) hg1 (Qp (hD.al.ext hnb.ext));have sj:=hnb.ext.size;have sk:=hg1.size;have hz1:=hC.2
       have bl1:∀ a,A1=some a→(∃ a',Aa=some a'∧a'.block=a.block)∨a.block=wj.heap.size:=fun a ha=>by
        rcases hA1 with h | h | h
        · exact .inl ⟨a,by rw[← h];exact ha,rfl⟩
        · rw[ha] at h
          obtain⟨a',h1,h2⟩:=Option.map_eq_some_iff.1 h.symm
          exact .inl ⟨a',h1,h2⟩
        · rw[ha] at h
          exact .inr (Option.some.inj h)
       have nA:∀ {k:Nat},(∀ a,Aa=some a→a.block≠k)→some k≠Aa.map (·.block):=fun hk h=>by
        obtain⟨a',h1,h2⟩:=Option.map_eq_some_iff.1 h.symm
        exact hk a' h1 h2
       have nI:∀ {k:Nat},(∀ a,Ai=some a→a.block≠k)→some k≠Ai.map (·.block):=fun hk h=>by
        obtain⟨a',h1,h2⟩:=Option.map_eq_some_iff.1 h.symm
        exact hk a' h1 h2
       have hI1:Own evC 8 34 w3.heap.size wk Ai ci inn:=(hD.inn.ext hnb.ext).keep fun a ha=>hg1.block a.block (by have:=(hIb a ha).2;omega) (nA fun a' h' e=>hD.ne a' a h' ha e)
       have g9k:At wk b9 34 (evC x):=by
        have h:=hg1.block b9 (by have:=g9.lt;omega) (nA fun a' h' e=>by have:=hDa a' h';omega)
        exact h.trans (g9.ext hnb.ext)
       have g9l:=g9.lt
       (conv=>whnf);repeat(refine Sg ?_;(conv=>whnf))
       refine⟨evC x,⟨rfl,g9k.all⟩,?_⟩;(conv=>whnf);repeat(refine Sg ?_;(conv=>whnf))
       intro bc wl hnc;(conv=>whnf);repeat(refine Sg ?_;(conv=>whnf))
       refine Qg Qiw (l:=inn) (news := [x]) rfl (hI1.ext hnc.ext) rfl (Qiw.new1 (x:=x) hnc) (by simp;omega) (hE1.trans hnc.ext).size fun A2 c2 wm hown2 hg2 hA2 => ?_
       have hE2:Ext w3 wm:=Qi (hE1.trans hnc.ext) hg2 (Qp (hI1.ext hnc.ext));have sl':=hnc.ext.size;have sm:=hg2.size
       have bl2:∀ a,A2=some a→(∃ a',Ai=some a'∧a'.block=a.block)∨a.block=wl.heap.size:=fun a ha=>by
        rcases hA2 with h | h | h
        · exact .inl ⟨a,by rw[← h];exact ha,rfl⟩
        · rw[ha] at h
          obtain⟨a',h1,h2⟩:=Option.map_eq_some_iff.1 h.symm
          exact .inl ⟨a',h1,h2⟩
        · rw[ha] at h
          exact .inr (Option.some.inj h)
       have bl1k:∀ a,A1=some a→a.block<wk.heap.size:=fun a ha=>(hown1.block ha).2
       have n1I:∀ a,A1=some a→∀ a',Ai=some a'→a'.block≠a.block:=fun a ha a' ha' e=>by
        rcases bl1 a ha with⟨a'',h1,h2⟩ | h
        · exact hD.ne a'' a' h1 ha' (h2.trans e.symm)
        · have:=(hIb a' ha').2;omega
       have hO1:Own evC 8 34 w3.heap.size wm A1 c1 (al ++ [x]):=(hown1.ext hnc.ext).keep fun a ha=>hg2.block a.block (by have:=bl1k a ha;omega) (nI fun a' h'=>n1I a ha a' h')
       have g9m:At wm b9 34 (evC x):=by
        have h:=hg2.block b9 (by omega) (nI fun a' h' e=>by have:=hDi a' h';omega)
        exact h.trans (g9k.ext hnc.ext)
       have hCm:Qa9 wm w3.heap.size pn c s col:=hC.keep (fun k hk hc=>by
        have h1:=hg2.block k (by omega) (nI fun a' h' e=>hc (by rw[← e];exact hD.ci a' h'));have h2:=hg1.block k (by omega) (nA fun a' h' e=>hc (by rw[← e];exact hD.ca a' h'));rw[h1,hnc.ext.block k (by omega),h2,hnb.ext.block k hk]) (by omega)
       have hll:(inn ++ [x]).length<900000:=by simp;omega
       have hla:Qen (inn ++ [x])=Qen (inn ++ [x]):=rfl;generalize hin2:inn ++ [x]=inn2 at hown2 hll hla ⊢
       (conv=>whnf);repeat(refine Sg ?_;(conv=>whnf))
       refine(Qy4 inn2 A2 c2 wm w3.heap.size hE2.size hown2 hll).mono ?_;rintro _ wn ⟨A3,c3,rfl,hown3,hal3,hxn⟩
       have bl3:∀ a,A3=some a→(∃ a',Ai=some a'∧a'.block=a.block)∨wl.heap.size≤a.block:=fun a ha=>by
        rcases hal3 with h | h
        · rw[h] at ha
          exact(bl2 a ha).imp id fun h=>by omega
        · have:=h a ha
          exact .inr (by omega)
       have hD3:Q51 wn w3.heap.size col A1 c1 (al ++ [x]) A3 c3 (Qen inn2):=by
        refine⟨hO1.ext hxn,hown3,fun a b ha hb e => ?_,fun a ha => ?_,fun a ha => ?_⟩
        · rcases bl3 b hb with⟨a',h1,h2⟩ | h
          · exact n1I a ha a' h1 (h2.trans e.symm)
          · have:=bl1k a ha;omega
        · rcases bl1 a ha with⟨a',h1,h2⟩ | h
          · rw[← h2];exact hD.ca a' h1
          · exact hz1 _ (by omega)
        · rcases bl3 a ha with⟨a',h1,h2⟩ | h
          · rw[← h2];exact hD.ci a' h1
          · exact hz1 _ (by omega)
       generalize hL3:Qen inn2=inn3 at hD3 ⊢;generalize hL1:al ++ [x]=al3 at hD3 ⊢
       (conv=>whnf);repeat(refine Sg ?_;(conv=>whnf))
       exact⟨((A1,c1,al3),(A3,c3,inn3)),⟨fun h=>absurd hw h,fun _=>⟨rfl,rfl⟩,hD3,hCm.ext hxn,g9m.ext hxn,hE2.trans hxn⟩,⟨rfl,rfl,rfl,rfl,rfl,rfl,rfl,rfl,rfl,by rw[hw];rfl,trivial⟩⟩
   rintro ⟨⟨A1,c1,al'⟩,⟨A2,c2,inn'⟩⟩ wn ⟨hw1,hw2,hD,hC,g9,hxn⟩;simp only at hw1 hw2 hD
   have hln:al'.length≤k+1∧inn'.length≤k+1:=by
    by_cases hq:Qeq al inn x=0
    · obtain⟨rfl,rfl⟩:=hw2 hq
      have:=Q9r (inn ++ [x]);simp only[List.length_append,List.length_singleton] at this ⊢;omega
    · obtain⟨rfl,rfl⟩:=hw1 hq
      omega
   obtain⟨hA',hes'⟩:=hA.any_step x (all':=al') (inn':=inn') (by rw[hes];exact hw1) (by rw[hes];exact hw2);have hgn:=hg0.ext (hx.trans hxn);have hlo:∀ j,col j≠0→w3.heap.size≤j:=hC.low;clear hw1 hw2 hxa hgc hDa hDi
   (conv=>whnf);repeat(refine Sg ?_;(conv=>whnf))
   refine⟨evC x,⟨rfl,g9.all⟩,?_⟩;(conv=>whnf);repeat(refine Sg ?_;(conv=>whnf))
   refine(Qo2 wn _ pn c hcf s col hC hgn hA.inv (by rw[hes];omega) x htx).mono ?_;rintro _ wo ⟨rfl,col',hC',hlow',hM'⟩;rw[hA.answer x,hes]
   have hD':Q51 wo w3.heap.size col' A1 c1 al' A2 c2 inn':=by
    have hk:∀ {k},k<wn.heap.size→col k=0→col' k=0:=fun h1 h2=>by
     refine Decidable.byContradiction fun h => ?_
     rcases hlow' _ h with h | h
     · exact h h2
     · omega
    exact⟨hD.al.keep fun a ha=>hM'.block a.block (hD.al.block ha).2 (fun h=>h (hD.ca a ha)),hD.inn.keep fun a ha=>hM'.block a.block (hD.inn.block ha).2 (fun h=>h (hD.ci a ha)),hD.ne,fun a ha=>hk (hD.al.block ha).2 (hD.ca a ha),fun a ha=>hk (hD.inn.block ha).2 (hD.ci a ha)⟩
   have hxo:Ext w3 wo:=Qcw hxn hM' hlo;have hWT:WT wo (fun k=>col' k≠0) pn c inn':=hes' ▸ hC'.wt hA'.inv (by rw[hes'];omega);generalize Qnp c.width s x=s' at hC' hA' hes';clear hC hA hes hD hlow' hM' hlo hxn hgn g9
   (conv=>whnf);repeat(refine Sg ?_;(conv=>whnf))
   refine⟨(Option Addr×Nat),(fun i => .slice i.1 inn'.length i.2),(fun i w'=>SlE w' i.1 inn'∧Ext wo w'),(none,0),fun _=>(Qwy hWT),?_⟩;rintro iwp wp hqwp;replace hqwp:=hqwp.elim (fun h=>h.2) fun h=>(h.1 (And.intro (by first | rfl | simp | decide) trivial)).elim
   obtain⟨hs5,hx5⟩:=hqwp
   (conv=>whnf);repeat(refine Sg ?_;(conv=>whnf))
   refine⟨Unit,(fun _ => .bool (decide (inn'=inn'))),(fun _ w'=>Ext wp w'),(),fun _=>((Qsc inn' inn' iwp.1 A2 iwp.2 c2 wp hs5 ((hD'.inn.ext hx5).sl Qaq) (by omega)).mono fun r w' h=>⟨(),h.1,h.2⟩),?_⟩;rintro iwq wq hqwq;replace hqwq:=hqwq.elim (fun h=>h.2) fun h=>(h.1 (And.intro (by first | rfl | simp | decide) trivial)).elim
   have hx6:=hx5.trans hqwq
   (conv=>whnf);repeat(refine Sg ?_;(conv=>whnf))
   constructor
   · intro h;simp at h
   intro _
   (conv=>whnf);repeat(refine Sg ?_;(conv=>whnf))
   refine⟨_,wrap_succ (by omega),?_⟩;(conv=>whnf);repeat(refine Sg ?_;(conv=>whnf))
   exact⟨(k+1,(A1,c1,al'),(A2,c2,inn'),s',col'),by simp only;omega,⟨⟨by simp only;omega,by simp only;omega,by simp only;omega⟩,hC'.ext hx6,hA',hes',hD'.ext hx6,hxo.trans hx6⟩,⟨rfl,rfl,rfl,rfl,rfl,rfl,rfl,rfl,trivial⟩⟩
 intro hge;have hWT:WT wa (fun k=>col k≠0) pn c inn:=hes ▸ hC.wt hA.inv (by rw[hes];omega);have g5a:=g5.ext hxa;have hlo:∀ j,col j≠0→w3.heap.size≤j:=hC.low
 (conv=>whnf);repeat(refine Sg ?_;(conv=>whnf))
 refine⟨Qi9 c,fun _=>⟨rfl,g5a.all⟩,?_⟩;(conv=>whnf);repeat(refine Sg ?_;(conv=>whnf))
 refine⟨Unit,(fun _ => .bool true),(fun _ w'=>Mod (fun k=>col k≠0) wa w'),(),fun _=>((Q01 hWT (hg0.ext (hx.trans hxa)) hcf (by omega) (fun k hk=>by have:=hlo k hk;omega) Ai ci hD.inn.le (hD.inn.sl Qaq) (fun a ha=>⟨(hD.inn.block ha).2,fun h=>h (hD.ci a ha)⟩) now).mono fun r w' h=>⟨(),h.1,h.2⟩),?_⟩;rintro iwz wz hqwz;replace hqwz:=hqwz.elim (fun h=>h.2) fun h=>(h.1 (And.intro (by first | rfl | simp | decide) trivial)).elim
 (conv=>whnf);repeat(refine Sg ?_;(conv=>whnf))
 exact⟨by simp,Qcw (hx.trans hxa) hqwz fun k hk=>Nat.le_trans s3 (hlo k hk)⟩
end Go.Proofs.YtdahooejkjcjiaaGreatDoor
