import Derived.Test.YteabekcdcphjpaaGreatDoorGW
/- The reference's sessions: New,ahead,Add,insert,All;the nearest. -/
set_option linter.unusedVariables false
set_option linter.unusedSimpArgs false
namespace Go.Proofs.YteabekcdcphjpaaGreatDoor
open Go.Se Go.RowKit
def Qlu (x:Ad3):List Value := [.string x.1,.int .i64 x.2.1,.string x.2.2]
theorem Qyw (x:Ad3):(Qlu x).length=3:=rfl
theorem Qyx (x:Ad3):∀ u∈Qlu x,u.oneCell'=true:=by simp[Qlu,Value.oneCell']
theorem Qjr:Qsr Tryz.prog 261 205 Qlu 3 40:=⟨by kernel_rfl,⟨_,ty205_ok,rfl,rfl⟩,by205,by decide,by decide,Qyw,Qyx⟩
theorem Q9m:Qsr Tryz.prog 206 208 seC 4 56:=⟨by kernel_rfl,⟨_,ty208_ok,rfl,rfl⟩,by208,by decide,by decide,Qda,Qky⟩
def S12 (w:World) (p:Nat) (gap:Int) (L:List Ad3):Prop:=∃ A c,At w p 263 [.int .i64 gap,.slice A L.length c]/\Sl Qlu 3 w A L/\L.length<=c/\∀ a,A=some a->a.block≠p
theorem S12.ext {w w1:World} {p:Nat} {gap:Int} {L:List Ad3} (h:S12 w p gap L) (hx:Ext w w1):S12 w1 p gap L:=by
 obtain⟨A,c,h1,h2,h3,h4⟩:=h
 exact⟨A,c,h1.ext hx,h2.ext hx,h3,h4⟩
theorem Q2d (gap:Int) (w:World):Cal Tryz.prog 124 [.int .i64 gap] w fun r w'=>∃ p,r = .pointer (some ⟨p,0,none⟩)/\w.heap.size<=p/\S12 w' p (Qvl gap) []/\Ext w w':=by
 refine Fi Tryz.func124 rfl _ rfl rfl (Hh ?_);intro p w1 hn1;conv=>whnf
 exact⟨p,rfl,by rw[hn1.block];exact Nat.le_refl _,⟨none,0,hn1.At,Sl.nil,Nat.le_refl _,by simp⟩,hn1.ext⟩
theorem Qxe (a b:Ad3) (w:World):Cal Tryz.prog 186 [.agg (Qlu a).toArray,.agg (Qlu b).toArray] w fun r w'=>r = .bool (ahB a b)/\Ext w w':=by
 refine Fi Tryz.func186 rfl _ rfl rfl (Hh ?_);intro b1 w1 hn1;conv=>whnf
 intro b2 w2 hn2;conv=>whnf
 have h1:At w2 b1 _ (Qlu a):=hn1.At.ext hn2.ext;have h2:At w2 b2 _ (Qlu b):=hn2.At;have hx:=hn1.ext.trans hn2.ext;refine⟨_,h1.one rfl,Hh ?_⟩;refine⟨_,h2.one rfl,Hh ?_⟩;constructor
 . intro hq
   have hq:¬ a.1=b.1:=by simpa using hq
   conv=>whnf
   refine⟨_,h1.one rfl,Hh ?_⟩;refine⟨_,h2.one rfl,Hh ?_⟩
   exact⟨by unfold ahB;rw[if_neg hq];rfl,hx⟩
 intro hq;have hq:a.1=b.1:=by simpa using hq
 conv=>whnf
 refine⟨_,h1.one rfl,Hh ?_⟩;refine⟨_,h2.one rfl,Hh ?_⟩;constructor
 . intro hq2
   have hq2:¬ a.2.1=b.2.1:=by simpa using hq2
   conv=>whnf
   refine⟨_,h1.one rfl,Hh ?_⟩;refine⟨_,h2.one rfl,Hh ?_⟩
   exact⟨by unfold ahB;rw[if_pos hq,if_neg hq2],hx⟩
 intro hq2;have hq2:a.2.1=b.2.1:=by simpa using hq2
 conv=>whnf
 refine⟨_,h1.one rfl,Hh ?_⟩;refine⟨_,h2.one rfl,Hh ?_⟩
 exact⟨by unfold ahB;rw[if_pos hq,if_pos hq2];rfl,hx⟩
theorem Qja {α:Type} [DecidableEq α] {lt:α->α->Bool} {l:List α} {a:α} {k:Nat} (t1:l.takeWhile (fun x=>lt x a)=l.take k) (t2:l.dropWhile (fun x=>lt x a)=l.drop k) (h:l[k]? ≠ some a):Qez lt l a=l.take k++a :: l.drop k:=by
 unfold Qez;rw[t1,t2,if_neg];rw[List.head?_drop]
 exact h
theorem Qnf {α:Type} [DecidableEq α] {lt:α->α->Bool} {l:List α} {a:α} {k:Nat} (t2:l.dropWhile (fun x=>lt x a)=l.drop k) (h:l[k]? = some a):Qez lt l a=l:=by
 unfold Qez;rw[t2,if_pos];rw[List.head?_drop]
 exact h
theorem Xb4 (a b:Ad3) (ox oy:Operand):Qsx Tryz.prog 205 ox oy (.agg (Qlu a).toArray) (.agg (Qlu b).toArray) (decide (a=b)):=by
 have h:=Qla (ox:=ox) (oy:=oy) Qa st205 (xs:=Qlu a) (ys:=Qlu b) (b:=decide (a.1=b.1)&&(decide (a.2.1=b.2.1)&&(decide (a.2.2=b.2.2)&&true))) rfl
 have e:(decide (a.1=b.1)&&(decide (a.2.1=b.2.1)&&(decide (a.2.2=b.2.2)&&true)))=decide (a=b):=by
  rw[Bool.eq_iff_iff];obtain⟨a1,a2,a3⟩:=a;obtain⟨b1,b2,b3⟩:=b
  simp
 rw[e] at h
 exact h
set_option maxHeartbeats 2000000 in
theorem Q2a (w:World) (p:Nat) (gap:Int) (L:List Ad3) (h:S12 w p gap L) (x:Ad3) (hx0:Q63 x) (hl:L.length<100000) :
 Cal Tryz.prog 125 [.pointer (some ⟨p,0,none⟩),.agg (Qlu x).toArray] w fun r w'=>r = .bool true/\S12 w' p gap (Qez ahB L x)/\Mod (fun k=>k=p) w w':=by
 obtain⟨A,c,hp,hsl,hcap,hA⟩:=h;have hpl:=hp.lt;obtain⟨⟨g1,g2⟩,⟨g3,g4⟩,g5,g6⟩:=id hx0;refine Fi Tryz.func125 rfl _ rfl rfl (Hh ?_);intro b1 w1 hn1;have hb:At w1 b1 205 (Qlu x):=hn1.At;have hx1:=hn1.ext;have hb1:w.heap.size<=b1:=by rw[hn1.block];exact Nat.le_refl _
 clear hn1
 conv=>whnf
 refine⟨.string x.1,hb.one rfl,Hh ?_⟩;refine⟨.string x.1,fun _=>hb.one rfl,Hh ?_⟩;refine⟨.string x.2.2,fun _=>hb.one rfl,Hh ?_⟩;refine⟨.string x.2.2,fun _=>hb.one rfl,Hh ?_⟩;refine⟨.int .i64 x.2.1,fun _=>hb.one rfl,Hh ?_⟩;refine⟨.int .i64 x.2.1,fun _=>hb.one rfl,Hh ?_⟩;constructor
 . intro hc
   exfalso
   simp at hc
   omega
 intro _
 conv=>whnf
 refine Qd Qa (fun(k:Nat) w'=>k<=L.length/\Ext w1 w'/\∀ y∈L.take k,ahB y x=true)
  (fun k => [(0,.pointer (some ⟨p,0,none⟩)),(3,.pointer (some ⟨b1,0,none⟩)),(5,.int .i64 (k:Nat))]) (fun k=>L.length-k) 0 ⟨Nat.zero_le _,Ext.refl _,by simp⟩ Rr ?_
 rintro k w2 ⟨hk,hx2,hall⟩
 conv=>whnf
 refine Dr .same [0,1,2,3,4,5,6,7,8,9,10,11,12,13,14,15] [16,17] (Hh ?_);have hxd:=hx2.drew;generalize w2.drew=w3 at hxd ⊢;have hx13:=hx1.trans hxd;have hb3:=hb.ext hxd;have hp3:=hp.ext hx13
 obtain⟨a1,y,hk1⟩:∃ a1 y,k<L.length->A=some a1/\L[k]? = some y/\∀ {w':World},Ext w w'->Xm w' (a1.add (k*3)) (Qlu y):=by
  by_cases hh:k<L.length
  . obtain⟨a1,h1,h2⟩:=hsl.get hh
    exact⟨a1,L[k],fun _=>⟨h1,List.getElem?_eq_getElem hh,fun hx=>hx.cells h2⟩⟩
  . exact⟨⟨0,0,none⟩,x,fun h=>absurd h hh⟩
 have hd:∀ {q:Nat},decide ((q:Int)<(L.length:Int))=true->q<L.length:=fun h=>by simpa using h
 refine⟨.slice A L.length c,hp3.one rfl,Hh ?_⟩;refine⟨.slice A L.length c,fun _=>hp3.one rfl,Hh ?_⟩;refine⟨a1,fun hg=>⟨(hk1 (hd hg)).1,by omega,by have:=hd hg;omega⟩,Hh ?_⟩;refine⟨Qlu y,fun hg=>⟨rfl,(hk1 (hd hg)).2.2 hx13⟩,Hh ?_⟩;refine⟨Qlu x,fun _=>⟨rfl,hb3.all⟩,Hh ?_⟩;refine⟨Unit,fun _=>(.bool (ahB y x)),fun _ w'=>Ext w3 w',(),fun hg=>((Qxe y x w3)).mono fun r w' h=>⟨(),h.1,h.2⟩,?_⟩;intro _ w4 h2
 have hx4:Ext w3 w4:=by
  rcases h2 with⟨_,h⟩ | ⟨_,h⟩
  . exact h
  . rw[h];exact Ext.refl _
 clear h2
 conv=>whnf
 have hx14:=hxd.trans hx4;have hx04:=hx1.trans hx14;constructor
 . intro hc
   have hc:(decide ((k:Int)<(L.length:Int))&&ahB y x)=true:=hc;rw[Bool.and_eq_true] at hc;have hlt:=hd hc.1;have htk:=Xl L k hlt;have hxe:L[k]=y:=by have:=(hk1 hlt).2.1;rw[List.getElem?_eq_getElem hlt] at this;simpa using this
   conv=>whnf
   refine⟨_,wrap_succ (by omega),Hh ?_⟩;refine⟨k+1,by omega,⟨by omega,hx14,fun z hz => ?_⟩,Rr⟩;rw[htk,hxe] at hz;rcases List.mem_append.1 hz with hz | hz
   . exact hall z hz
   . simp at hz;subst hz;exact hc.2
 intro hc;have hc:(decide ((k:Int)<(L.length:Int))&&ahB y x)=false:=hc
 have hend:k=L.length\/∃ z,L[k]? = some z/\ahB z x=false:=by
  by_cases hh:k<L.length
  . refine .inr ⟨y,(hk1 hh).2.1,?_⟩
    have:decide ((k:Int)<(L.length:Int))=true:=by simpa using hh
    rw[this] at hc
    simpa using hc
  . exact .inl (by omega)
 obtain⟨t1,t2⟩:=Qcc (p:=fun z=>ahB z x) hk hall hend
 conv=>whnf
 refine Dr .same [0,1,2,3,4,5,6,7,8,9,10,11,12,13,14,15,16,17] [] (Hh ?_);have hx15:=hx14.drew;have hx05:=hx04.drew;generalize w4.drew=w5 at hx15 hx05 ⊢;have hb5:=hb.ext hx15;have hp5:=hp.ext hx05;refine⟨.slice A L.length c,hp5.one rfl,Hh ?_⟩;refine⟨.slice A L.length c,fun _=>hp5.one rfl,Hh ?_⟩;refine⟨a1,fun hg=>⟨(hk1 (hd hg)).1,by omega,by have:=hd hg;omega⟩,Hh ?_⟩;refine⟨Qlu y,fun hg=>⟨rfl,(hk1 (hd hg)).2.2 hx05⟩,Hh ?_⟩;refine⟨Qlu x,fun _=>⟨rfl,hb5.all⟩,Hh ?_⟩;refine⟨_,fun _=>Xb4 y x _ _,Hh ?_⟩;constructor
 . intro hq
   have hq:(decide ((k:Int)<(L.length:Int))&&decide (y=x))=true:=hq;rw[Bool.and_eq_true,decide_eq_true_eq (p:=y=x)] at hq;have hin:Qez ahB L x=L:=Qnf t2 (by rw[(hk1 (hd hq.1)).2.1,hq.2]);rw[hin]
   conv=>whnf
   exact⟨rfl,⟨A,c,hp5,hsl.ext hx05,hcap,hA⟩,Mod.of_ext hx05⟩
 intro hq;have hq:(decide ((k:Int)<(L.length:Int))&&decide (y=x))=false:=hq
 have hne:L[k]? ≠ some x:=fun e=>by
  have hlt:k<L.length:=(List.getElem?_eq_some_iff.1 e).1;have h1:=(hk1 hlt).2.1;rw[e] at h1;have h2:x=y:=by simpa using h1
  have h3:decide ((k:Int)<(L.length:Int))=true:=by simpa using hlt
  rw[h3,h2] at hq
  simp at hq
 have hout:=Qja t1 t2 hne;have hsk:=Xt (Qfj (hsl.ext hx05) k) 0 c (by rw[List.length_take];omega);have hsd:=Xt (hsl.ext hx05) k c hcap;rw[List.drop_zero] at hsk;have hkm:k=(L.take k).length:=by rw[List.length_take];omega
 have hdl:L.length-k=(L.drop k).length:=by rw[List.length_drop]
 have htot:(L.take k).length+(L.drop k).length=L.length:=by rw[List.length_take,List.length_drop];omega
 generalize L.take k=T at hsk hkm htot hout;generalize L.drop k=D at hsd hdl htot hout;clear hk1 hc hq hend t1 t2 hall hne
 conv=>whnf
 refine Qgh (ι:=Option Addr×Nat) (fun j => []) (fun j w'=>Mod (fun k=>k=p) w5 w'/\At w' p 263 [.int .i64 gap,.slice j.1 (Qez ahB L x).length j.2]/\Own Qlu 3 205 w5.heap.size w' j.1 j.2 (Qez ahB L x)) ?_ ?_
 . refine Qpm (.mods (fun k=>w5.heap.size<=k)) (Pl.seq [0,2,3,4,5,6,7,9,12,13,14,15,16,17] (Pl.two 1 (Pl.seq [] (Pl.two 8 (Pl.seq [10,11,18] Pl.done) 10 (Pl.seq [8,11,18] Pl.done))) 10 (Pl.seq [1,8,11,18] Pl.done))) [19,20,21] (by intro h;cases h) Qa mixed (by kernel_rfl) (Hh ?_)
   have hpl5:=hp5.lt;have hbl5:=hb5.lt;have hp6:At w5.drew p 263 [.int .i64 gap,.slice A L.length c]:=hp5;have hb6:At w5.drew b1 205 (Qlu x):=hb5;have hx6:=(Ext.refl w5).drew;generalize w5.drew=w6 at hp6 hb6 hx6 ⊢;refine⟨.slice A L.length c,⟨hp6.one rfl,by show ¬ (w5.heap.size<=p);omega⟩,Hh ?_⟩;refine⟨⟨by omega,by omega,by omega,by omega⟩,Hh ?_⟩;refine⟨Qlu x,⟨rfl,hb6.all,by show ¬ (w5.heap.size<=b1);omega⟩,Hh ?_⟩;refine⟨.slice A L.length c,⟨hp6.one rfl,by show ¬ (w5.heap.size<=p);omega⟩,Hh ?_⟩;refine⟨⟨by omega,by omega,by omega,by omega⟩,Hh ?_⟩;have hE:=hx6;refine⟨?_,?_⟩
   . intro b6 w6 hn6
     have o6:=(Qjr).made (base:=w5.heap.size) hn6 hE.size;have hE:=hE.trans hn6.ext;refine⟨Mod.of_ext hn6.ext,Hh ?_⟩;refine⟨?_,?_⟩
     . refine Qi Qjr (l := []) (news:=T) rfl o6 (hkm) ((hsk).ext hE) (by simp;omega) hE.size fun A7 c7 w7 hown7 hg7 hA7 => ?_
       have hE:=Qh hE hg7 (Qs o6);refine⟨Qo hg7 (Qs o6),Hh ?_⟩;intro b8 w8 hn8;have h8:=(Qjr).new1 (x:=x) hn8;have hown7:=hown7.ext hn8.ext;have hE:=hE.trans hn8.ext;refine⟨Mod.of_ext hn8.ext,Hh ?_⟩;refine Qi Qjr (l:=T) (news := [x]) rfl hown7 rfl h8 (by simp;omega) hE.size fun A9 c9 w9 hown9 hg9 hA9 => ?_
       have hE:=Qh hE hg9 (Qs hown7);refine⟨Qo hg9 (Qs hown7),Hh ?_⟩;generalize hT1:T ++ [x]=T1 at hown9 ⊢;have hT1l:T1.length=T.length+1:=by rw[<- hT1];simp
       refine Qi Qjr (l:=T1) (news:=D) rfl hown9 hdl (hsd.ext hE) (by omega) hE.size fun A10 c10 w10 hown10 hg10 hA10 => ?_
       have hE:=Qh hE hg10 (Qs hown9);have hfin:Qez ahB L x=T1++D:=by rw[hout,<- hT1];simp
       rw[<- hfin] at hown10 ⊢;generalize Qez ahB L x=L9 at hown10 ⊢;refine⟨Qo hg10 (Qs hown9),Hh ?_⟩;refine Qg Qa (e:=ty261) rfl (hp5.ext hE) rfl rfl rfl (by simp[Qr,Value.oneCell']) fun w11 h11 ho11 => ?_
       conv=>whnf
       exact⟨(A10,c10),⟨(Mod.of_ext hE).trans (Qq ho11 rfl),h11,hown10.keep fun a ha=>ho11.block a.block (fun e=>by have:=(hown10.block ha).1;omega)⟩,trivial⟩
     . intro b8 w8 hn8
       have h8:=(Qjr).new1 (x:=x) hn8;have o6:=o6.ext hn8.ext;have hE:=hE.trans hn8.ext;refine⟨Mod.of_ext hn8.ext,Hh ?_⟩;refine Qi Qjr (l := []) (news:=T) rfl o6 (hkm) ((hsk).ext hE) (by simp;omega) hE.size fun A7 c7 w7 hown7 hg7 hA7 => ?_
       have h8:=Qck h8 (w1:=w7) (fun a' ha'=>by
        obtain rfl:(⟨b8,0,none⟩:Addr)=a':=by simpa using ha'
        exact hg7.block b8 (by rw[hn8.block];have:=hn6.size;have:=hn8.size;omega) (fun e'=>by
         have h68:b8=b6:=by simpa using e'
         have:=hn6.size;have:=hn8.size;rw[hn6.block,hn8.block] at h68;omega))
       have hE:=Qh hE hg7 (Qs o6);refine⟨Qo hg7 (Qs o6),Hh ?_⟩;refine Qi Qjr (l:=T) (news := [x]) rfl hown7 rfl h8 (by simp;omega) hE.size fun A9 c9 w9 hown9 hg9 hA9 => ?_
       have hE:=Qh hE hg9 (Qs hown7);refine⟨Qo hg9 (Qs hown7),Hh ?_⟩;generalize hT1:T ++ [x]=T1 at hown9 ⊢;have hT1l:T1.length=T.length+1:=by rw[<- hT1];simp
       refine Qi Qjr (l:=T1) (news:=D) rfl hown9 hdl (hsd.ext hE) (by omega) hE.size fun A10 c10 w10 hown10 hg10 hA10 => ?_
       have hE:=Qh hE hg10 (Qs hown9);have hfin:Qez ahB L x=T1++D:=by rw[hout,<- hT1];simp
       rw[<- hfin] at hown10 ⊢;generalize Qez ahB L x=L9 at hown10 ⊢;refine⟨Qo hg10 (Qs hown9),Hh ?_⟩;refine Qg Qa (e:=ty261) rfl (hp5.ext hE) rfl rfl rfl (by simp[Qr,Value.oneCell']) fun w11 h11 ho11 => ?_
       conv=>whnf
       exact⟨(A10,c10),⟨(Mod.of_ext hE).trans (Qq ho11 rfl),h11,hown10.keep fun a ha=>ho11.block a.block (fun e=>by have:=(hown10.block ha).1;omega)⟩,trivial⟩
   . intro b8 w8 hn8
     have h8:=(Qjr).new1 (x:=x) hn8;have hE:=hE.trans hn8.ext;refine⟨Mod.of_ext hn8.ext,Hh ?_⟩;intro b6 w6 hn6;have o6:=(Qjr).made (base:=w5.heap.size) hn6 hE.size;have hE:=hE.trans hn6.ext;have h8:=h8.ext hn6.ext;refine⟨Mod.of_ext hn6.ext,Hh ?_⟩;refine Qi Qjr (l := []) (news:=T) rfl o6 (hkm) ((hsk).ext hE) (by simp;omega) hE.size fun A7 c7 w7 hown7 hg7 hA7 => ?_
     have h8:=Qck h8 (w1:=w7) (fun a' ha'=>by
      obtain rfl:(⟨b8,0,none⟩:Addr)=a':=by simpa using ha'
      exact hg7.block b8 (by rw[hn8.block];have:=hn6.size;have:=hn8.size;omega) (fun e'=>by
       have h68:b8=b6:=by simpa using e'
       have:=hn6.size;have:=hn8.size;rw[hn6.block,hn8.block] at h68;omega))
     have hE:=Qh hE hg7 (Qs o6);refine⟨Qo hg7 (Qs o6),Hh ?_⟩;refine Qi Qjr (l:=T) (news := [x]) rfl hown7 rfl h8 (by simp;omega) hE.size fun A9 c9 w9 hown9 hg9 hA9 => ?_
     have hE:=Qh hE hg9 (Qs hown7);refine⟨Qo hg9 (Qs hown7),Hh ?_⟩;generalize hT1:T ++ [x]=T1 at hown9 ⊢;have hT1l:T1.length=T.length+1:=by rw[<- hT1];simp
     refine Qi Qjr (l:=T1) (news:=D) rfl hown9 hdl (hsd.ext hE) (by omega) hE.size fun A10 c10 w10 hown10 hg10 hA10 => ?_
     have hE:=Qh hE hg10 (Qs hown9);have hfin:Qez ahB L x=T1++D:=by rw[hout,<- hT1];simp
     rw[<- hfin] at hown10 ⊢;generalize Qez ahB L x=L9 at hown10 ⊢;refine⟨Qo hg10 (Qs hown9),Hh ?_⟩;refine Qg Qa (e:=ty261) rfl (hp5.ext hE) rfl rfl rfl (by simp[Qr,Value.oneCell']) fun w11 h11 ho11 => ?_
     conv=>whnf
     exact⟨(A10,c10),⟨(Mod.of_ext hE).trans (Qq ho11 rfl),h11,hown10.keep fun a ha=>ho11.block a.block (fun e=>by have:=(hown10.block ha).1;omega)⟩,trivial⟩
 rintro ⟨A7,c7⟩ w7 ⟨hM7,hp7,hown7⟩;simp only at hp7 hown7;have s5:=hx05.size
 conv=>whnf
 exact⟨rfl,⟨A7,c7,hp7,hown7.sl Qyw,hown7.le,fun a ha e=>by have:=(hown7.block ha).1;omega⟩,(Mod.of_ext hx05).trans hM7⟩
set_option maxHeartbeats 1000000 in
theorem Q2c (l:List ByteArray) (s:ByteArray) (A:Option Addr) (c:Nat) (w:World) (hs:SlT w A l) (hl:l.length<1000000) (hcap:l.length<=c) :
 Cal Tryz.prog 187 [.slice A l.length c,.string s] w fun r w'=>∃ A' c',r = .slice A' (Qez bLt l s).length c'/\(Qez bLt l s).length<=c'/\SlT w' A' (Qez bLt l s)/\(A'=A\/∀ a,A'=some a->w.heap.size<=a.block/\a.block<w'.heap.size/\a.spot=none)/\Ext w w':=by
 refine Fi Tryz.func187 rfl _ rfl rfl (Hh ?_)
 refine Qd Qa (fun(k:Nat) w'=>k<=l.length/\w'=w/\∀ x∈l.take k,bLt x s=true)
  (fun k => [(0,.slice A l.length c),(1,.string s),(5,.int .i64 k)]) (fun k=>l.length-k) 0 ⟨by omega,rfl,by simp⟩ Rr ?_
 rintro k w1 ⟨hk,hw1,hall⟩;replace hw1:=hw1.symm;subst hw1
 obtain⟨a1,x1,hk1⟩:∃ a1 x1,k<l.length->A=some a1/\l[k]? = some x1/\w.cell? (a1.add (k*1))=some (.string x1):=by
  by_cases hh:k<l.length
  . obtain⟨a1,h1,h2⟩:=hs.get hh
    exact⟨a1,l[k],fun _=>⟨h1,List.getElem?_eq_getElem hh,Qp h2⟩⟩
  . exact⟨⟨0,0,none⟩,s,fun h=>absurd h hh⟩
 have hd:∀ {p:Nat},decide ((p:Int)<(l.length:Int))=true->p<l.length:=fun h=>by simpa using h
 conv=>whnf
 refine⟨a1,fun hg=>⟨(hk1 (hd hg)).1,by omega,by have:=hd hg;omega⟩,Hh ?_⟩;refine⟨.string x1,fun hg=>(hk1 (hd hg)).2.2,Hh ?_⟩;constructor
 . intro hc
   have hc:(decide ((k:Int)<(l.length:Int))&&bLt x1 s)=true:=hc;rw[Bool.and_eq_true] at hc;have hlt:=hd hc.1;have htk:=Xl l k hlt;have hxe:l[k]=x1:=by have:=(hk1 hlt).2.1;rw[List.getElem?_eq_getElem hlt] at this;simpa using this
   conv=>whnf
   refine⟨_,wrap_succ (by omega),Hh ?_⟩;refine⟨k+1,by omega,⟨by omega,rfl,fun y hy => ?_⟩,Rr⟩;rw[htk,hxe] at hy;rcases List.mem_append.1 hy with hy | hy
   . exact hall y hy
   . simp at hy;subst hy;exact hc.2
 . intro hc
   have hc:(decide ((k:Int)<(l.length:Int))&&bLt x1 s)=false:=hc
   have hend:k=l.length\/∃ x,l[k]? = some x/\bLt x s=false:=by
    by_cases hh:k<l.length
    . refine .inr ⟨x1,(hk1 hh).2.1,?_⟩
      have:decide ((k:Int)<(l.length:Int))=true:=by simpa using hh
      rw[this] at hc
      simpa using hc
    . exact .inl (by omega)
   obtain⟨t1,t2⟩:=Qcc (p:=fun x=>bLt x s) hk hall hend
   conv=>whnf
   refine⟨a1,fun hg=>⟨(hk1 (hd hg)).1,by omega,by have:=hd hg;omega⟩,Hh ?_⟩;refine⟨.string x1,fun hg=>(hk1 (hd hg)).2.2,Hh ?_⟩;constructor
   . intro hq
     have hq:(decide ((k:Int)<(l.length:Int))&&decide (x1=s))=true:=hq;rw[Bool.and_eq_true,decide_eq_true_eq (p:=x1=s)] at hq;have hin:Qez bLt l s=l:=Qnf t2 (by rw[(hk1 (hd hq.1)).2.1,hq.2]);rw[hin]
     conv=>whnf
     exact⟨A,c,rfl,hcap,hs,.inl rfl,Ext.refl _⟩
   . intro hq
     have hq:(decide ((k:Int)<(l.length:Int))&&decide (x1=s))=false:=hq
     have hne:l[k]? ≠ some s:=fun e=>by
      have hlt:k<l.length:=(List.getElem?_eq_some_iff.1 e).1;have h1:=(hk1 hlt).2.1;rw[e] at h1;have h2:s=x1:=by simpa using h1
      have h3:decide ((k:Int)<(l.length:Int))=true:=by simpa using hlt
      rw[h3,h2] at hq
      simp at hq
     rw[Qja t1 t2 hne];clear hk1 hc hq hend t1 t2 hall hne;have hsk:=Xt (Qfj hs k) 0 c (by rw[List.length_take];omega);have hsd:=Xt hs k c hcap;rw[List.drop_zero] at hsk;have hkm:k=(l.take k).length:=by rw[List.length_take];omega
     have hdl:l.length-k=(l.drop k).length:=by rw[List.length_drop]
     have htot:(l.take k).length+(l.drop k).length=l.length:=by rw[List.length_take,List.length_drop];omega
     generalize l.take k=T at hsk hkm htot ⊢;generalize l.drop k=D at hsd hdl htot ⊢
     conv=>whnf
     refine Qcl (.mods (fun k=>w.heap.size<=k)) (Pl.seq [1,2,3,5,8,9,10] (Pl.two 0 (Pl.seq [] (Pl.two 4 (Pl.seq [6,7,11,12] Pl.done) 6 (Pl.seq [4,7,11,12] Pl.done))) 6 (Pl.seq [0,4,7,11,12] Pl.done))) (by intro h;cases h) Qa mixed (by kernel_rfl) (Hh ?_);have hx3:=(Ext.refl w).drew;generalize w.drew=w3 at hx3 ⊢;refine⟨⟨by omega,by omega,by omega,by omega⟩,Hh ?_⟩;refine⟨⟨by omega,by omega,by omega,by omega⟩,Hh ?_⟩;have hE:=hx3;refine⟨?_,?_⟩
     . intro b6 w6 hn6
       have o6:=(Xa).made (base:=w.heap.size) hn6 hE.size;have hE:=hE.trans hn6.ext;refine⟨Mod.of_ext hn6.ext,Hh ?_⟩;refine⟨?_,?_⟩
       . refine Qi Xa (l := []) (news:=T) rfl o6 (hkm) ((hsk).ext hE) (by simp;omega) hE.size fun A7 c7 w7 hown7 hg7 hA7 => ?_
         have hE:=Qh hE hg7 (Qs o6);refine⟨Qo hg7 (Qs o6),Hh ?_⟩;intro b8 w8 hn8;have h8:=(Xa).new1 (x:=s) hn8;have hown7:=hown7.ext hn8.ext;have hE:=hE.trans hn8.ext;refine⟨Mod.of_ext hn8.ext,Hh ?_⟩;refine Qi Xa (l:=T) (news := [s]) rfl hown7 rfl h8 (by simp;omega) hE.size fun A9 c9 w9 hown9 hg9 hA9 => ?_
         have hE:=Qh hE hg9 (Qs hown7);refine⟨Qo hg9 (Qs hown7),Hh ?_⟩;generalize hT1:T ++ [s]=T1 at hown9 ⊢;have hT1l:T1.length=T.length+1:=by rw[<- hT1];simp
         refine Qi Xa (l:=T1) (news:=D) rfl hown9 hdl (hsd.ext hE) (by omega) hE.size fun A10 c10 w10 hown10 hg10 hA10 => ?_
         have hE:=Qh hE hg10 (Qs hown9);have hfin:T++s :: D=T1++D:=by rw[<- hT1];simp
         rw[hfin];generalize T1++D=T2 at hown10 ⊢;refine⟨Qo hg10 (Qs hown9),Hh ?_⟩
         exact⟨A10,c10,rfl,hown10.le,hown10.sl Xa.sz,.inr fun a ha=>⟨(hown10.block ha).1,(hown10.block ha).2,Qge hown10 ha⟩,hE⟩
       . intro b8 w8 hn8
         have h8:=(Xa).new1 (x:=s) hn8;have o6:=o6.ext hn8.ext;have hE:=hE.trans hn8.ext;refine⟨Mod.of_ext hn8.ext,Hh ?_⟩;refine Qi Xa (l := []) (news:=T) rfl o6 (hkm) ((hsk).ext hE) (by simp;omega) hE.size fun A7 c7 w7 hown7 hg7 hA7 => ?_
         have h8:=Qck h8 (w1:=w7) (fun a' ha'=>by
          obtain rfl:(⟨b8,0,none⟩:Addr)=a':=by simpa using ha'
          exact hg7.block b8 (by rw[hn8.block];have:=hn6.size;have:=hn8.size;omega) (fun e'=>by
           have h68:b8=b6:=by simpa using e'
           have:=hn6.size;have:=hn8.size;rw[hn6.block,hn8.block] at h68;omega))
         have hE:=Qh hE hg7 (Qs o6);refine⟨Qo hg7 (Qs o6),Hh ?_⟩;refine Qi Xa (l:=T) (news := [s]) rfl hown7 rfl h8 (by simp;omega) hE.size fun A9 c9 w9 hown9 hg9 hA9 => ?_
         have hE:=Qh hE hg9 (Qs hown7);refine⟨Qo hg9 (Qs hown7),Hh ?_⟩;generalize hT1:T ++ [s]=T1 at hown9 ⊢;have hT1l:T1.length=T.length+1:=by rw[<- hT1];simp
         refine Qi Xa (l:=T1) (news:=D) rfl hown9 hdl (hsd.ext hE) (by omega) hE.size fun A10 c10 w10 hown10 hg10 hA10 => ?_
         have hE:=Qh hE hg10 (Qs hown9);have hfin:T++s :: D=T1++D:=by rw[<- hT1];simp
         rw[hfin];generalize T1++D=T2 at hown10 ⊢;refine⟨Qo hg10 (Qs hown9),Hh ?_⟩
         exact⟨A10,c10,rfl,hown10.le,hown10.sl Xa.sz,.inr fun a ha=>⟨(hown10.block ha).1,(hown10.block ha).2,Qge hown10 ha⟩,hE⟩
     . intro b8 w8 hn8
       have h8:=(Xa).new1 (x:=s) hn8;have hE:=hE.trans hn8.ext;refine⟨Mod.of_ext hn8.ext,Hh ?_⟩;intro b6 w6 hn6;have o6:=(Xa).made (base:=w.heap.size) hn6 hE.size;have hE:=hE.trans hn6.ext;have h8:=h8.ext hn6.ext;refine⟨Mod.of_ext hn6.ext,Hh ?_⟩;refine Qi Xa (l := []) (news:=T) rfl o6 (hkm) ((hsk).ext hE) (by simp;omega) hE.size fun A7 c7 w7 hown7 hg7 hA7 => ?_
       have h8:=Qck h8 (w1:=w7) (fun a' ha'=>by
        obtain rfl:(⟨b8,0,none⟩:Addr)=a':=by simpa using ha'
        exact hg7.block b8 (by rw[hn8.block];have:=hn6.size;have:=hn8.size;omega) (fun e'=>by
         have h68:b8=b6:=by simpa using e'
         have:=hn6.size;have:=hn8.size;rw[hn6.block,hn8.block] at h68;omega))
       have hE:=Qh hE hg7 (Qs o6);refine⟨Qo hg7 (Qs o6),Hh ?_⟩;refine Qi Xa (l:=T) (news := [s]) rfl hown7 rfl h8 (by simp;omega) hE.size fun A9 c9 w9 hown9 hg9 hA9 => ?_
       have hE:=Qh hE hg9 (Qs hown7);refine⟨Qo hg9 (Qs hown7),Hh ?_⟩;generalize hT1:T ++ [s]=T1 at hown9 ⊢;have hT1l:T1.length=T.length+1:=by rw[<- hT1];simp
       refine Qi Xa (l:=T1) (news:=D) rfl hown9 hdl (hsd.ext hE) (by omega) hE.size fun A10 c10 w10 hown10 hg10 hA10 => ?_
       have hE:=Qh hE hg10 (Qs hown9);have hfin:T++s :: D=T1++D:=by rw[<- hT1];simp
       rw[hfin];generalize T1++D=T2 at hown10 ⊢;refine⟨Qo hg10 (Qs hown9),Hh ?_⟩
       exact⟨A10,c10,rfl,hown10.le,hown10.sl Xa.sz,.inr fun a ha=>⟨(hown10.block ha).1,(hown10.block ha).2,Qge hown10 ha⟩,hE⟩
set_option maxHeartbeats 2000000 in
theorem Q2b (w:World) (p:Nat) (gap:Int) (L:List Ad3) (h:S12 w p gap L) (hg:0<=gap/\gap<=1099511627776) (hok:∀ x∈L,Q63 x) (hl:L.length<100000) :
 Cal Tryz.prog 126 [.pointer (some ⟨p,0,none⟩),.int .i64 1099511627776] w fun r w'=>∃ A c T,r = .slice A T.length c/\Sl seC 4 w' A T/\Qat w' w.heap.size (rowB A) T (allL gap L)/\Ext w w':=by
 obtain⟨A,c,hp,hsl,hcap,hA⟩:=h;refine Fi Tryz.func126 rfl _ rfl rfl (Hh ?_)
 refine Qd Qa (fun(q:Nat×Option Addr×Nat×List SnH) w'=>q.1<=L.length/\Ext w w'/\Own seC 4 208 w.heap.size w' q.2.1 q.2.2.1 q.2.2.2/\Qat w' w.heap.size (rowB q.2.1) q.2.2.2 (allL gap (L.take q.1))/\∀ d∈q.2.2.2,d.2.2.2.2.1<=d.2.2.2.2.2)
  (fun | (i,B,d,T) => [(0,.pointer (some ⟨p,0,none⟩)),(1,.int .i64 1099511627776),(5,.slice B T.length d),(6,.int .i64 (i:Nat))]) (fun q=>L.length-q.1) (0,none,0,[]) ⟨Nat.zero_le _,Ext.refl _,Own.nil,Qat.nil,by simp⟩ Rr ?_
 rintro ⟨i,B,d,T⟩ w1 ⟨hi,hx1,hown,hsn,hcp⟩;simp only at hi hown hsn hcp;have hp1:=hp.ext hx1;obtain⟨hbl,hbs⟩:=Qpa gap (L.take i) fun x hx=>hok x (List.mem_of_mem_take hx)
 have hTQ:=hsn.len;rw[List.length_take] at hbl;have hTl:T.length<=i:=by omega
 conv=>whnf
 refine⟨.slice A L.length c,hp1.one rfl,Hh ?_⟩;constructor
 . intro hlt
   have hlt:i<L.length:=by simpa using hlt
   obtain⟨a2,hA2,hc2⟩:=(hsl.ext hx1).get hlt;subst hA2;have htk:allL gap (L.take (i+1))=Qam gap (allL gap (L.take i)) L[i]:=by rw[List.take_succ_eq_append_getElem hlt,Qer]
   have hxo:=hok L[i] (List.getElem_mem hlt);generalize L[i]=x at hc2 htk hxo;generalize hQ:allL gap (L.take i)=Q at htk hsn hbs hTQ;obtain⟨⟨g1,g2⟩,⟨g3,g4⟩,g5,g6⟩:=id hxo;refine Gg ?_;refine⟨.slice (some a2) L.length c,hp1.one rfl,Gg ?_⟩;refine⟨a2,Ix,Gg ?_⟩;refine⟨Qlu x,⟨rfl,hc2⟩,Gg ?_⟩;intro b3 w3 hn3;refine Gg ?_;refine Qg Qa (e:=ty205) rfl hn3.At rfl rfl rfl (Qyx x) fun w4 h4 ho4 => ?_
   have h4:At w4 b3 205 (Qlu x):=h4;have hx14:Ext w1 w4:=ho4.ext hn3.ext (by rw[hn3.block];exact Nat.le_refl _);clear ho4 hn3;refine Gg ?_;refine⟨.int .i64 x.2.1,h4.one rfl,Gg ?_⟩;constructor
   . intro hq
     exfalso
     simp at hq
     omega
   intro _;refine Gg ?_;obtain⟨K,hK⟩:∃ K:Int,K=(T.length:Int)-1:=⟨_,rfl⟩;refine⟨K,wrap_eq hK ⟨by omega,by omega⟩,Gg ?_⟩;refine Dr .same [0,1,2,3,4,5,6,7,8,9,10,11,12,13,14,15,16,17,18,19,20,21,22,23,24,25,26] [] (Hh ?_);have hx15:=hx14.drew;replace h4:=h4.ext (Ext.refl w4).drew;generalize w4.drew=w5 at hx15 h4 ⊢;have hp5:=hp1.ext hx15;have hown5:=hown.ext hx15;have hsn5:=hsn.ext hx15;have hx5:=hx1.trans hx15
   obtain⟨a8,d8,hto,hk8⟩:∃ (a8:Addr) (d8:SnH),(0<=d8.2.2.1/\d8.2.2.1<=1099511627776)/\(0<=K->B=some a8/\(∃ T0,T=T0 ++ [d8])/\∀ {w':World},Ext w5 w'->Xm w' (a8.add (K.toNat*4)) (seC d8)):=by
    rcases List.eq_nil_or_concat T with h0 | ⟨T0,d8,hTe⟩
    . exact⟨⟨0,0,none⟩,(⟨#[]⟩,0,0,(none,0,0)),by simp,fun h=>by rw[hK,h0] at h;simp at h⟩
    . have hTe:T=T0 ++ [d8]:=by simpa using hTe
      have hKn:K.toNat=T0.length:=by rw[hK,hTe];simp
      have hget:T[T0.length]? = some d8:=by rw[hTe,List.getElem?_append_right (Nat.le_refl _)];simp
      obtain⟨a8,h1,h2⟩:=(hown5.sl Qda) T0.length d8 hget
      obtain⟨Q0,q8,hQe⟩:∃ Q0 q8,Q=Q0 ++ [q8]:=by
       rcases List.eq_nil_or_concat Q with h0 | ⟨Q0,q8,h0⟩
       . rw[h0,hTe] at hTQ;simp at hTQ
       . exact⟨Q0,q8,by simpa using h0⟩
      rw[hTe,hQe] at hsn;have hr:=hsn.unsnoc.2;refine⟨a8,d8,?_,fun _=>⟨h1,⟨T0,hTe⟩,fun hx=>by rw[hKn];exact hx.cells h2⟩⟩;rw[hr.2.2.1]
      exact(hbs q8 (by rw[hQe];simp)).1
   have hK0:∀ {z:Int},decide ((0:Int)<=z)=true->0<=z:=fun h=>by simpa using h
   have hK1:∀ {z:Int} {b:Bool},(decide ((0:Int)<=z)&&b)=true->0<=z:=fun h=>by
    rw[Bool.and_eq_true] at h
    simpa using h.1
   refine⟨a8,fun hg=>⟨(hk8 (hK0 hg)).1,hK0 hg,by omega⟩,Hh ?_⟩;refine⟨.string d8.1,fun hg=>cells_at ((hk8 (hK0 hg)).2.2 (Ext.refl _)) (k:=0) rfl,Hh ?_⟩;refine⟨.string x.1,fun _=>h4.one rfl,Hh ?_⟩;refine⟨.int .i64 x.2.1,fun _=>h4.one rfl,Hh ?_⟩;refine⟨a8,fun hg=>⟨(hk8 (hK1 hg)).1,hK1 hg,by omega⟩,Hh ?_⟩;refine⟨.int .i64 d8.2.2.1,fun hg=>cells_at ((hk8 (hK1 hg)).2.2 (Ext.refl _)) (k:=2) rfl,Hh ?_⟩;refine⟨x.2.1-d8.2.2.1,fun _=>wrap_eq rfl ⟨by omega,by omega⟩,Hh ?_⟩;refine⟨.int .i64 gap,fun _=>hp5.one rfl,Hh ?_⟩;constructor
   . intro hq
     have hq:((decide (0<=K)&&decide (d8.1=x.1))&&decide (x.2.1-d8.2.2.1<=gap))=true:=hq;simp only[Bool.and_eq_true,decide_eq_true_eq] at hq;obtain⟨⟨hq1,hq2⟩,hq3⟩:=hq;obtain⟨hB,⟨T0,hTe⟩,hcl⟩:=hk8 hq1;subst hB
     obtain⟨Q0,q8,hQe⟩:∃ Q0 q8,Q=Q0 ++ [q8]:=by
      rcases List.eq_nil_or_concat Q with h0 | ⟨Q0,q8,h0⟩
      . rw[h0,hTe] at hTQ;simp at hTQ
      . exact⟨Q0,q8,by simpa using h0⟩
     have hKn:K.toNat=T0.length:=by rw[hK,hTe];simp
     have hKl:K.toNat<T.length:=by rw[hKn,hTe];simp
     have hd8c:=hcp d8 (by rw[hTe];simp);have hib:=(hbs q8 (by rw[hQe];simp)).2;rw[List.length_take] at hib;have hsn6:=hsn5;rw[hTe,hQe] at hsn6;have hr8:=hsn6.unsnoc.2;obtain⟨r1,r2,r3,r4,r5,r6,r7⟩:=id hr8
     conv=>whnf
     refine Dr .ext [0,1,2,3,4,5,6,7,8,9,10,11,12,13,14,15,16,17,18,19,20] [21] (Hh ?_);have hxd:Ext w5 w5.drew:=(Ext.refl w5).drew;replace h4:=h4.ext hxd;have hown6:=hown5.ext hxd;generalize w5.drew=w6 at hxd h4 hown6 ⊢;have hc6:=hcl hxd;refine⟨.string x.1,h4.one rfl,Hh ?_⟩;refine⟨a8,Ix,Hh ?_⟩;refine⟨.int .i64 d8.2.1,cells_at hc6 (k:=1) rfl,Hh ?_⟩;refine⟨.int .i64 x.2.1,h4.one rfl,Hh ?_⟩;refine⟨a8,Ix,Hh ?_⟩;refine⟨.slice d8.2.2.2.1 d8.2.2.2.2.1 d8.2.2.2.2.2,cells_at hc6 (k:=3) rfl,Hh ?_⟩;refine⟨.string x.2.2,h4.one rfl,Hh ?_⟩;rw[r4];refine(Q2c q8.items x.2.2 d8.2.2.2.1 d8.2.2.2.2.2 w6 (r5.ext hxd) (by omega) (by omega)).mono ?_;rintro _ w7 ⟨A7,c7,rfl,hc7,hs7,hA7,hx7⟩;refine⟨hx7,Hh ?_⟩;refine⟨a8,Ix,Hh ?_⟩;have hown7:=hown6.ext hx7;have hsn7:=((hsn6.ext hxd).ext hx7).unsnoc;have ha8:=(hown5.block (a:=a8) rfl).2;have hs56:=hxd.size;have hs67:=hx7.size;refine Qoe Qa (e:=ty208) rfl rfl Qda Qky (k:=K.toNat) hKl (x.1,d8.2.1,x.2.1,(A7,(Qez bLt q8.items x.2.2).length,c7)) rfl hown7 fun w8 hown8 ho8 => ?_
     have hset:T.set K.toNat (x.1,d8.2.1,x.2.1,(A7,(Qez bLt q8.items x.2.2).length,c7))=T0 ++ [(x.1,d8.2.1,x.2.1,(A7,(Qez bLt q8.items x.2.2).length,c7))]:=by
      rw[hKn,hTe];simp
     have hlen9:T.length=(T0 ++ [((x.1,d8.2.1,x.2.1,(A7,(Qez bLt q8.items x.2.2).length,c7)):SnH)]).length:=by rw[hTe];simp
     have hnr:∀ k,¬ rowB (some a8) k->k≠a8.block:=fun k hk e=>hk ⟨a8,rfl,e⟩
     have hsn8:Qat w8 w.heap.size (rowB (some a8)) (T0 ++ [((x.1,d8.2.1,x.2.1,(A7,(Qez bLt q8.items x.2.2).length,c7)):SnH)]) (allL gap (L.take (i+1))):=by
      rw[htk,hQe,Quz ⟨by rw[<- r1];exact hq2,by rw[<- r3];exact hq3⟩];refine(hsn7.1.keep (fun k _ hk hr=>⟨ho8.block k (hnr k hr),hr⟩) (by rw[ho8.size];exact Nat.le_refl _)).snoc ?_
      have hblk:∀ a,A7=some a->w.heap.size<=a.block/\a.block<w7.heap.size/\¬ rowB (some a8) a.block/\a.spot=none:=fun a ha=>by
       rcases hA7 with h | h
       . have h6:=r6 a (by rw[<- h];exact ha)
         exact⟨h6.1,by omega,h6.2.2,(r7 a (by rw[<- h];exact ha)).1⟩
       . obtain⟨z1,z2,z3⟩:=h a ha
         refine⟨by have:=hx5.size;omega,z2,?_,z3⟩;rintro ⟨y,hy,he⟩;have hy:a8=y:=by simpa using hy
         subst hy;omega
      refine⟨rfl,r2,rfl,rfl,Qct hs7 fun a ha=>ho8.block _ (hnr _ (hblk a ha).2.2.1),fun a ha => ?_,fun a ha=>⟨(hblk a ha).2.2.2,hc7⟩⟩;obtain⟨z1,z2,z3,_⟩:=hblk a ha
      exact⟨z1,by rw[ho8.size];exact z2,z3⟩
     have hcp8:∀ e∈T0 ++ [((x.1,d8.2.1,x.2.1,(A7,(Qez bLt q8.items x.2.2).length,c7)):SnH)],e.2.2.2.2.1<=e.2.2.2.2.2:=fun e he=>by
      rcases List.mem_append.1 he with he | he
      . exact hcp e (by rw[hTe];simp[he])
      . rw[List.mem_singleton] at he
        rw[he]
        exact hc7
     rw[hset] at hown8;generalize T0 ++ [((x.1,d8.2.1,x.2.1,(A7,(Qez bLt q8.items x.2.2).length,c7)):SnH)]=T9 at hown8 hsn8 hcp8 hlen9;have hx8:Ext w w8:=ho8.ext (hx5.trans (hxd.trans hx7)) (hown5.block (a:=a8) rfl).1;refine Gg ?_;refine⟨_,wrap_succ (by omega),Gg ?_⟩
     exact⟨(i+1,some a8,d,T9),by simp only;omega,⟨by simp only;omega,hx8,hown8,hsn8,hcp8⟩,⟨rfl,rfl,by show some (Value.slice (some a8) T.length d)=some (Value.slice (some a8) T9.length d);rw[hlen9],rfl,trivial⟩⟩
   . intro hq
     have hq:((decide (0<=K)&&decide (d8.1=x.1))&&decide (x.2.1-d8.2.2.1<=gap))=false:=hq
     have hnew:Qam gap Q x=Q ++ [⟨x.1,x.2.1,x.2.1,[x.2.2]⟩]:=Qz4 fun g hg hh=>by
      obtain⟨Q0,hQe⟩:=Qps hg;have hT1:T.length=Q0.length+1:=by rw[hTQ,hQe];simp
      obtain⟨_,⟨T0,hTe⟩,_⟩:=hk8 (by omega);have hr:=hsn5;rw[hTe,hQe] at hr;have hr:=hr.unsnoc.2;have h1:decide (0<=K)=true:=by simp;omega
      have h2:decide (d8.1=x.1)=true:=by rw[hr.1];simpa using hh.1
      have h3:decide (x.2.1-d8.2.2.1<=gap)=true:=by rw[hr.2.2.1];simpa using hh.2
      rw[h1,h2,h3] at hq
      cases hq
     rw[hnew] at htk;refine Gg ?_;refine⟨.string x.1,h4.one rfl,Gg ?_⟩;refine⟨.int .i64 x.2.1,h4.one rfl,Gg ?_⟩;refine⟨.int .i64 x.2.1,h4.one rfl,Gg ?_⟩;refine⟨.string x.2.2,h4.one rfl,Gg ?_⟩;intro b6 w6 hn6;refine Gg ?_;intro b7 w7 hn7;refine Gg ?_;have hx57:=hn6.ext.trans hn7.ext;refine Qi Q9m (l:=T) (news := [(x.1,x.2.1,x.2.1,(some ⟨b6,0,none⟩,1,1))]) rfl (hown5.ext hx57) rfl (Q9m.new1 (x:=(x.1,x.2.1,x.2.1,(some ⟨b6,0,none⟩,1,1))) hn7) (by simp;omega) ((hx5.trans hx57).size) fun A8 c8 w8 hown8 hg8 hA8 => ?_
     have hx8:=Qh (hx5.trans hx57) hg8 (Qs hown5);have s6:=hn6.ext.size;have s7:=hn7.ext.size;have hb6:b6=w5.heap.size:=hn6.block;have hb6l:b6<w7.heap.size:=by have:=hn6.At.lt;omega
     have hnb6:¬ rowB B b6:=by
      rintro ⟨y,hy,he⟩;have:=(hown5.block hy).2;omega
     have hsn8:Qat w8 w.heap.size (rowB A8) (T ++ [((x.1,x.2.1,x.2.1,(some ⟨b6,0,none⟩,1,1)):SnH)]) (allL gap (L.take (i+1))):=by
      rw[htk];refine((hsn5.ext hx57).keep (fun k _ hk hr=>Qb8 hg8 hA8 k hk hr) hg8.size).snoc ?_;refine⟨rfl,rfl,rfl,rfl,Qct ((Xa.new1 (x:=x.2.2) hn6).ext hn7.ext) fun a ha => ?_,fun a ha => ?_,fun a ha => ?_⟩
      . obtain rfl:(⟨b6,0,none⟩:Addr)=a:=by simpa using ha
        exact(Qb8 hg8 hA8 b6 hb6l hnb6).1
      . obtain rfl:(⟨b6,0,none⟩:Addr)=a:=by simpa using ha
        exact⟨by show w.heap.size<=b6;rw[hb6];exact hx5.size,Nat.lt_of_lt_of_le hb6l hg8.size,(Qb8 hg8 hA8 b6 hb6l hnb6).2⟩
      . obtain rfl:(⟨b6,0,none⟩:Addr)=a:=by simpa using ha
        exact⟨rfl,Nat.le_refl _⟩
     have hcp8:∀ e∈T ++ [((x.1,x.2.1,x.2.1,(some ⟨b6,0,none⟩,1,1)):SnH)],e.2.2.2.2.1<=e.2.2.2.2.2:=fun e he=>by
      rcases List.mem_append.1 he with he | he
      . exact hcp e he
      . rw[List.mem_singleton] at he
        rw[he]
        exact Nat.le_refl _
     generalize T ++ [((x.1,x.2.1,x.2.1,(some ⟨b6,0,none⟩,1,1)):SnH)]=T9 at hown8 hsn8 hcp8 ⊢;refine Gg ?_;refine⟨_,wrap_succ (by omega),Gg ?_⟩
     exact⟨(i+1,A8,c8,T9),by simp only;omega,⟨by simp only;omega,hx8,hown8,hsn8,hcp8⟩,Rr⟩
 . intro hge
   have hge:L.length<=i:=by simpa using hge
   rw[List.take_of_length_le hge] at hsn
   conv=>whnf
   exact⟨B,d,T,rfl,hown.sl Qda,hsn,hx1⟩
set_option maxHeartbeats 2000000 in
theorem Qo2 (l:List Ev) (A:Option Addr) (c:Nat) (gap:Int) (hgap:0<=gap/\gap<=1099511627776) (w:World) (hs:SlE w A l) (hl:l.length<1000) (hm:∀ e∈l,Xp e=true) :
 Cal Tryz.prog 62 [.slice A l.length c,.int .i64 gap] w fun r w'=>∃ A' c' T,r = .slice A' T.length c'/\Sl seC 4 w' A' T/\Qat w' w.heap.size (rowB A') T (Qhf gap (Qh5 (l.filter wpB)))/\Ext w w':=by
 have hgid:Qvl gap=gap:=by unfold Qvl;omega
 refine Fi Tryz.func62 rfl _ rfl rfl (Hh ?_);refine(Q2d gap w).mono ?_;rintro _ w1 ⟨p,rfl,hpn,h0,hx1⟩;rw[hgid] at h0
 conv=>whnf
 refine Qd Qa (fun(i:Nat) w'=>i<=l.length/\S12 w' p gap (Qcn ahB (((l.take i).filter wpB).map adE))/\Ext w w')
  (fun i => [(0,.slice A l.length c),(5,.pointer (some ⟨p,0,none⟩)),(6,.int .i64 (i:Nat))]) (fun i=>l.length-i) 0 ⟨Nat.zero_le _,h0,hx1⟩ Rr ?_
 clear h0 hx1;rintro i w2 ⟨hi,hC,hx2⟩;have hlen:=Qfu (lt:=ahB) (((l.take i).filter wpB).map adE);have hle2:=List.length_filter_le wpB (l.take i);rw[List.length_map] at hlen;rw[List.length_take] at hle2
 conv=>whnf
 constructor
 . intro hlt
   have hlt:i<l.length:=by simpa using hlt
   obtain⟨a,hA,hc⟩:=(hs.ext hx2).get hlt;subst hA
   have htk:Qcn ahB (((l.take (i+1)).filter wpB).map adE)=if wpB l[i]=true then Qez ahB (Qcn ahB (((l.take i).filter wpB).map adE)) (adE l[i]) else Qcn ahB (((l.take i).filter wpB).map adE):=by
    rw[List.take_succ_eq_append_getElem hlt,List.filter_append,List.map_append]
    cases h:wpB l[i] with
    | true=>simp only[List.filter_cons,h,if_true,List.filter_nil,List.map_cons,List.map_nil];rw[Qf9]
    | false=>simp[List.filter_cons,h]
   have hml:=hm l[i] (List.getElem_mem hlt);generalize l[i]=e at hc htk hml;generalize Qcn ahB (((l.take i).filter wpB).map adE)=L at hC htk hlen;refine Gg ?_;refine⟨a,Ix,Gg ?_⟩;refine⟨evC e,⟨rfl,hc⟩,Gg ?_⟩;refine(Qhb e w2).mono ?_;rintro _ w3 ⟨rfl,hx3⟩;have hx23:=hx2.trans hx3;replace hC:=hC.ext hx3;have hce:=hx3.cells hc;refine Gg ?_;constructor
   . intro hq
     have hq:0<Qw e:=by simpa using hq
     have hwp:wpB e=true:=by simpa [wpB] using hq
     rw[if_pos hwp] at htk;have hno:=Qcv hml hq;have hn1:=Xu hno.1;have hn2:=Xu hno.2;have hat:=Qif hml;refine Gg ?_;refine Dr .same [0,1,2,3,4,5,6,7,8,9,10,11,12,13,14,15,16] [17] (Hh ?_);have hxd:=hx23.drew;replace hC:=hC.ext (Ext.refl w3).drew;replace hce:Xm w3.drew (a.add (i*8)) (evC e):=hce;generalize w3.drew=w4 at hxd hC hce ⊢;refine⟨a,Ix,Hh ?_⟩;refine⟨.string e.person,cells_at hce (k:=4) rfl,Hh ?_⟩;refine⟨a,Ix,Hh ?_⟩;refine⟨.int .i64 e.at_,cells_at hce (k:=2) rfl,Hh ?_⟩;refine⟨a,Ix,Hh ?_⟩;refine⟨.string e.item,cells_at hce (k:=5) rfl,Hh ?_⟩;refine(Q2a w4 p gap L hC (adE e) ⟨⟨by show 1<=e.person.size;omega,by show e.person.size<=24;omega⟩,hat,⟨by show 1<=e.item.size;omega,by show e.item.size<=24;omega⟩⟩ (by omega)).mono ?_;rintro _ w5 ⟨rfl,hC5,hM5⟩;have hx5:=Qwh (T:=fun k=>k=p) hxd (fun k hk=>by rw[hk];exact hpn) hM5;refine Gg ?_;refine⟨_,wrap_succ (by omega),Gg ?_⟩
     exact⟨i+1,by omega,⟨by omega,by rw[htk];exact hC5,hx5⟩,Rr⟩
   . intro hq
     have hq:¬ 0<Qw e:=by simpa using hq
     have hwp:wpB e=false:=by simpa [wpB] using hq
     rw[hwp] at htk;simp only[Bool.false_eq_true,if_false] at htk;refine Gg ?_;refine⟨_,wrap_succ (by omega),Gg ?_⟩
     exact⟨i+1,by omega,⟨by omega,by rw[htk];exact hC,hx23⟩,Rr⟩
 intro hge;have hge:l.length<=i:=by simpa using hge
 rw[List.take_of_length_le hge] at hC
 have hok:∀ x∈Qcn ahB ((l.filter wpB).map adE),Q63 x:=fun x hx=>by
  rw[Qkh,List.mem_map] at hx;obtain⟨e,he,rfl⟩:=hx;obtain⟨he1,he2⟩:=List.mem_filter.1 he;have hml:=hm e he1;have hq:0<Qw e:=by simpa [wpB] using he2
  have hno:=Qcv hml hq;have hn1:=Xu hno.1;have hn2:=Xu hno.2
  exact⟨⟨by show 1<=e.person.size;omega,by show e.person.size<=24;omega⟩,Qif hml,⟨by show 1<=e.item.size;omega,by show e.item.size<=24;omega⟩⟩
 have hl3:=List.length_filter_le wpB l;have hlen:=Qfu (lt:=ahB) ((l.filter wpB).map adE);rw[List.length_map] at hlen;rw[<- Qk1 gap hgap.1];generalize Qcn ahB ((l.filter wpB).map adE)=L at hC hok hlen ⊢;refine Gg ?_;refine(Q2b w2 p gap L hC hgap hok (by omega)).mono ?_;rintro _ w3 ⟨A3,c3,T,rfl,hs3,hsn3,hx3⟩;have hTl:=hsn3.len;have hTb:=(Qpa gap L hok).1;generalize allL gap L=Q at hsn3 hTl hTb ⊢;refine Gg ?_;intro b4 w4 hn4;refine Gg ?_;have hx24:=hx3.trans hn4.ext;have o4:=Q14.made (base:=w3.heap.size) hn4 (Nat.le_refl _)
 refine Qd Qa (fun(q:Nat×Option Addr×Nat×List SnH) w'=>q.1<=T.length/\Ext w3 w'/\q.2.2.2=T.take q.1/\Own seC 4 93 w3.heap.size w' q.2.1 q.2.2.1 q.2.2.2)
  (fun | (k,B,d,U) => [(7,.slice A3 T.length c3),(8,.slice B U.length d),(9,.int .i64 (k:Nat))]) (fun q=>T.length-q.1) (0,some ⟨b4,0,none⟩,0,[]) ⟨Nat.zero_le _,hn4.ext,rfl,o4⟩ Rr ?_
 rintro ⟨k,B,d,U⟩ w5 ⟨hk,hx5,hU,hown⟩;simp only at hk hU hown;have hUl:U.length<=k:=by rw[hU,List.length_take];omega
 conv=>whnf
 constructor
 . intro hlt
   have hlt:k<T.length:=by simpa using hlt
   obtain⟨a6,hA6,hc6⟩:=(hs3.ext hx5).get hlt;subst hA6;have htk:=Xl T k hlt;generalize T[k]=x at hc6 htk;refine Gg ?_;refine Dr .ext [0,1,2,3,4,5,6,7,8,9,10,11,12,13,14,15,16,17,18,19,20,21,22] [23,24] (Hh ?_);have hxd:=(Ext.refl w5).drew;replace hx5:=hx5.trans hxd;replace hown:=hown.ext hxd;replace hc6:=hxd.cells hc6;generalize w5.drew=w6 at hx5 hown hc6 ⊢;refine⟨a6,Ix,Hh ?_⟩;refine⟨.string x.1,cells_at hc6 (k:=0) rfl,Hh ?_⟩;refine⟨a6,Ix,Hh ?_⟩;refine⟨.int .i64 x.2.1,cells_at hc6 (k:=1) rfl,Hh ?_⟩;refine⟨a6,Ix,Hh ?_⟩;refine⟨.int .i64 x.2.2.1,cells_at hc6 (k:=2) rfl,Hh ?_⟩;refine⟨a6,Ix,Hh ?_⟩;refine⟨.slice x.2.2.2.1 x.2.2.2.2.1 x.2.2.2.2.2,cells_at hc6 (k:=3) rfl,Hh ?_⟩;intro b7 w7 hn7;refine⟨hn7.ext,Hh ?_⟩;refine Qi Q14 (l:=U) (news := [x]) rfl (hown.ext hn7.ext) rfl (Q14.new1 (x:=x) hn7) (by simp;omega) ((hx5.trans hn7.ext).size) fun A8 c8 w8 hown8 hg8 hA8 => ?_
   have hx8:=Qh (hx5.trans hn7.ext) hg8 (Qs hown);have hU8:U ++ [x]=T.take (k+1):=by rw[htk,hU]
   generalize U ++ [x]=U8 at hown8 hU8 ⊢;refine Gg ?_;refine⟨_,wrap_succ (by omega),Gg ?_⟩
   exact⟨(k+1,A8,c8,U8),by simp only;omega,⟨by simp only;omega,hx8,hU8,hown8⟩,Rr⟩
 . intro hge
   have hge:T.length<=k:=by simpa using hge
   rw[List.take_of_length_le hge] at hU;subst hU;have s2:=hx2.size
   conv=>whnf
   refine⟨B,d,U,rfl,hown.sl Qda,⟨hTl,fun i d' q hd hq => ?_⟩,(hx2.trans hx3).trans hx5⟩;obtain⟨q1,q2,q3,q4,q5,q6,q7⟩:=hsn3.at_ i d' q hd hq;refine⟨q1,q2,q3,q4,q5.ext hx5,fun a ha => ?_,q7⟩;obtain⟨z1,z2,z3⟩:=q6 a ha;refine⟨by omega,by have:=hx5.size;omega,?_⟩;rintro ⟨y,hy,he⟩;have:=(hown.block hy).1;omega
set_option maxHeartbeats 1000000 in
theorem Qrw (T:List SnH) (Q:List Sn) (A:Option Addr) (c:Nat) (a b:ByteArray) (w:World) (n0:Nat) (hs:Sl seC 4 w A T) (hq:Qat w n0 (rowB A) T Q) (hl:T.length<1000000) (hil:∀ q∈Q,q.items.length<1000000) :
 Cal Tryz.prog 64 [.slice A T.length c,.string a,.string b] w fun r w'=>r = .int .i64 (Qa9 Q a b:Nat)/\w'=w:=by
 have hlen:=hq.len;refine Fi Tryz.func64 rfl _ rfl rfl (Hh ?_)
 refine Qd Qa (fun(q:Nat×Nat) w'=>q.1<=T.length/\q.2=Qa9 (Q.take q.1) a b/\w'=w)
  (fun | (i,n) => [(0,.slice A T.length c),(1,.string a),(2,.string b),(7,.int .i64 (n:Nat)),(8,.int .i64 (i:Nat))]) (fun q=>T.length-q.1) (0,0) ⟨Nat.zero_le _,rfl,rfl⟩ Rr ?_
 rintro ⟨i,n⟩ w1 ⟨hi,hn,hw1⟩;simp only at hi hn;subst hw1;have hnb:=Qnu (Q.take i) a b;rw[<- hn,List.length_take] at hnb
 conv=>whnf
 constructor
 . intro hlt
   have hlt:i<T.length:=by simpa using hlt
   obtain⟨a2,hA,hc⟩:=hs.get hlt;subst hA;have hlq:i<Q.length:=by omega
   have hsn:=hq.at_ i T[i] Q[i] (List.getElem?_eq_getElem hlt) (List.getElem?_eq_getElem hlq)
   have htk:Qa9 (Q.take (i+1)) a b=n+if hasB a Q[i]&&hasB b Q[i] then 1 else 0:=by
    rw[hn,List.take_succ_eq_append_getElem hlq];unfold Qa9;rw[List.filter_append,List.length_append]
    congr 1
    cases hh:hasB a Q[i]&&hasB b Q[i] <;> simp[hh]
   have hql:=hil Q[i] (List.getElem_mem hlq);generalize Q[i]=q at hsn htk hql;generalize T[i]=d at hc hsn;obtain⟨_,_,_,h4,h5,_,_⟩:=hsn;obtain⟨d1,d2,d3,dA,dn,dc⟩:=d;simp only at h4 h5;subst h4
   have hin:∀ x,inT q.items x=hasB x q:=fun x=>by
    rw[Bool.eq_iff_iff,Qf8];unfold hasB
    simp
   refine Gg ?_;refine⟨a2,Ix,Gg ?_⟩;refine⟨.slice dA q.items.length dc,cells_at hc (k:=3) rfl,Gg ?_⟩;refine(Qry q.items a dA dc w1 h5 (by omega)).mono ?_;rintro _ w2 ⟨rfl,hw2⟩;subst hw2;refine Gg ?_;refine⟨a2,fun _=>Ix,Gg ?_⟩;refine⟨.slice dA q.items.length dc,fun _=>cells_at hc (k:=3) rfl,Gg ?_⟩;refine⟨Unit,fun _ => .bool (inT q.items b),fun _ w'=>w'=w2,(),fun hg=>(Qry q.items b dA dc w2 h5 (by omega)).mono fun r w' h=>⟨(),h.1,h.2⟩,?_⟩;intro _ w3 h3
   obtain rfl:w3=w2:=by
    rcases h3 with⟨_,h⟩ | ⟨_,h⟩
    . exact h
    . exact h
   clear h3;refine Gg ?_;constructor
   . intro hq
     have hq:(hasB a q&&hasB b q)=true:=by
      rw[<- hin,<- hin]
      simpa using hq
     rw[hq,if_pos rfl] at htk;refine Gg ?_;refine⟨_,wrap_succ (by omega),Gg ?_⟩;refine⟨_,wrap_succ (by omega),Gg ?_⟩
     exact⟨(i+1,n+1),by simp only;omega,⟨by simp only;omega,htk.symm,rfl⟩,Rr⟩
   . intro hq
     have hq:(hasB a q&&hasB b q)=false:=by
      rw[<- hin,<- hin]
      simpa using hq
     rw[hq] at htk;simp only[Bool.false_eq_true,if_false,Nat.add_zero] at htk;refine Gg ?_;refine⟨_,wrap_succ (by omega),Gg ?_⟩
     exact⟨(i+1,n),by simp only;omega,⟨by simp only;omega,htk.symm,rfl⟩,Rr⟩
 . intro hge
   have hge:T.length<=i:=by simpa using hge
   rw[List.take_of_length_le (by omega)] at hn;rw[<- hn]
   conv=>whnf
   exact⟨rfl,rfl⟩
end Go.Proofs.YteabekcdcphjpaaGreatDoor
