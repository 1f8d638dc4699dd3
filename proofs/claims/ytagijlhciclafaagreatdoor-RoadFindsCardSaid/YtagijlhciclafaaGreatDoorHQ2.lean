import Derived.Test.YtagijlhciclafaaGreatDoorHQ1
/- The second writing of the roads: Put. -/
set_option linter.unusedVariables false
set_option linter.unusedSimpArgs false
namespace Go.Proofs.YtagijlhciclafaaGreatDoor
open Go.Se Go.RowKit Go.Sort
set_option maxHeartbeats 2000000 in
theorem Qci (l:List Ct) (x:Ct) (A:Option Addr) (c:Nat) (w:World) (hs:Sl tgC 2 w A l) (hsr:Srt Qad l) (hl:l.length<1000000) (hcap:l.length≤c) :
 Cal Tryz.prog 43 [.slice A l.length c,.agg (tgC x).toArray] w fun r w'=>∃ A' c',r = .slice A' (Qas l x).length c'∧(Qas l x).length≤c'∧Sl tgC 2 w' A' (Qas l x)∧(A'=A∨∀ a,A'=some a→w.heap.size≤a.block)∧Ext w w':=by
 refine Fi Tryz.func43 rfl _ rfl rfl (Hh ?_);intro b1 w1 hn1;have hb1:At w1 b1 101 (tgC x):=hn1.At;have hx1:=hn1.ext;replace hs:=hs.ext hx1;clear hn1
 conv=>whnf
 refine loop_rule Tt_ok (fun(k:Nat) w'=>k≤l.length∧Ext w1 w'∧x.1∉(l.take k).map (·.1))
  (fun k => [(0,.slice A l.length c),(3,.pointer (some ⟨b1,0,none⟩)),(5,.int .i64 (k:Nat))]) (fun k=>l.length-k) 0 ⟨Nat.zero_le _,Ext.refl _,by simp⟩ Rr ?_
 rintro k wa ⟨hk,hxa,hno⟩
 conv=>whnf
 constructor
 · intro hlt
   have hlt:k<l.length:=by simpa using hlt
   conv=>whnf
   refine Dr .same [0,1,2,3,4,5,6,7] [] (Hh ?_);replace hxa:=hxa.drew;generalize wa.drew=wb at hxa ⊢;obtain⟨ax,hAx,hcx⟩:=(hs.ext hxa).get hlt;have hb:=hb1.ext hxa;refine⟨ax,⟨hAx,by omega,by omega⟩,Hh ?_⟩;refine⟨.string l[k].1,cells_at hcx (k:=0) rfl,Hh ?_⟩;refine⟨_,hb.one rfl,Hh ?_⟩;constructor
   · intro hq
     have hq:l[k].1=x.1:=by simpa using hq
     rw[Qpt (List.mem_map.2 ⟨l[k],List.getElem_mem hlt,hq⟩)]
     conv=>whnf
     exact⟨A,c,rfl,hcap,hs.ext hxa,.inl rfl,hx1.trans hxa⟩
   · intro hq
     have hq:¬ l[k].1=x.1:=by simpa using hq
     conv=>whnf
     refine⟨_,wrap_succ (by omega),Hh ?_⟩;refine⟨k+1,by omega,⟨by omega,hxa,fun hm => ?_⟩,Rr⟩;rw[List.take_succ_eq_append_getElem hlt,List.map_append,List.mem_append] at hm;rcases hm with hm | hm
     · exact hno hm
     · have hm:x.1=l[k].1:=by simpa using hm
       exact hq hm.symm
 intro hge;have hge:l.length≤k:=by simpa using hge
 rw[List.take_of_length_le hge] at hno;have hx0a:=hx1.trans hxa;have hs0:=hs.ext hxa;have hb0:=hb1.ext hxa;clear hs hb1 hge hk hxa hx1
 conv=>whnf
 refine loop_rule Tt_ok (fun(k:Nat) w'=>k≤l.length∧Ext wa w'∧∀ y∈l.take k,Qad y x=true)
  (fun k => [(0,.slice A l.length c),(3,.pointer (some ⟨b1,0,none⟩)),(6,.int .i64 (k:Nat))]) (fun k=>l.length-k) 0 ⟨Nat.zero_le _,Ext.refl _,by simp⟩ Rr ?_
 rintro m wb ⟨hm,hxb,hall⟩
 conv=>whnf
 refine Dr .same [0,1,2,3,4,5,6,7,8,9,10,11,12,13,14,15,16,17,18,19,20,21,22,23,24,25,26,27,28,29,30,31,32,33] [] (Hh ?_);replace hxb:=hxb.drew;generalize wb.drew=wc at hxb ⊢;have hs:=hs0.ext hxb;have hb:=hb0.ext hxb;have hx0c:=hx0a.trans hxb;clear hs0 hb0 hx0a
 obtain⟨a1,x1,hk1⟩:∃ a1 x1,m<l.length→A=some a1∧l[m]? = some x1∧CellsAt wc (a1.add (m*2)) (tgC x1):=by
  by_cases hh:m<l.length
  · obtain⟨a1,h1,h2⟩:=hs.get hh
    exact⟨a1,l[m],fun _=>⟨h1,List.getElem?_eq_getElem hh,h2⟩⟩
  · exact⟨⟨0,0,none⟩,x,fun h=>absurd h hh⟩
 have hd:∀ {p:Nat},decide ((p:Int)<(l.length:Int))=true→p<l.length:=fun h=>by simpa using h
 refine⟨a1,fun hg=>⟨(hk1 (hd hg)).1,by omega,by have:=hd hg;omega⟩,Hh ?_⟩;refine⟨.int .i64 x1.2,fun hg=>cells_at (hk1 (hd hg)).2.2 (k:=1) rfl,Hh ?_⟩;refine⟨.int .i64 x.2,fun _=>hb.one rfl,Hh ?_⟩;refine⟨a1,fun _ hg=>⟨(hk1 (hd hg)).1,by omega,by have:=hd hg;omega⟩,Hh ?_⟩;refine⟨.int .i64 x1.2,fun _ hg=>cells_at (hk1 (hd hg)).2.2 (k:=1) rfl,Hh ?_⟩;refine⟨.int .i64 x.2,fun _ _=>hb.one rfl,Hh ?_⟩;refine⟨a1,fun _ _ hg=>⟨(hk1 (hd hg)).1,by omega,by have:=hd hg;omega⟩,Hh ?_⟩;refine⟨.string x1.1,fun _ _ hg=>cells_at (hk1 (hd hg)).2.2 (k:=0) rfl,Hh ?_⟩;refine⟨.string x.1,fun _ _ _=>hb.one rfl,Hh ?_⟩
 have hcq:(decide (x.2<x1.2)||(decide (x1.2=x.2)&&bLt x1.1 x.1))=Qad x1 x:=by
  rw[Bool.eq_iff_iff,Qfn]
  simp
 refine⟨fun hc => ?_,fun hc => ?_⟩
 · have hc:(decide ((m:Int)<(l.length:Int))&&(decide (x.2<x1.2)||(decide (x1.2=x.2)&&bLt x1.1 x.1)))=true:=hc
   rw[hcq,Bool.and_eq_true] at hc;have hlt:=hd hc.1;have hxe:l[m]=x1:=by have:=(hk1 hlt).2.1;rw[List.getElem?_eq_getElem hlt] at this;simpa using this
   conv=>whnf
   refine⟨_,wrap_succ (by omega),Hh ?_⟩;refine⟨m+1,by omega,⟨by omega,hxb,fun y hy => ?_⟩,Rr⟩;rw[List.take_succ_eq_append_getElem hlt,List.mem_append,List.mem_singleton] at hy;rcases hy with hy | rfl
   · exact hall y hy
   · rw[hxe];exact hc.2
 · have hc:(decide ((m:Int)<(l.length:Int))&&(decide (x.2<x1.2)||(decide (x1.2=x.2)&&bLt x1.1 x.1)))=false:=hc
   rw[hcq] at hc
   have hend:∀ h:m<l.length,Qad l[m] x=false:=fun h=>by
    have hxe:l[m]=x1:=by have:=(hk1 h).2.1;rw[List.getElem?_eq_getElem h] at this;simpa using this
    rw[decide_eq_true (show (m:Int)<(l.length:Int) by omega),Bool.true_and] at hc;rw[hxe]
    exact hc
   rw[Qod hno hsr hall hend];clear hk1 hc hall hno hsr hcq hend;have hsk:=sl_drop_if (sl_take hs m) 0 c (by rw[List.length_take];omega);have hsd:=sl_drop_if hs m c hcap;rw[List.drop_zero] at hsk;have hkm:m=(l.take m).length:=by rw[List.length_take];omega
   have hdl:l.length-m=(l.drop m).length:=by rw[List.length_drop]
   have htot:(l.take m).length+(l.drop m).length=l.length:=by rw[List.length_take,List.length_drop];omega
   generalize l.take m=T at hsk hkm htot ⊢;generalize l.drop m=D at hsd hdl htot ⊢
   conv=>whnf
   refine draw_plan (.mods (fun k=>wc.heap.size≤k)) (Pl.seq [1,2,3,5,8,9,10] (Pl.two 0 (Pl.seq [] (Pl.two 4 (Pl.seq [6,7,11,12] Pl.done) 6 (Pl.seq [4,7,11,12] Pl.done))) 6 (Pl.seq [0,4,7,11,12] Pl.done))) (by intro h;cases h) Tt_ok mixed (by kernel_rfl) (Hh ?_);have hx3:=(Ext.refl wc).drew;have hlb:¬ (wc.heap.size≤b1):=by have:=hb.lt;omega
   have hb3:=hb.ext hx3;generalize wc.drew=w3 at hx3 hb3 ⊢;refine⟨⟨by omega,by omega,by omega,by omega⟩,Hh ?_⟩;refine⟨tgC x,⟨rfl,hb3.all,hlb⟩,Hh ?_⟩;refine⟨⟨by omega,by omega,by omega,by omega⟩,Hh ?_⟩;have hE:=hx3;refine⟨?_,?_⟩
   · intro b6 w6 hn6
     have o6:=(Qaf).made (base:=wc.heap.size) hn6 hE.size;have hE:=hE.trans hn6.ext;refine⟨Mod.of_ext hn6.ext,Hh ?_⟩;refine⟨?_,?_⟩
     · refine Qa Qaf (l := []) (news:=T) rfl o6 (hkm) ((hsk).ext hE) (by simp;omega) hE.size fun A7 c7 w7 hown7 hg7 hA7 => ?_
       have hE:=ext_grown hE hg7 (Qd o6);refine⟨mod_grown hg7 (Qd o6),Hh ?_⟩;intro b8 w8 hn8;have h8:=(Qaf).new1 (x:=x) hn8;have hown7:=hown7.ext hn8.ext;have hE:=hE.trans hn8.ext;refine⟨Mod.of_ext hn8.ext,Hh ?_⟩;refine Qa Qaf (l:=T) (news := [x]) rfl hown7 rfl h8 (by simp;omega) hE.size fun A9 c9 w9 hown9 hg9 hA9 => ?_
       have hE:=ext_grown hE hg9 (Qd hown7);refine⟨mod_grown hg9 (Qd hown7),Hh ?_⟩;generalize hT1:T ++ [x]=T1 at hown9 ⊢;have hT1l:T1.length=T.length+1:=by rw[← hT1];simp
       refine Qa Qaf (l:=T1) (news:=D) rfl hown9 hdl (hsd.ext hE) (by omega) hE.size fun A10 c10 w10 hown10 hg10 hA10 => ?_
       have hE:=ext_grown hE hg10 (Qd hown9);have hfin:T++x :: D=T1++D:=by rw[← hT1];simp
       rw[hfin];generalize T1++D=T2 at hown10 ⊢;refine⟨mod_grown hg10 (Qd hown9),Hh ?_⟩
       exact⟨A10,c10,rfl,hown10.le,hown10.sl Qaf.sz,.inr fun a ha=>Nat.le_trans hx0c.size (hown10.block ha).1,hx0c.trans hE⟩
     · intro b8 w8 hn8
       have h8:=(Qaf).new1 (x:=x) hn8;have o6:=o6.ext hn8.ext;have hE:=hE.trans hn8.ext;refine⟨Mod.of_ext hn8.ext,Hh ?_⟩;refine Qa Qaf (l := []) (news:=T) rfl o6 (hkm) ((hsk).ext hE) (by simp;omega) hE.size fun A7 c7 w7 hown7 hg7 hA7 => ?_
       have h8:=sl_stay h8 (w1:=w7) (fun a' ha'=>by
        obtain rfl:(⟨b8,0,none⟩:Addr)=a':=by simpa using ha'
        exact hg7.block b8 (by rw[hn8.block];have:=hn6.size;have:=hn8.size;omega) (fun e'=>by
         have h68:b8=b6:=by simpa using e'
         have:=hn6.size;have:=hn8.size;rw[hn6.block,hn8.block] at h68;omega))
       have hE:=ext_grown hE hg7 (Qd o6);refine⟨mod_grown hg7 (Qd o6),Hh ?_⟩;refine Qa Qaf (l:=T) (news := [x]) rfl hown7 rfl h8 (by simp;omega) hE.size fun A9 c9 w9 hown9 hg9 hA9 => ?_
       have hE:=ext_grown hE hg9 (Qd hown7);refine⟨mod_grown hg9 (Qd hown7),Hh ?_⟩;generalize hT1:T ++ [x]=T1 at hown9 ⊢;have hT1l:T1.length=T.length+1:=by rw[← hT1];simp
       refine Qa Qaf (l:=T1) (news:=D) rfl hown9 hdl (hsd.ext hE) (by omega) hE.size fun A10 c10 w10 hown10 hg10 hA10 => ?_
       have hE:=ext_grown hE hg10 (Qd hown9);have hfin:T++x :: D=T1++D:=by rw[← hT1];simp
       rw[hfin];generalize T1++D=T2 at hown10 ⊢;refine⟨mod_grown hg10 (Qd hown9),Hh ?_⟩
       exact⟨A10,c10,rfl,hown10.le,hown10.sl Qaf.sz,.inr fun a ha=>Nat.le_trans hx0c.size (hown10.block ha).1,hx0c.trans hE⟩
   · intro b8 w8 hn8
     have h8:=(Qaf).new1 (x:=x) hn8;have hE:=hE.trans hn8.ext;refine⟨Mod.of_ext hn8.ext,Hh ?_⟩;intro b6 w6 hn6;have o6:=(Qaf).made (base:=wc.heap.size) hn6 hE.size;have hE:=hE.trans hn6.ext;have h8:=h8.ext hn6.ext;refine⟨Mod.of_ext hn6.ext,Hh ?_⟩;refine Qa Qaf (l := []) (news:=T) rfl o6 (hkm) ((hsk).ext hE) (by simp;omega) hE.size fun A7 c7 w7 hown7 hg7 hA7 => ?_
     have h8:=sl_stay h8 (w1:=w7) (fun a' ha'=>by
      obtain rfl:(⟨b8,0,none⟩:Addr)=a':=by simpa using ha'
      exact hg7.block b8 (by rw[hn8.block];have:=hn6.size;have:=hn8.size;omega) (fun e'=>by
       have h68:b8=b6:=by simpa using e'
       have:=hn6.size;have:=hn8.size;rw[hn6.block,hn8.block] at h68;omega))
     have hE:=ext_grown hE hg7 (Qd o6);refine⟨mod_grown hg7 (Qd o6),Hh ?_⟩;refine Qa Qaf (l:=T) (news := [x]) rfl hown7 rfl h8 (by simp;omega) hE.size fun A9 c9 w9 hown9 hg9 hA9 => ?_
     have hE:=ext_grown hE hg9 (Qd hown7);refine⟨mod_grown hg9 (Qd hown7),Hh ?_⟩;generalize hT1:T ++ [x]=T1 at hown9 ⊢;have hT1l:T1.length=T.length+1:=by rw[← hT1];simp
     refine Qa Qaf (l:=T1) (news:=D) rfl hown9 hdl (hsd.ext hE) (by omega) hE.size fun A10 c10 w10 hown10 hg10 hA10 => ?_
     have hE:=ext_grown hE hg10 (Qd hown9);have hfin:T++x :: D=T1++D:=by rw[← hT1];simp
     rw[hfin];generalize T1++D=T2 at hown10 ⊢;refine⟨mod_grown hg10 (Qd hown9),Hh ?_⟩
     exact⟨A10,c10,rfl,hown10.le,hown10.sl Qaf.sz,.inr fun a ha=>Nat.le_trans hx0c.size (hown10.block ha).1,hx0c.trans hE⟩
end Go.Proofs.YtagijlhciclafaaGreatDoor
