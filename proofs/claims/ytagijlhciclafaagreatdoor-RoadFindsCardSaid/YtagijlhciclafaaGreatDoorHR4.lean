import Derived.Test.YtagijlhciclafaaGreatDoorHR3
/- The law RoadListed: the walk (printed by tools/mk_r4.py). -/
set_option linter.unusedVariables false
set_option linter.unusedSimpArgs false
namespace Go.Proofs.YtagijlhciclafaaGreatDoor
open Go.Se Go.RowKit
theorem Qn9 {H:List Ev} {i:Nat} (h:i<H.length) (x:ByteArray):x∈((H.take (i+1)).filter fun e=>decide (0<worthE e)).map (·.item)↔x∈((H.take i).filter fun e=>decide (0<worthE e)).map (·.item)∨(0<worthE H[i]∧x=H[i].item):=by
 rw[List.take_succ_eq_append_getElem h,List.filter_append,List.map_append,List.mem_append]
 by_cases hq:0<worthE H[i]
 · rw[List.filter_cons_of_pos (by simpa using hq),List.filter_nil]
   simp[hq]
 · rw[List.filter_cons_of_neg (by simpa using hq),List.filter_nil]
   simp[hq]
theorem Ql5 {cs:List Ev} {t:Int} {x:ByteArray} (h:Xa cs t x=true):(catAt cs x t).1.listed=true:=by
 unfold Xa at h;rw[Bool.and_eq_true] at h
 exact h.2
set_option maxHeartbeats 4000000 in
theorem roadListed_spec (c:Cfg) (l:List Ev) (person:ByteArray) (now limit:Int) (A:Option Addr) (cap:Nat) (w:World) (hg0:Gl w) (hs:SlE w A l) (hl:-9223372036854775808≤limit∧limit≤9223372036854775807) :
 Cal Tryz.prog 7 [cfgV c,.slice A l.length cap,.string person,.int .i64 now,.int .i64 limit] w fun r w'=>r = .bool true∧Ext w w':=by
 refine Fi Tryz.func7 rfl _ rfl rfl (Hh ?_);intro b1 w1 hn1;refine Gg ?_;have h1:At w1 b1 23 (cfgC c):=hn1.At;have hx:=hn1.ext;clear hn1;refine(Xr w1 (hg0.ext hx)).mono ?_;rintro _ w2 ⟨rfl,hx2⟩;replace h1:=h1.ext hx2;replace hx:=hx.trans hx2;clear hx2;refine Gg ?_;constructor
 · intro h;simp at h
 intro _;refine Gg ?_;refine⟨cfgC c,⟨rfl,h1.all⟩,Gg ?_⟩;have z2:=hx.size;refine(Xt c l A cap w2 (hg0.ext hx) (hs.ext hx)).mono ?_;rintro r0 w3 ⟨hx3,hr3⟩;replace hx:=hx.trans hx3;clear hx3 h1;rcases hr3 with⟨_,rfl⟩ | ⟨hok,p,T,rfl,hW,hT⟩
 · refine Gg ?_
   refine⟨_,eqRun_ptr_nil' Qcm _ _ _,Gg ?_⟩;constructor
   · intro _
     refine Gg ?_
     exact⟨rfl,hx⟩
   · intro h;simp at h
 have hsc:=Qcf hok;generalize anewL l=z at hW hsc;obtain⟨v,T0,hQ⟩:=(Q9 hsc).wq hW;have hm:=hQ.may;have hS:=(Qd5 c z hm hsc.len).len;replace hT:∀ k,T k→w.heap.size≤k:=fun k hk=>Nat.le_trans z2 (hT k hk)
 have hzl:=hsc.len
 have hpl:(countAll c.width z).rs.length<1000000:=by
  have:=Qex c.width z;omega
 have hev:∀ x,hist (evs (countAll c.width z).rs) x=histE z x:=fun x=>by rw[(count_parts c.width z).2];rfl
 refine Gg ?_;refine⟨_,eqRun_ptr_nil' Qcm _ _ _,Gg ?_⟩;constructor
 · intro _
   refine Gg ?_
   exact⟨rfl,hx⟩
 intro _;refine Gg ?_;intro b4 w4 hn4;have hm4:MapAt w4 b4 Value.string (venc Value.bool ([]:List (ByteArray×Bool))):=MapAt.new hn4;have e4:=hn4.block;have hx4:=hx.trans hn4.ext;have hW4:=hW.ext hn4.ext;have hQ4:=hQ.ext hn4.ext;have z3:=hx.size;have z4:=hn4.size;have hTb:¬ T b4:=fun h=>by have:=hW.lt b4 h;omega
 clear hn4;refine Gg ?_;refine(Qh hQ4).mono ?_;rintro _ w5 ⟨pw,S5,rfl,hcr,hx5⟩;refine Gg ?_;refine(Xl w5 S5 pw _ _ hcr person hpl).mono ?_;rintro _ w6 ⟨A6,c6,rfl,hown6,hx6⟩;rw[hev] at hown6 ⊢;have hs6:=hown6.sl evC_len;have hx46:=hx5.trans hx6;have hm6:=hm4.ext hx46;have hW6:=hW4.ext hx46;have hx06:=hx4.trans hx46;have z5:=hx5.size;have hA6:∀ a,A6=some a→a.block≠b4:=fun a ha e=>by have:=(hown6.block ha).1;omega
 have hHl:(histE z person).length≤z.length:=hist_len z person;have hown:∀ x,x∈Qje z person↔x∈((histE z person).filter fun e=>decide (0<worthE e)).map (·.item):=fun x=>Iff.rfl
 generalize histE z person=H at hs6 hHl hown ⊢;clear hown6 hcr hQ4 hx5 hx6 hx46 hm4 hW4 hW hQ;refine Gg ?_
 refine loop_rule Tt_ok (fun(q:Nat×List (ByteArray×Bool)) w'=>q.1≤H.length∧Mod (fun i=>i=b4) w6 w'∧(∀ x,(alook q.2 x).getD false=true↔x∈((H.take q.1).filter fun e=>decide (0<worthE e)).map (·.item))∧MapAt w' b4 Value.string (venc Value.bool q.2))
  (fun | (i,_) => [(2,.string person),(3,.int .i64 now),(4,.int .i64 limit),(11,.pointer (some ⟨p,0,none⟩)),(12,.map (some b4)),(13,.slice A6 H.length c6),(14,.int .i64 (i:Nat))]) (fun q=>H.length-q.1) (0,[]) ⟨Nat.zero_le _,Mod.refl _ _,fun x=>by simp[alook],hm6⟩ Rr ?_
 rintro ⟨i,m⟩ wa ⟨hi,hMa,hmk,hmap⟩;simp only at hi hmk hmap;refine Gg ?_;constructor
 · intro hlt
   have hlt:i<H.length:=by simpa using hlt
   obtain⟨ax,hAx,hcx⟩:=(Qq0.stay hs6 fun a ha hlt2=>hMa.block _ hlt2 (hA6 a ha)).get hlt;have htk:=Qn9 hlt;generalize H[i]=e at hcx htk;refine Gg ?_;refine⟨ax,⟨hAx,by omega,by omega⟩,Gg ?_⟩;refine⟨evC e,⟨rfl,hcx⟩,Gg ?_⟩;refine(worth_spec e wa).mono ?_;rintro _ wb ⟨rfl,hxb⟩;refine Gg ?_;constructor
   · intro hq
     have hq:0<worthE e:=by simpa using hq
     refine Gg ?_;refine⟨ax,⟨hAx,by omega,by omega⟩,Gg ?_⟩;refine⟨.string e.item,cells_at (hxb.cells hcx) (k:=5) rfl,Gg ?_⟩;refine map_update undS1 (key_string undStr) (hmap.ext hxb) e.item _ fun wc hmc hoc => ?_
     rw[aset_venc] at hmc;refine Gg ?_;refine⟨_,wrap_succ (by omega),Gg ?_⟩;refine⟨(i+1,aset m e.item true),by simp only;omega,⟨by simp only;omega,(hMa.trans (Mod.of_ext hxb)).trans (mod_only hoc rfl),fun x => ?_,hmc⟩,Rr⟩;show (alook (aset m e.item true) x).getD false=true↔_
     rw[htk x,alook_aset]
     by_cases ex:x=e.item
     · rw[if_pos ex]
       exact⟨fun _ => .inr ⟨hq,ex⟩,fun _=>rfl⟩
     · rw[if_neg ex,hmk x]
       exact⟨fun h => .inl h,fun h=>h.elim id fun h=>absurd h.2 ex⟩
   · intro hq
     have hq:¬ 0<worthE e:=by simpa using hq
     refine Gg ?_;refine⟨_,wrap_succ (by omega),Gg ?_⟩;refine⟨(i+1,m),by simp only;omega,⟨by simp only;omega,hMa.trans (Mod.of_ext hxb),fun x => ?_,hmap.ext hxb⟩,Rr⟩;show (alook m x).getD false=true↔_
     rw[htk x,hmk x]
     exact⟨fun h => .inl h,fun h=>h.elim id fun h=>absurd h.1 hq⟩
 intro hge;have hge:H.length≤i:=by simpa using hge
 rw[List.take_of_length_le hge] at hmk;have hmo:∀ x,(alook m x).getD false=true↔x∈Qje z person:=fun x=>(hmk x).trans (hown x).symm
 have hxa:Ext w wa:=Qo hx06 (fun k hk=>by omega) hMa;have hWa:WT wa T p c z:=hW6.mod hMa fun k hk h=>hTb (hk ▸ h)
 clear hge hmk hown hMa hW6 hs6 hA6 hm6 hx06 hHl hi;refine Gg ?_
 refine loop_rule Tt_ok (fun(q:Nat×(Nat→Prop)) w'=>q.1≤6∧WT w' q.2 p c z∧(∀ k,q.2 k→w.heap.size≤k)∧¬ q.2 b4∧MapAt w' b4 Value.string (venc Value.bool m)∧Ext w w')
  (fun | (k,_) => [(2,.string person),(3,.int .i64 now),(4,.int .i64 limit),(11,.pointer (some ⟨p,0,none⟩)),(12,.map (some b4)),(15,.int .i64 (k:Nat))]) (fun q=>6-q.1) (0,T) ⟨Nat.zero_le _,hWa,hT,hTb,hmap,hxa⟩ Rr ?_
 clear hWa hT hTb hmap hxa;rintro ⟨k,T8⟩ w8 ⟨hk,hW8,hT8,hTb8,hmap8,hx8⟩;simp only at hk hW8 hT8 hTb8;refine Gg ?_;constructor
 · intro hlt
   have hlt:k<6:=by
    have:(k:Int)<6:=by simpa using hlt
    omega
   refine Gg ?_;refine(X5 (Q9 hsc) hW8 hsc k person now limit hl.2).mono ?_;rintro _ w9 ⟨A9,c9,T9,rfl,hown9,hA9,hW9,hT9,hM9⟩;have z8:=hx8.size;have hx9:=Qo hx8 hT8 hM9;have hl8:=hmap8.lt;have hmap9:MapAt w9 b4 Value.string (venc Value.bool m):=hmap8.keep (hM9.block b4 hl8 hTb8);have hTb9:¬ T9 b4:=fun h=>(hT9 b4 h).elim hTb8 fun h=>by omega
   have hT9':∀ i,T9 i→w.heap.size≤i:=fun i hi=>(hT9 i hi).elim (hT8 i) fun h=>by omega
   have hs9:=hown9.sl strE_len
   have hk2:k=2→∀ x∈Qc c z person now (k:Nat) limit,x∉Qje z person:=fun e x hx=>by
    subst e
    exact Qof hS hx
   have hk34:k=3∨k=4→∀ x∈Qc c z person now (k:Nat) limit,Xa (thingsE z) now x=true:=fun e x hx=>Qog (by omega) hx
   have hk5:k=5→∀ x∈Qc c z person now (k:Nat) limit,x∈Qje z person∧Qcc (countAll c.width z).rs person x=false∧Qng (countAll c.width z).rs person x=false:=fun e x hx=>by
    subst e
    exact Qkl hx
   have hfew:=Xf hm hS person now (k:Nat) limit;generalize Qc c z person now (k:Nat) limit=K at hs9 hk2 hk34 hk5 hfew ⊢;clear hown9 hM9 hW8 hT9 hT8 hTb8 hmap8 hx8 hA9;obtain⟨v9,T09,hQ9⟩:=(Q9 hsc).wq hW9;refine Gg ?_
   refine loop_rule Tt_ok (fun(j:Nat) w'=>j≤K.length∧Ext w9 w')
    (fun j => [(2,.string person),(3,.int .i64 now),(4,.int .i64 limit),(11,.pointer (some ⟨p,0,none⟩)),(12,.map (some b4)),(15,.int .i64 (k:Nat)),(16,.slice A9 K.length c9),(17,.int .i64 (j:Nat))]) (fun j=>K.length-j) 0 ⟨Nat.zero_le _,Ext.refl _⟩ Rr ?_
   rintro j w10 ⟨hj,hx10⟩;refine Gg ?_;constructor
   · intro hlt2
     have hlt2:j<K.length:=by simpa using hlt2
     obtain⟨ax,hAx,hcx⟩:=(hs9.ext hx10).get hlt2;replace hk2:=fun e=>hk2 e _ (List.getElem_mem hlt2)
     replace hk34:=fun e=>hk34 e _ (List.getElem_mem hlt2)
     replace hk5:=fun e=>hk5 e _ (List.getElem_mem hlt2)
     generalize K[j]=x at hcx hk2 hk34 hk5;have hcx0:=hcx;refine Gg ?_
     refine sem_cut (ι:=Nat) (fun b => [(2,.string person),(3,.int .i64 now),(4,.int .i64 limit),(11,.pointer (some ⟨p,0,none⟩)),(12,.map (some b4)),(15,.int .i64 (k:Nat)),(16,.slice A9 K.length c9),(17,.int .i64 (j:Nat)),(18,.pointer (some ⟨b,0,none⟩))])
      (fun b w'=>Ext w10 w'∧At w' b 53 (itC (catAt (thingsE z) x now).1)) ?_ ?_
     · refine draw_plan (.mods (fun k=>w10.heap.size≤k)) (Pl.seq [0,2,3,4,5,6] (Pl.two 1 (Pl.seq [] (Pl.two 7 (Pl.seq [8,9,10,11,12,13] Pl.done) 11 (Pl.seq [7,8,9,10,12,13] Pl.done))) 11 (Pl.seq [1,7,8,9,10,12,13] Pl.done))) (by intro h;cases h) Tt_ok mixed (by kernel_rfl) (Hh ?_)
       have hxd:Ext w10 w10.drew:=(Ext.refl w10).drew;have hQc:=(hQ9.ext hx10).ext hxd;replace hcx:CellsAt w10.drew (ax.add (j*1)) (strE x):=hcx;have hlb:¬ (w10.heap.size≤(ax.add (j*1)).block):=by have:=cell_lt (cells_head hcx0);exact Nat.not_le.2 this
       generalize w10.drew=w11 at hxd hQc hcx ⊢;refine⟨ax,⟨hAx,by omega,by omega⟩,Hh ?_⟩;refine⟨.string x,⟨cells_head hcx,hlb⟩,Hh ?_⟩;refine⟨?_,?_⟩
       · refine(Qj hQc).mono ?_
         rintro _ w13 ⟨pc,S0,rfl,hcat,hx13⟩;refine⟨Mod.of_ext hx13,Hh ?_⟩;refine⟨?_,?_⟩
         · refine(catAt_spec _ _ pc _ hcat x now hQc.rows).mono ?_
           rintro _ w14 ⟨rfl,hx14⟩;refine⟨Mod.of_ext hx14,Hh ?_⟩;intro b15 w15 hn15;have e15:=hn15.block;refine⟨Mod.of_ext hn15.ext,Hh ?_⟩;refine store_ptr Tt_ok (e:=ty53) rfl (hn15.At) rfl rfl rfl (Xi _) fun w16 h16 ho16 => ?_
           refine⟨mod_only ho16 (by have:=hxd.size;have:=hx13.size;have:=hx14.size;omega),Hh ?_⟩
           exact⟨b15,⟨ho16.ext ((hxd.trans hx13).trans (hx14.trans hn15.ext)) (by have:=hxd.size;have:=hx13.size;have:=hx14.size;omega),h16⟩,Rr⟩
         · intro b15 w15 hn15
           have e15:=hn15.block;refine⟨Mod.of_ext hn15.ext,Hh ?_⟩;replace hcat:=hcat.ext hn15.ext;refine(catAt_spec _ _ pc _ hcat x now hQc.rows).mono ?_;rintro _ w14 ⟨rfl,hx14⟩;refine⟨Mod.of_ext hx14,Hh ?_⟩;refine store_ptr Tt_ok (e:=ty53) rfl (hn15.At.ext hx14) rfl rfl rfl (Xi _) fun w16 h16 ho16 => ?_
           refine⟨mod_only ho16 (by have:=hxd.size;have:=hx13.size;omega),Hh ?_⟩
           exact⟨b15,⟨ho16.ext ((hxd.trans hx13).trans (hn15.ext.trans hx14)) (by have:=hxd.size;have:=hx13.size;omega),h16⟩,Rr⟩
       · intro b15 w15 hn15
         have e15:=hn15.block;refine⟨Mod.of_ext hn15.ext,Hh ?_⟩;refine(Qj (hQc.ext hn15.ext)).mono ?_;rintro _ w13 ⟨pc,S0,rfl,hcat,hx13⟩;refine⟨Mod.of_ext hx13,Hh ?_⟩;refine(catAt_spec _ _ pc _ hcat x now hQc.rows).mono ?_;rintro _ w14 ⟨rfl,hx14⟩;refine⟨Mod.of_ext hx14,Hh ?_⟩;refine store_ptr Tt_ok (e:=ty53) rfl ((hn15.At.ext hx13).ext hx14) rfl rfl rfl (Xi _) fun w16 h16 ho16 => ?_
         refine⟨mod_only ho16 (by have:=hxd.size;omega),Hh ?_⟩
         exact⟨b15,⟨ho16.ext (hxd.trans ((hn15.ext.trans hx13).trans hx14)) (by have:=hxd.size;omega),h16⟩,Rr⟩
     rintro b18 w11 ⟨hx11,h18⟩;have hx911:=hx10.trans hx11;have hmap11:=hmap9.ext hx911;replace hcx:=hx11.cells hcx;refine Gg ?_;constructor
     · intro hq
       have hq:k=2:=by
        have:(k:Int)=2:=by simpa using hq
        omega
       have hno:(alook m x).getD false=false:=by
        cases hc:(alook m x).getD false with
        | false=>rfl
        | true=>exact absurd ((hmo x).1 hc) (hk2 hq)
       have hlk:=map_look undS1 (key_string undStr) (e:=ty4) ty4_ok (cl := .same) kept_same hmap11 x;rw[show ty4.zero=Value.bool false from rfl,getD_venc,hno] at hlk;refine Gg ?_;refine⟨ax,⟨hAx,by omega,by omega⟩,Gg ?_⟩;refine⟨.string x,cells_head hcx,Gg ?_⟩;refine⟨_,hlk,Gg ?_⟩;constructor
       · intro hh;cases hh
       intro _;refine Gg ?_;refine⟨_,wrap_succ (by omega),Gg ?_⟩
       exact⟨j+1,by omega,⟨by omega,hx911⟩,Rr⟩
     intro hq2;refine Gg ?_;constructor
     · intro hq
       have hq:k=3:=by
        have:(k:Int)=3:=by simpa using hq
        omega
       have hli:=Ql5 (hk34 (.inl hq));refine Gg ?_;constructor
       · intro _
         refine Gg ?_;refine⟨_,h18.one rfl,Hh ?_⟩;refine Gg ?_;constructor
         · intro hh
           exfalso
           rw[hli] at hh
           simp at hh
         intro _;refine Gg ?_;refine⟨_,wrap_succ (by omega),Gg ?_⟩
         exact⟨j+1,by omega,⟨by omega,hx911⟩,Rr⟩
       · intro hh
         exfalso
         simp at hh
         omega
     intro hq3;refine Gg ?_;constructor
     · intro hq
       have hq:k=4:=by
        have:(k:Int)=4:=by simpa using hq
        omega
       have hli:=Ql5 (hk34 (.inr hq));refine Gg ?_;refine⟨_,h18.one rfl,Hh ?_⟩;refine Gg ?_;constructor
       · intro hh
         exfalso
         rw[hli] at hh
         simp at hh
       intro _;refine Gg ?_;refine⟨_,wrap_succ (by omega),Gg ?_⟩
       exact⟨j+1,by omega,⟨by omega,hx911⟩,Rr⟩
     intro hq4;refine Gg ?_;constructor
     · intro hq
       have hq:k=5:=by
        have:(k:Int)=5:=by simpa using hq
        omega
       obtain⟨ho,hdo,hhi⟩:=hk5 hq;have hlk0:=(hmo x).2 ho;refine Gg ?_;refine Dr .ext [0,1,2,3,4,5,6,7,8,10,11,12,13,14,9,15,16,17,18,20,21,22,23,24,19] [25,26] (Hh ?_);have hxd:Ext w11 w11.drew:=(Ext.refl w11).drew;have hQd:=((hQ9.ext hx10).ext hx11).ext hxd;have hmapd:=hmap11.ext hxd;have hcd:=hxd.cells hcx;have hx9d:=hx911.trans hxd;generalize w11.drew=w12 at hxd hQd hmapd hcd hx9d ⊢;have hlk:=map_look undS1 (key_string undStr) (e:=ty4) ty4_ok (cl := .ext) (kept_ext hmapd.lt) hmapd x;rw[show ty4.zero=Value.bool false from rfl,getD_venc,hlk0] at hlk;refine⟨ax,⟨hAx,by omega,by omega⟩,Gg ?_⟩;refine⟨.string x,cells_head hcd,Gg ?_⟩;refine⟨_,hlk,Gg ?_⟩;refine⟨ax,fun _=>⟨hAx,by omega,by omega⟩,Gg ?_⟩;refine⟨.string x,fun _=>cells_head hcd,Gg ?_⟩;refine⟨Nat,fun pw => .pointer (some ⟨pw,0,none⟩),fun pw w'=>(∃ S,CrowdAt w' S pw (halfN c.half) (countAll c.width z).rs)∧Ext w12 w',0,fun _=>(Qh hQd).mono fun r w' hh => ?_,?_⟩
       · obtain⟨pw,S,h1,h2,h3⟩:=hh
         exact⟨pw,h1,⟨S,h2⟩,h3⟩
       intro pw13 w13 hh
       have hx13:Ext w12 w13:=by
        rcases hh with⟨_,hh⟩ | ⟨_,hh⟩
        · exact hh.2
        · rw[hh];exact Ext.refl _
       have hS13:(!true)=false→∃ S,CrowdAt w13 S pw13 (halfN c.half) (countAll c.width z).rs:=fun hl=>by
        rcases hh with⟨_,hh⟩ | ⟨hg,_⟩
        · exact hh.1
        · exact(hg ⟨hl,trivial⟩).elim
       clear hh;replace hQd:=hQd.ext hx13;refine⟨hx13,?_⟩;refine Gg ?_;refine⟨Unit,fun _ => .bool (Qcc (countAll c.width z).rs person x),fun _ w'=>Ext w13 w',(),fun hg => ?_,?_⟩
       · obtain⟨S,hc⟩:=hS13 hg
         refine(Qdi w13 S pw13 _ _ hc person x).mono ?_;rintro r w' ⟨hr,hx⟩
         exact⟨(),hr,hx⟩
       rintro ⟨⟩ w14 hh
       have hx14:Ext w13 w14:=by
        rcases hh with⟨_,hh⟩ | ⟨_,hh⟩
        · exact hh
        · rw[hh];exact Ext.refl _
       clear hh;replace hQd:=hQd.ext hx14;refine⟨hx14,?_⟩;refine Gg ?_;refine⟨ax,fun _=>⟨hAx,by omega,by omega⟩,Gg ?_⟩;refine⟨.string x,fun _=>cells_head (((hx13.trans hx14)).cells hcd),Gg ?_⟩;refine⟨Nat,fun pw => .pointer (some ⟨pw,0,none⟩),fun pw w'=>(∃ S,CrowdAt w' S pw (halfN c.half) (countAll c.width z).rs)∧Ext w14 w',0,fun _=>(Qh hQd).mono fun r w' hh => ?_,?_⟩
       · obtain⟨pw,S,h1,h2,h3⟩:=hh
         exact⟨pw,h1,⟨S,h2⟩,h3⟩
       intro pw15 w15 hh
       have hx15:Ext w14 w15:=by
        rcases hh with⟨_,hh⟩ | ⟨_,hh⟩
        · exact hh.2
        · rw[hh];exact Ext.refl _
       have hS15:(!true||Qcc (countAll c.width z).rs person x)=false→∃ S,CrowdAt w15 S pw15 (halfN c.half) (countAll c.width z).rs:=fun hl=>by
        rcases hh with⟨_,hh⟩ | ⟨hg,_⟩
        · exact hh.1
        · exact(hg ⟨hl,trivial⟩).elim
       clear hh;replace hQd:=hQd.ext hx15;refine⟨hx15,?_⟩;refine Gg ?_;refine⟨Unit,fun _ => .bool (Qng (countAll c.width z).rs person x),fun _ w'=>Ext w15 w',(),fun hg => ?_,?_⟩
       · obtain⟨S,hc⟩:=hS15 hg
         refine(Qbe w15 S pw15 _ _ hc person x).mono ?_;rintro r w' ⟨hr,hx⟩
         exact⟨(),hr,hx⟩
       rintro ⟨⟩ w16 hh
       have hx16:Ext w15 w16:=by
        rcases hh with⟨_,hh⟩ | ⟨_,hh⟩
        · exact hh
        · rw[hh];exact Ext.refl _
       clear hh;replace hQd:=hQd.ext hx16;refine Gg ?_;rw[hdo,hhi];constructor
       · intro hh
         exfalso
         simp at hh
       intro _;refine Gg ?_;refine⟨_,wrap_succ (by omega),Gg ?_⟩
       exact⟨j+1,by omega,⟨by omega,hx9d.trans ((hx13.trans hx14).trans (hx15.trans hx16))⟩,Rr⟩
     · intro hq
       refine Gg ?_;refine⟨_,wrap_succ (by omega),Gg ?_⟩
       exact⟨j+1,by omega,⟨by omega,hx911⟩,Rr⟩
   intro _;refine Gg ?_;refine⟨_,wrap_succ (by omega),Gg ?_⟩
   exact⟨(k+1,T9),by simp only;omega,⟨by simp only;omega,hW9.ext hx10,hT9',hTb9,hmap9.ext hx10,hx9.trans hx10⟩,Rr⟩
 intro _;refine Gg ?_
 exact⟨rfl,hx8⟩
end Go.Proofs.YtagijlhciclafaaGreatDoor
