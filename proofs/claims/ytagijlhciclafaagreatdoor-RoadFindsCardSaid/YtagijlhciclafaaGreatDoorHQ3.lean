import Derived.Test.YtagijlhciclafaaGreatDoorHQ2
/- The second writing of the roads: a person's things,with what is left of each. -/
set_option linter.unusedVariables false
set_option linter.unusedSimpArgs false
namespace Go.Proofs.YtagijlhciclafaaGreatDoor
open Go.Se Go.RowKit Go.Sort
theorem Qfw (l:List Ct) (x:Ct):(Qas l x).length≤l.length+1:=by
 unfold Qas
 split
 · omega
 · rw[(Qs _).length_eq,List.length_cons];exact Nat.le_refl _
def Qkv (c:Cfg) (z:List Ev) (person:ByteArray) (now:Int):List Ct:=Xb (Xn c.half now (Qa1 z person))
theorem Qi5 {z:List Ev} (hm:∀ e∈z,mayB e=true) (person:ByteArray):∀ e∈histE z person,mayB e=true:=fun e he=>by
 unfold histE hist peopleE at he
 exact hm e (List.mem_filter.1 (List.mem_filter.1 he).1).1
theorem Qot (c:Cfg) (z:List Ev) (hm:∀ e∈z,mayB e=true) (person:ByteArray) (now:Int) :
 ((((histE z person).filter fun e=>decide (0<worthE e)).map (·.item)).map fun k=>((k,Xz c.half now (histE z person) k):Ct)).foldl Qas []=Qkv c z person now:=by
 have h:=Ql3 c.half now (Qa1 z person);unfold Qkv;rw[← h]
 congr 1
 refine List.map_congr_left fun k _ => ?_
 rw[Qh9 c.half now k (histE z person) (Qi5 hm person)]
 rfl
theorem Qkb {half now:Int} {H:List Ev} {j:Nat} (h:j<H.length) (x:ByteArray):Xz half now (H.take (j+1)) x=Xz half now (H.take j) x+if H[j].item=x then Qk3 half now H[j] else 0:=by
 rw[List.take_succ_eq_append_getElem h,Qac]
theorem Qml {f:ByteArray→Int} {H:List Ev} {i:Nat} (h:i<H.length):((((H.take (i+1)).filter fun e=>decide (0<worthE e)).map (·.item)).map fun k=>((k,f k):Ct)).foldl Qas []=if 0<worthE H[i] then Qas (((((H.take i).filter fun e=>decide (0<worthE e)).map (·.item)).map fun k=>((k,f k):Ct)).foldl Qas []) (H[i].item,f H[i].item) else((((H.take i).filter fun e=>decide (0<worthE e)).map (·.item)).map fun k=>((k,f k):Ct)).foldl Qas []:=by
 rw[List.take_succ_eq_append_getElem h,List.filter_append]
 by_cases hq:0<worthE H[i]
 · rw[List.filter_cons_of_pos (by simpa using hq),List.filter_nil,if_pos hq]
   simp
 · rw[List.filter_cons_of_neg (by simpa using hq),List.filter_nil,if_neg hq]
   simp
set_option maxHeartbeats 4000000 in
theorem Qjl {w:World} {T:Nat→Prop} {p:Nat} {c:Cfg} {z:List Ev} {v:Value} (h:WQ w T p c z v) (hok:Qhm c z) (person:ByteArray) (now:Int) (hnow:0≤now∧now≤1099511627776) :
 Cal Tryz.prog 36 [.pointer (some ⟨p,0,none⟩),.string person,.int .i64 now] w fun r w'=>∃ A cp,r = .slice A (Qkv c z person now).length cp∧Sl tgC 2 w' A (Qkv c z person now)∧(∀ a,A=some a→w.heap.size≤a.block)∧Ext w w':=by
 have hlen:=hok.len;have hm:=h.may;have hHl:(histE z person).length≤z.length:=hist_len z person
 have hpl:(countAll c.width z).rs.length<1000000:=by
  have:=Qex c.width z;omega
 have hev:hist (evs (countAll c.width z).rs) person=histE z person:=by rw[(count_parts c.width z).2];rfl
 have hfin:=Qot c z hm person now;have hHm:=Qi5 hm person;refine Fi Tryz.func36 rfl _ rfl rfl (Hh ?_);refine(Qh h).mono ?_;rintro _ w1 ⟨pw,S,rfl,hcr,hx1⟩;refine Gg ?_;refine(Xl w1 S pw _ _ hcr person hpl).mono ?_;rintro _ w2 ⟨A2,c2,rfl,hown2,hx2⟩;rw[hev] at hown2 ⊢;have hs2:=hown2.sl evC_len;have hx02:=hx1.trans hx2;have h2:=h.ext hx02
 have hLs:∀ x j,0≤Xz c.half now ((histE z person).take j) x∧Xz c.half now ((histE z person).take j) x≤1000*5242880:=fun x j=>by
  have hb:=Qbg c.half now x ((histE z person).take j) fun e he=>hHm e (List.mem_of_mem_take he)
  have:((histE z person).take j).length≤1000:=by rw[List.length_take];omega
  omega
 generalize histE z person=H at hs2 hHl hfin hHm hLs ⊢;obtain⟨f,hf⟩:∃ f:ByteArray→Int,∀ k,f k=Xz c.half now H k:=⟨_,fun _=>rfl⟩
 have hfin2:(((H.filter fun e=>decide (0<worthE e)).map (·.item)).map fun k=>((k,f k):Ct)).foldl Qas []=Qkv c z person now:=by
  rw[← hfin]
  congr 1
  exact List.map_congr_left fun k _=>by rw[hf]
 clear hown2 hcr hx1 hx2 h hfin hev;refine Gg ?_
 refine loop_rule Tt_ok (fun(q:Nat×Option Addr×Nat×List Ct) w'=>q.1≤H.length∧Ext w2 w'∧q.2.2.2=((((H.take q.1).filter fun e=>decide (0<worthE e)).map (·.item)).map fun k=>((k,f k):Ct)).foldl Qas []∧Sl tgC 2 w' q.2.1 q.2.2.2∧Srt Qad q.2.2.2∧q.2.2.2.length≤q.2.2.1∧q.2.2.2.length≤q.1∧∀ a,q.2.1=some a→w2.heap.size≤a.block)
  (fun | (i,B,d,L) => [(0,.pointer (some ⟨p,0,none⟩)),(2,.int .i64 now),(7,.slice A2 H.length c2),(8,.slice B L.length d),(9,.int .i64 (i:Nat))]) (fun q=>H.length-q.1) (0,none,0,[]) ⟨Nat.zero_le _,Ext.refl _,rfl,Sl.nil,Srt.nil,Nat.zero_le _,Nat.zero_le _,fun a ha=>by cases ha⟩ Rr ?_
 rintro ⟨i,B,d,L⟩ wa ⟨hi,hxa,hL,hsB,hsr,hcap,hLi,hBn⟩;simp only at hi hL hsB hsr hcap hLi hBn;refine Gg ?_;constructor
 · intro hlt
   have hlt:i<H.length:=by simpa using hlt
   obtain⟨ax,hAx,hcx⟩:=(hs2.ext hxa).get hlt;have htk:=Qml (f:=f) hlt;rw[← hL] at htk;have hme:=hHm H[i] (List.getElem_mem hlt);generalize he:H[i]=e at hcx htk hme;refine Gg ?_;refine⟨ax,⟨hAx,by omega,by omega⟩,Gg ?_⟩;refine⟨evC e,⟨rfl,hcx⟩,Gg ?_⟩;refine(worth_spec e wa).mono ?_;rintro _ wb ⟨rfl,hxb⟩;have hxab:=hxa.trans hxb;refine Gg ?_;constructor
   · intro hq
     have hq:¬ 0<worthE e:=by simp at hq;omega
     rw[if_neg hq] at htk;refine Gg ?_;refine⟨_,wrap_succ (by omega),Gg ?_⟩
     exact⟨(i+1,B,d,L),by simp only;omega,⟨by simp only;omega,hxab,htk.symm,hsB.ext hxb,hsr,hcap,by simp only;omega,hBn⟩,Rr⟩
   intro hq;have hq:0<worthE e:=by simp at hq;omega
   rw[if_pos hq] at htk;refine Gg ?_
   refine loop_rule Tt_ok (fun(q:Nat×Int) w'=>q.1≤H.length∧Ext wb w'∧q.2=Xz c.half now (H.take q.1) e.item)
    (fun | (j,n) => [(0,.pointer (some ⟨p,0,none⟩)),(2,.int .i64 now),(7,.slice A2 H.length c2),(8,.slice B L.length d),(9,.int .i64 (i:Nat)),(10,.int .i64 n),(11,.int .i64 (j:Nat))]) (fun q=>H.length-q.1) (0,0) ⟨Nat.zero_le _,Ext.refl _,by simp[Xz]⟩ Rr ?_
   rintro ⟨j,n⟩ wc ⟨hj,hxc,hn⟩;simp only at hj hn;refine Gg ?_;constructor
   · intro hlj
     have hlj:j<H.length:=by simpa using hlj
     have htj:=Qkb (half:=c.half) (now:=now) hlj e.item;rw[← hn] at htj;have hmj:=hHm H[j] (List.getElem_mem hlj);have hb1:=hLs e.item j;have hb2:=hLs e.item (j+1);rw[← hn] at hb1;refine Gg ?_;refine Dr .same [0,1,2,3,4,5,6,7,8,9,10] [] (Hh ?_);have hxd:Ext wb wc.drew:=hxc.drew;generalize wc.drew=wd at hxd ⊢;have hx2d:=hxab.trans hxd;obtain⟨ay,hAy,hcy⟩:=(hs2.ext hx2d).get hlj;obtain⟨ax',hAx',hcx'⟩:=(hs2.ext hx2d).get hlt;rw[he] at hcx';generalize H[j]=e2 at hcy htj hmj;refine⟨ay,⟨hAy,by omega,by omega⟩,Gg ?_⟩;refine⟨.string e2.item,cells_at hcy (k:=5) rfl,Gg ?_⟩;refine⟨ax',⟨hAx',by omega,by omega⟩,Gg ?_⟩;refine⟨.string e.item,cells_at hcx' (k:=5) rfl,Gg ?_⟩;constructor
     · intro hs
       have hs:e2.item=e.item:=by simpa using hs
       rw[if_pos hs] at htj;have hat:=Ql9 hmj;have htn:=Qba (half:=c.half) (now:=now) hmj;refine Gg ?_;refine Dr .ext [0,1,2,3,4,6,7,8,9,10,11,12,13,5,14,15,16,17,18,19] [] (Hh ?_);have hxe:Ext wd wd.drew:=(Ext.refl wd).drew;have hcz:=hxe.cells hcy;have hQe:=(h2.ext hx2d).ext hxe;generalize wd.drew=we at hxe hcz hQe ⊢;refine⟨ay,⟨hAy,by omega,by omega⟩,Gg ?_⟩;refine⟨evC e2,⟨rfl,hcz⟩,Gg ?_⟩;refine⟨ay,⟨hAy,by omega,by omega⟩,Gg ?_⟩;refine⟨.int .i64 e2.at_,cells_at hcz (k:=2) rfl,Gg ?_⟩;refine⟨now-e2.at_,wrap_eq rfl ⟨by omega,by omega⟩,Gg ?_⟩;refine(worth_spec e2 we).mono ?_;rintro _ wf ⟨rfl,hxf⟩;refine⟨hxf,Gg ?_⟩;refine(Xm (hQe.ext hxf)).mono ?_;rintro _ wg ⟨rfl,hxg⟩;refine⟨hxg,Gg ?_⟩;refine(weight_spec (now-e2.at_) c.half ⟨by omega,by omega⟩ wg).mono ?_;rintro _ wh ⟨rfl,hwh⟩;subst hwh;refine⟨Ext.refl _,Gg ?_⟩;have htn':Qk3 c.half now e2=worthE e2*weightF (now-e2.at_) c.half:=rfl;rw[htn'] at htn htj;refine⟨_,wrap_eq rfl ⟨by omega,by omega⟩,Gg ?_⟩;refine⟨_,wrap_eq rfl ⟨by omega,by omega⟩,Gg ?_⟩;refine⟨_,wrap_succ (by omega),Gg ?_⟩
       exact⟨(j+1,n+worthE e2*weightF (now-e2.at_) c.half),by simp only;omega,⟨by simp only;omega,hxd.trans (hxe.trans (hxf.trans hxg)),htj.symm⟩,Rr⟩
     · intro hs
       have hs:¬ e2.item=e.item:=by simpa using hs
       rw[if_neg hs,Int.add_zero] at htj;refine Gg ?_;refine⟨_,wrap_succ (by omega),Gg ?_⟩
       exact⟨(j+1,n),by simp only;omega,⟨by simp only;omega,hxd,htj.symm⟩,Rr⟩
   intro hge;have hge:H.length≤j:=by simpa using hge
   rw[List.take_of_length_le hge,← hf] at hn;rw[← hn] at htk;have hxac:=hxb.trans hxc;obtain⟨ay,hAy,hcy⟩:=(hs2.ext (hxa.trans hxac)).get hlt;rw[he] at hcy;refine Gg ?_;refine⟨ay,⟨hAy,by omega,by omega⟩,Gg ?_⟩;refine⟨.string e.item,cells_at hcy (k:=5) rfl,Gg ?_⟩;refine(Qci L (e.item,n) B d wc (hsB.ext hxac) hsr (by omega) hcap).mono ?_;rintro _ wd ⟨B',d',rfl,hcap',hsB',hB',hxd⟩;have hpl2:=Qfw L (e.item,n);have hsr':=Qc7 (x:=(e.item,n)) hsr;rw[← htk] at hcap' hsB' hpl2 hsr' ⊢;generalize hL2:((((H.take (i+1)).filter fun e=>decide (0<worthE e)).map (·.item)).map fun k=>((k,f k):Ct)).foldl Qas []=L2 at htk hcap' hsB' hpl2 hsr' ⊢;refine Gg ?_;refine⟨_,wrap_succ (by omega),Gg ?_⟩;refine⟨(i+1,B',d',L2),by simp only;omega,⟨by simp only;omega,hxa.trans (hxac.trans hxd),hL2.symm,hsB',hsr',hcap',by simp only;omega,fun a ha => ?_⟩,Rr⟩;rcases hB' with hB' | hB'
   · exact hBn a (hB' ▸ ha)
   · exact Nat.le_trans (hxa.trans hxac).size (hB' a ha)
 intro hge;have hge:H.length≤i:=by simpa using hge
 rw[List.take_of_length_le hge,hfin2] at hL;rw[← hL];refine Gg ?_
 exact⟨B,d,rfl,hsB,fun a ha=>Nat.le_trans hx02.size (hBn a ha),hx02.trans hxa⟩
end Go.Proofs.YtagijlhciclafaaGreatDoor
