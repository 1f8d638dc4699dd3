/- Several texts in one: Y6, Y16, Y18, Y19. -/
import Derived.Test.YtagijlhciclafaaGreatDoorGI
import Derived.Test.YtagijlhciclafaaGreatDoorGC
import Derived.Test.YtagijlhciclafaaGreatDoorGE
import Derived.Test.YtagijlhciclafaaGreatDoorGX
import Derived.Test.YtagijlhciclafaaGreatDoorGYF
import Derived.Test.YtagijlhciclafaaGreatDoorGXH
set_option linter.unusedVariables false
set_option linter.unusedSimpArgs false
namespace Go.Proofs.YtagijlhciclafaaGreatDoor
open Go.Se Go.RowKit
theorem Qcl (l m:List ByteArray) (A B:Option Addr) (c d:Nat) (w:World) (hs:SlT w A l) (hm:SlT w B m) (hl:l.length<1000000000000) :
 Cal Tryz.prog 11 [.slice A l.length c,.slice B m.length d] w fun r w'=>r = .bool (decide (l=m))∧Ext w w':=by
 refine Fi Tryz.func11 rfl _ rfl rfl (Hh ?_);constructor
 · intro h
   have h:¬ l.length=m.length:=by simp at h;omega
   conv=>whnf
   refine⟨?_,Ext.refl _⟩;rw[decide_eq_false (fun e=>h (by rw[e]))]
 · intro h
   have h:l.length=m.length:=by simp at h;omega
   conv=>whnf
   refine loop_rule Tt_ok (fun(k:Nat) w'=>k≤l.length∧Ext w w'∧∀ i,i<k→l[i]? = m[i]?)
    (fun k => [(0,.slice A l.length c),(1,.slice B m.length d),(5,.int .i64 k)]) (fun k=>l.length-k) 0 ⟨by omega,Ext.refl _,fun i h=>by omega⟩ Rr ?_
   rintro k w1 ⟨hk,hx,hall⟩
   conv=>whnf
   constructor
   · intro hlt
     have hlt:k<l.length:=by simpa using hlt
     obtain⟨a,rfl,hc1⟩:=hs.get hlt;obtain⟨b,rfl,hc2⟩:=hm.get (show k<m.length by omega)
     conv=>whnf
     refine Dr .same [0,1,2,3,4,5,6,7,8] [] (Hh ?_);replace hx:=hx.drew;generalize w1.drew=w2 at hx ⊢;refine⟨a,Ix,Hh ?_⟩;refine⟨_,hx.cell (cells_head hc1),Hh ?_⟩;refine⟨b,Ix,Hh ?_⟩;refine⟨_,hx.cell (cells_head hc2),Hh ?_⟩;constructor
     · intro hne
       have hne:¬ l[k]=m[k]'(by omega):=by simpa using hne
       conv=>whnf
       refine⟨?_,hx⟩;rw[decide_eq_false (fun e=>hne (by subst e;rfl))]
     · intro heq
       have heq:l[k]=m[k]'(by omega):=by simpa using heq
       conv=>whnf
       refine⟨_,wrap_succ (by omega),Hh ?_⟩;refine⟨k+1,by omega,⟨by omega,hx,fun i hi => ?_⟩,Rr⟩
       by_cases e:i=k
       · subst e;rw[List.getElem?_eq_getElem hlt,List.getElem?_eq_getElem (by omega),heq]
       · exact hall i (by omega)
   · intro hge
     have hge:l.length≤k:=by simpa using hge
     conv=>whnf
     refine⟨?_,hx⟩;rw[decide_eq_true]
     apply List.ext_getElem?
     intro i
     by_cases hi:i<k
     · exact hall i hi
     · rw[List.getElem?_eq_none (by omega),List.getElem?_eq_none (by omega)]
def Qo1 (n:Nat) (c:Cfg) (l:List Ev):Bool := !(decide ((n:Int)<l.length)) && !(l.any (bigB 300))&&l.all mayB&&cfgB c
theorem Qft {n:Nat} {c:Cfg} {l:List Ev}:Qo1 n c l=true↔l.length≤n∧l.any (bigB 300)=false∧(∀ e∈l,mayB e=true)∧cfgB c=true:=by
 unfold Qo1;simp only[Bool.and_eq_true,Bool.not_eq_true',decide_eq_false_iff_not,List.all_eq_true];constructor
 · rintro ⟨⟨⟨h1,h2⟩,h3⟩,h4⟩
   exact⟨by omega,h2,h3,h4⟩
 · rintro ⟨h1,h2,h3,h4⟩
   exact⟨⟨⟨by omega,h2⟩,h3⟩,h4⟩
theorem Qnm {l:List Ev} (h:l.any (bigB 300)=false):∀ e∈l,e.text.size<1000000000000:=fun e he=>by
 have:=(List.any_eq_false.1 h) e he
 simp[bigB] at this
 omega
theorem Xt (c:Cfg) (l:List Ev) (A:Option Addr) (cap:Nat) (w:World) (hg0:Gl w) (hs:SlE w A l) :
 Cal Tryz.prog 10 [cfgV c,.slice A l.length cap] w fun r w'=>Ext w w'∧((Qo1 40 c l=false∧r = .pointer none)∨(Qo1 40 c l=true∧∃ p T,r = .pointer (some ⟨p,0,none⟩)∧WT w' T p c (anewL l)∧∀ k,T k→w.heap.size≤k)):=by
 refine Fi Tryz.func10 rfl _ rfl rfl (Hh ?_);intro b1 w1 hn1;conv=>whnf
 have h1:=hn1.At;refine⟨Unit,fun _=>(.bool (l.any (bigB 300))),fun _ w'=>Ext w1 w',(),fun hg=>((some_spec l A cap 300 w1 (hs.ext hn1.ext) (by simp at hg;omega))).mono fun r w' h=>⟨(),h.1,h.2⟩,?_⟩;intro _ w2 h2
 have hx2:Ext w1 w2:=by
  rcases h2 with⟨_,h⟩ | ⟨_,h⟩
  · exact h
  · rw[h];exact Ext.refl _
 clear h2
 conv=>whnf
 refine⟨Unit,fun _=>(.bool (l.all mayB)),fun _ w'=>Ext w2 w',(),fun hg=>((all_spec l A cap w2 ((hs.ext hn1.ext).ext hx2) (by have:=(Bool.or_eq_false_iff.1 hg).1;simp at this;omega) (Qnm (Bool.or_eq_false_iff.1 hg).2))).mono fun r w' h=>⟨(),h.1,h.2⟩,?_⟩;intro _ w3 h2
 have hx3:Ext w2 w3:=by
  rcases h2 with⟨_,h⟩ | ⟨_,h⟩
  · exact h
  · rw[h];exact Ext.refl _
 clear h2
 conv=>whnf
 replace h1:=(h1.ext hx2).ext hx3;refine⟨cfgC c,fun _=>⟨rfl,h1.all⟩,Hh ?_⟩;refine⟨Unit,fun _=>(.bool (cfgB c)),fun _ w'=>Ext w3 w',(),fun hg=>((rconfig_spec c w3)).mono fun r w' h=>⟨(),h.1,h.2⟩,?_⟩;intro _ w4 h2
 have hx4:Ext w3 w4:=by
  rcases h2 with⟨_,h⟩ | ⟨_,h⟩
  · exact h
  · rw[h];exact Ext.refl _
 clear h2
 conv=>whnf
 replace h1:=h1.ext hx4;have hx:=((hn1.ext.trans hx2).trans hx3).trans hx4
 have hq:(((decide ((40:Int)<l.length)||l.any (bigB 300)) || !l.all mayB) || !cfgB c) = !Qo1 40 c l:=by
  unfold Qo1
  cases decide (((40:Nat):Int)<l.length) <;> cases l.any (bigB 300) <;> cases l.all mayB <;> cases cfgB c <;> rfl
 constructor
 · intro hc
   have hc:(((decide ((40:Int)<l.length)||l.any (bigB 300)) || !l.all mayB) || !cfgB c)=true:=hc;rw[hq] at hc
   conv=>whnf
   exact⟨hx,.inl ⟨by simpa using hc,rfl⟩⟩
 · intro hc
   have hc:(((decide ((40:Int)<l.length)||l.any (bigB 300)) || !l.all mayB) || !cfgB c)=false:=hc;rw[hq] at hc;have hok:Qo1 40 c l=true:=by simpa using hc
   obtain⟨k1,k2,k3,k4⟩:=Qft.1 hok
   conv=>whnf
   refine⟨cfgC c,⟨rfl,h1.all⟩,Hh ?_⟩;refine(made_spec c k4 l A cap w4 (hg0.ext hx) (hs.ext hx) (by omega) k3).mono ?_;rintro _ w5 ⟨p,rfl,hW,hx5⟩;conv=>whnf
   obtain⟨T,hWT,hT⟩:=hW.t;refine⟨fun h=>(by simp at h),fun _ => ?_⟩
   conv=>whnf
   exact⟨hx.trans hx5,.inr ⟨hok,p,T,rfl,hWT,fun k hk=>Nat.le_trans hx.size (hT k hk)⟩⟩
structure LvW (w:World) (p:Nat) (c:Cfg) (col:Nat→Nat) (q:WP) (A:Option Addr) (cap:Nat) (any:Bool) (last:Ev) (ad:List (IK×Bool)) (es:List Ev) (v:Value):Prop where
 head:At w p 110 (wCv c A es.length cap any last q v)
 low:∀ k,col k≠0→10≤k
 hi:∀ k,w.heap.size≤k→col k=0
 cols:col p=6∧col q.ba=7∧col q.bf=8∧∀ a,A=some a→col a.block=9
 added:MapAt w q.ba idV (venc Value.bool ad)
 forg:MapAt w q.bf Value.string (venc Value.bool ([]:List (ByteArray×Bool)))
 evs:Own evC 8 51 0 w A cap es
 cts:CtsAt w col c q Cts0
section
variable {w w1:World} {p:Nat} {c:Cfg} {col:Nat→Nat} {q:WP} {A:Option Addr} {cap:Nat} {any:Bool} {last:Ev} {ad:List (IK×Bool)} {es:List Ev} {v:Value}
theorem LvW.keep (h:LvW w p c col q A cap any last ad es v) (hk:∀ k,k<w.heap.size→col k≠0→w1.heap[k]? = w.heap[k]?) (hz:w.heap.size≤w1.heap.size):LvW w1 p c col q A cap any last ad es v :=
 ⟨(hk p h.head.lt (by rw[h.cols.1];decide)).trans h.head,h.low,fun k hk=>h.hi k (by omega),h.cols,h.added.keep (hk _ h.added.lt (by rw[h.cols.2.1];decide)),h.forg.keep (hk _ h.forg.lt (by rw[h.cols.2.2.1];decide)),
  h.evs.keep fun a ha=>hk _ (h.evs.block ha).2 (by rw[h.cols.2.2.2 a ha];decide),h.cts.keep fun k hl hc=>⟨hk k hl (by omega),rfl⟩⟩
theorem LvW.ext (h:LvW w p c col q A cap any last ad es v) (hx:Ext w w1):LvW w1 p c col q A cap any last ad es v:=h.keep (fun k hk _=>hx.block k hk) hx.size
theorem LvW.reh (h:LvW w p c col q A cap any last ad es v) (ho:Only w w1 p) {any':Bool} {last':Ev} {v':Value} (hh:At w1 p 110 (wCv c A es.length cap any' last' q v')):LvW w1 p c col q A cap any' last' ad es v':=by
 have hp:=h.cols.1;refine⟨hh,h.low,fun k hk=>h.hi k (by have:=ho.size;omega),h.cols,h.added.keep (ho.block _ fun e => ?_),h.forg.keep (ho.block _ fun e => ?_),h.evs.keep fun a ha=>ho.block _ fun e => ?_,h.cts.keep fun k _ hk=>⟨ho.block _ fun e => ?_,rfl⟩⟩
 · have:=h.cols.2.1;rw[e] at this;omega
 · have:=h.cols.2.2.1;rw[e] at this;omega
 · have:=h.cols.2.2.2 a ha;rw[e] at this;omega
 · rw[e] at hk;omega
theorem LvW.addm (h:LvW w p c col q A cap any last ad es v) (ho:Only w w1 q.ba) {ad':List (IK×Bool)} (hm:MapAt w1 q.ba idV (venc Value.bool ad')):LvW w1 p c col q A cap any last ad' es v:=by
 have hb:=h.cols.2.1;refine⟨(ho.block _ fun e => ?_).trans h.head,h.low,fun k hk=>h.hi k (by have:=ho.size;omega),h.cols,hm,h.forg.keep (ho.block _ fun e => ?_),h.evs.keep fun a ha=>ho.block _ fun e => ?_,h.cts.keep fun k _ hk=>⟨ho.block _ fun e => ?_,rfl⟩⟩
 · have:=h.cols.1;rw[e] at this;omega
 · have:=h.cols.2.2.1;rw[e] at this;omega
 · have:=h.cols.2.2.2 a ha;rw[e] at this;omega
 · rw[e] at hk;omega
end
theorem WorldC.lv {w:World} {base p:Nat} {c:Cfg} {col:Nat→Nat} (h:WorldC w base p c WS0 col):∃ q A cap,LvW w p c col q A cap WS0.any WS0.last [] [] (.pointer none)∧∀ k,col k≠0→base≤k:=by
 obtain⟨⟨q,A,cap,h⟩,hz⟩:=h
 exact⟨q,A,cap,⟨h.head,fun k hk=>by have:=h.low.2 k hk;have:=h.low.1;omega,hz,h.cols,h.added,h.forg,h.evs,h.cts⟩,h.low.2⟩
theorem LvW.wq {w:World} {p:Nat} {c:Cfg} {col:Nat→Nat} {q:WP} {A:Option Addr} {cap:Nat} {any:Bool} {last:Ev} {v:Value} (h:LvW w p c col q A cap any last [] [] v):WQL w (fun k=>col k≠0) p c [] v col q A 0 cap any last :=
 ⟨h.head,h.cts,h.cols.1,fun _ hk=>hk,fun k hk=>Nat.lt_of_not_le fun hn=>hk (h.hi k hn),rfl,h.evs.sl evC_len,h.cols.2.2.2⟩
set_option maxHeartbeats 4000000 in
theorem Qkf (w:World) (p:Nat) (c:Cfg) (col:Nat→Nat) (q:WP) (A:Option Addr) (cap:Nat) (any:Bool) (last:Ev) (v:Value) (h:LvW w p c col q A cap any last [] [] v) (hg:Gl w) (e:Ev) (hm:mayB e=true) (hk11:e.kind=11) (ht:e.text.size<1000000) :
 Cal Tryz.prog 52 [.pointer (some ⟨p,0,none⟩),evV e] w fun r w'=>r = .tuple #[]∧(∃ T,WQ w' T p c [e] v∧∀ k,T k→col k≠0∨w.heap.size≤k)∧Mod (fun k=>col k≠0) w w':=by
 have hsz:=hg.size;refine Fi Tryz.func52 rfl _ rfl rfl (Hh ?_);intro b1 w1 hn1;have hb1:At w1 b1 51 (evC e):=hn1.At;have e1:=hn1.block;have s1:=hn1.size;have hg1:=hg.ext hn1.ext;have h1:=h.ext hn1.ext;have hc1:col b1=0:=h.hi b1 (by omega);have hp6:=h.cols.1;have hbp:b1≠p:=fun e=>by rw[e] at hc1;omega
 conv=>whnf
 refine Dr (.mods (fun k=>k=p)) [0,1,2,3,4,5,6,7] [8] (Hh ?_);replace h1:=h1.ext (Ext.refl w1).drew;replace hg1:=hg1.ext (Ext.refl w1).drew;replace hb1:At w1.drew b1 _ _:=hb1;have hx1:=hn1.ext.drew;generalize w1.drew=w2 at h1 hg1 hb1 hx1 ⊢;refine⟨evC e,⟨rfl,hb1.all,hbp⟩,Hh ?_⟩;refine store_ptr Tt_ok (e:=ty4) rfl h1.head rfl rfl rfl (by simp[cellsL,Value.oneCell']) fun w3 h3 ho3 => ?_
 refine⟨mod_only ho3 rfl,Hh ?_⟩;refine store_ptr Tt_ok (e:=ty51) rfl h3 rfl rfl rfl (by simp[cellsL,evC,Value.oneCell']) fun w4 h4 ho4 => ?_
 have h5:=(h1.reh ho3 (any':=true) (last':=last) h3).reh ho4 (any':=true) (last':=e) h4;have hb5:=ho4.at_ (ho3.at_ hb1 hbp) hbp;have hg5:=(hg1.only ho3 (h.low p (by omega))).only ho4 (h.low p (by omega));have hM5:Mod (fun k=>col k≠0) w w4:=(Mod.of_ext hx1).trans ((mod_only ho3 (by show col p≠0;omega)).trans (mod_only ho4 (by show col p≠0;omega)));have hz4:w4.heap.size=w2.heap.size:=by rw[ho4.size,ho3.size]
 have hz2:=hx1.size;have hlow:=h.low;have hhi:=h.hi;clear h1 h3 h4 ho3 ho4 hb1 hg1 hx1 hn1 h hg
 conv=>whnf
 refine Dr .same [0,1,2,3,4,5,6,7,8] [9] (Hh ?_);replace h5:=h5.ext (Ext.refl w4).drew;replace hg5:=hg5.ext (Ext.refl w4).drew;replace hb5:At w4.drew b1 _ _:=hb5;replace hM5:=hM5.trans (Mod.of_ext (Ext.refl w4).drew);replace hz4:w4.drew.heap.size=w2.heap.size:=hz4;generalize w4.drew=w5 at h5 hg5 hb5 hM5 hz4 ⊢;refine⟨_,h5.head.one rfl,Hh ?_⟩;refine⟨_,hb5.one rfl,Hh ?_⟩;refine⟨_,hb5.one rfl,Hh ?_⟩;refine map_update undId id_key h5.added (idOf e) _ fun w6 hm6 ho6 => ?_
 replace hm6:MapAt w6 q.ba idV (aset (venc Value.bool []) (idOf e) (.bool true)):=hm6;rw[aset_venc] at hm6;have h6:=h5.addm ho6 hm6;have hba:col q.ba=7:=h5.cols.2.1;have hb6:=ho6.at_ hb5 (fun e'=>by rw[e'] at hc1;omega);have hg6:=hg5.only ho6 (hlow q.ba (by omega));have hM6:=hM5.trans (mod_only ho6 (by show col q.ba≠0;omega));have hz6:w6.heap.size=w2.heap.size:=by rw[ho6.size,hz4]
 clear hm6 ho6 h5 hb5 hg5 hM5 hz4
 conv=>whnf
 refine Dr (.mods (fun k=>col k=9)) [0,1,2,3,4,5,6,7,8,9] [10] (Hh ?_);replace h6:=h6.ext (Ext.refl w6).drew;replace hg6:=hg6.ext (Ext.refl w6).drew;replace hb6:At w6.drew b1 _ _:=hb6;replace hM6:=hM6.trans (Mod.of_ext (Ext.refl w6).drew);replace hz6:w6.drew.heap.size=w2.heap.size:=hz6;generalize w6.drew=w7 at h6 hg6 hb6 hM6 hz6 ⊢;refine⟨_,⟨h6.head.one rfl,by rw[add_block];show ¬ col p=9;omega⟩,Hh ?_⟩;refine⟨evC e,⟨rfl,hb6.all,by show ¬ col b1=9;omega⟩,Hh ?_⟩;intro b8 w8 hn8;refine⟨Mod.of_ext hn8.ext,Hh ?_⟩;refine append_evs (l := []) (news := [e]) (h6.evs.ext hn8.ext) (sl_new evC_len hn8) (by simp) (by omega) fun A9 c9 w9 hown9 hg9 hA9 => ?_
 have hAc:∀ k,A.map (·.block)=some k→col k=9:=fun k hk=>by
  cases A with
  | none=>simp at hk
  | some a=>have:=h6.cols.2.2.2 a rfl;simp at hk;rw[hk] at this;exact this
 refine⟨mod_grown hg9 hAc,Hh ?_⟩;have hp7:=h6.head.lt;have s8:=hn8.size;have s8':=hn8.ext.size;have s9:=hg9.size;have hM79:Mod (fun k=>col k=9) w7 w9:=(Mod.of_ext hn8.ext).trans (mod_grown hg9 hAc);have hp9:At w9 p _ _:=h6.head.mod hM79 (by omega);refine store_ptr Tt_ok (e:=ty24) rfl hp9 rfl rfl rfl (by simp[cellsL,Value.oneCell']) fun w10 h10 ho10 => ?_
 have s10:=ho10.size;have hb10:At w10 b1 51 (evC e):=ho10.at_ (hb6.mod hM79 (by omega)) hbp;have hM710:Mod (fun k=>col k=9∨k=p) w7 w10:=(hM79.mono fun k _ hk => .inl hk).trans (mod_only ho10 (.inr rfl));have hM10:Mod (fun k=>col k≠0) w w10:=hM6.trans (hM710.mono fun k _ hk=>by rcases hk with hk | hk;omega;(rw[hk];omega));have hg10:Gl w10:=hg6.mod hM710 fun k hk=>hlow k (by rcases hk with hk | hk;omega;(rw[hk];omega))
 have hcts10:CtsAt w10 col c q Cts0:=h6.cts.keep fun k hk hc=>⟨hM710.block k hk (by rintro (hq | hq);omega;(rw[hq] at hc;omega)),rfl⟩
 have hAb9:∀ a,A9=some a→(col a.block=9∨w7.heap.size≤a.block)∧a.block<w10.heap.size:=fun a ha=>⟨by
  rcases hA9 with hA | hA | hA
  · exact .inl (h6.cols.2.2.2 a (hA ▸ ha))
  · rw[ha] at hA
    exact .inl (hAc _ hA.symm)
  · rw[ha] at hA
    simp at hA
    right;omega,by have:=(hown9.block ha).2;omega⟩
 have hs10:SlE w10 A9 [e]:=sl_keep (hown9.sl evC_len) fun a ha=>ho10.block _ fun hq=>by
  have:=(hAb9 a ha).1;rw[hq] at this;omega
 have h10:At w10 p 110 (wCv c A9 1 c9 true e q v):=h10;have hhi7:∀ k,w7.heap.size≤k→col k=0:=fun k hk=>hhi k (by omega)
 clear h6 hg6 hb6 hM6 hn8 hg9 hp9 ho10 hown9 hA9 hAc hM79 hM710
 conv=>whnf
 refine⟨evC e,⟨rfl,hb10.all⟩,Hh ?_⟩;refine Cal.mono (R:=fun r w'=>r = .tuple #[]∧CatAt w' (Grow (fun k=>col k=1) w10) q.pc [e]∧Mod (fun k=>col k=1) w10 w') ?_ ?_
 · refine Fi Tryz.func100 rfl _ rfl rfl (Hh ?_)
   intro b11 w11 hn11;have hb11:At w11 b11 51 (evC e):=hn11.At;have h11:=h10.ext hn11.ext;have hcat:=hcts10.cat.ext hn11.ext;have hg11:=hg10.ext hn11.ext;have s11:=hn11.ext.size
   conv=>whnf
   refine seq_cut Tt_ok (ι:=Unit) (fun _ => [(0,.pointer (some ⟨p,0,none⟩)),(3,.pointer (some ⟨b11,0,none⟩))]) (fun _ w'=>False) ?_ ?_
   · (conv=>whnf)
     refine⟨_,hb11.one rfl,Hh ?_⟩;refine seq_cut Tt_ok (ι:=Unit) (fun i => [(0,.pointer (some ⟨p,0,none⟩)),(3,.pointer (some ⟨b11,0,none⟩)),(9,.int .i64 e.kind),(10,.bool true)]) (fun i w'=>w'=w11) ?_ ?_
     · (conv=>whnf)
       refine⟨fun _ => ?_,fun hk => ?_⟩
       · (conv=>whnf)
         exact⟨(),rfl,⟨rfl,rfl,rfl,congrArg (fun b=>some (Value.bool b)) (decide_eq_true hk11),trivial⟩⟩
       · simp[hk11] at hk
     rintro _ w12 hw;replace hw:=hw.symm;subst hw
     conv=>whnf
     refine⟨fun _ => ?_,fun hh=>by cases hh⟩
     conv=>whnf
     refine Dr .same [0,1,2,3,4] [5] (Hh ?_);have hxd:Ext w11 w11.drew:=(Ext.refl w11).drew;replace hb11:=hb11.ext hxd;replace h11:=h11.ext hxd;replace hcat:=hcat.ext hxd;replace hg11:=hg11.ext hxd;have hx1d:=hn11.ext.trans hxd;generalize w11.drew=w12 at hb11 h11 hcat hg11 hx1d ⊢;refine⟨_,h11.one rfl,Hh ?_⟩;refine⟨evC e,⟨rfl,hb11.all⟩,Hh ?_⟩;refine(catApply_spec w12 _ q.pc [] hcat hg11 (fun k hk=>hlow k (by omega)) e hm (.inl hk11) ht (.inl rfl) (by simp[catRows])).mono ?_;rintro _ w13 ⟨rfl,hc13,hM13⟩
     conv=>whnf
     have s12:=hx1d.size;refine⟨rfl,hc13.keep fun k hk hs=>⟨rfl,?_⟩,(Mod.of_ext hx1d).trans hM13⟩;rcases hs with hs | hs
     · exact .inl hs
     · exact .inr (by omega)
   · rintro _ _ hF
     exact hF.elim
 rintro _ w13 ⟨rfl,hc13,hM13⟩;have s13:=hM13.size
 conv=>whnf
 have hM:=hM10.trans (hM13.mono fun k _ hk=>by omega);obtain⟨col',hcol'⟩:∃ col':Nat→Nat,∀ k,col' k=if k<w7.heap.size then col k else if k<w10.heap.size then(if A9.map (·.block)=some k then 9 else 0) else if k<w13.heap.size then 1 else 0:=⟨_,fun _=>rfl⟩
 have hold:∀ k,k<w7.heap.size→col' k=col k:=fun k hk=>by rw[hcol',if_pos hk]
 have hnz:∀ k,col' k≠0→k<w13.heap.size:=fun k hk=>by
  rw[hcol'] at hk
  split at hk
  · omega
  split at hk
  · omega
  split at hk
  · assumption
  · exact absurd rfl hk
 have hk13:∀ k,k<w10.heap.size→col k≠1→w13.heap[k]? = w10.heap[k]? := fun k hk hc=>hM13.block k hk hc
 have hcnt:countAll c.width [e]={ Cts0 with cs := [e] }:=by
  show countW c.width Cts0 e=_
  unfold countW;rw[if_pos (.inl hk11)]
  rfl
 have hkeep:∀ k,k<w10.heap.size→1≤col k∧col k≤5→col k≠1→w13.heap[k]? = w10.heap[k]? ∧ col' k=col k:=fun k hk hc hne=>⟨hk13 k hk hne,hold k (Nat.lt_of_not_le fun hn=>by have:=hhi7 k hn;omega)⟩
 refine⟨rfl,⟨fun k=>col' k≠0,⟨⟨col',q,A9,1,c9,true,e,⟨?_,?_,?_,fun _ hk=>hk,hnz,rfl,?_,?_⟩⟩,fun x hx=>by rw[List.mem_singleton] at hx;rw[hx];exact hm,List.pairwise_singleton _ _,by simp⟩,fun k hk => ?_⟩,hM⟩
 · exact(hk13 p h10.lt (by omega)).trans h10
 · rw[hcnt]
   refine⟨hc13.keep fun k hk hs=>⟨rfl,?_⟩,hcts10.crowd.keep fun k h1 h2 => ?_,hcts10.dec.keep fun k h1 h2 => ?_,hcts10.pane.keep fun k h1 h2 => ?_,hcts10.ses.keep fun k h1 h2 => ?_⟩
   · show col' k=1
     rcases hs with hs | hs
     · rw[hold k (Nat.lt_of_not_le fun hn=>by have:=hhi7 k hn;omega)];exact hs
     · rw[hcol',if_neg (by omega),if_neg (by omega),if_pos hk]
   · obtain⟨q1,q2⟩:=hkeep k h1 (by omega) (by omega);exact⟨q1,by show col' k=2;omega⟩
   · obtain⟨q1,q2⟩:=hkeep k h1 (by omega) (by omega);exact⟨q1,by show col' k=3;omega⟩
   · obtain⟨q1,q2⟩:=hkeep k h1 (by omega) (by omega);exact⟨q1,by show col' k=4;omega⟩
   · obtain⟨q1,q2⟩:=hkeep k h1 (by omega) (by omega);exact⟨q1,by show col' k=5;omega⟩
 · rw[hold p (by omega)];exact hp6
 · exact sl_keep hs10 fun a ha=>hk13 _ (hAb9 a ha).2 (by
    rcases (hAb9 a ha).1 with hq | hq
    · omega
    · have:=hhi7 _ hq;omega)
 · intro a ha
   rcases (hAb9 a ha).1 with hq | hq
   · rw[hold _ (Nat.lt_of_not_le fun hn=>by have:=hhi7 _ hn;omega)];exact hq
   · rw[hcol',if_neg (by omega),if_pos (hAb9 a ha).2,ha];simp
 · have hk:col' k≠0:=hk
   by_cases hlt:k<w7.heap.size
   · rw[hold k hlt] at hk;exact .inl hk
   · right;omega
def LvT (p:Nat) (c:Cfg) (col:Nat→Nat) (q:WP) (A:Option Addr) (cap:Nat) (last:Ev) (T:Nat→Prop) (w:World):Prop:=∃ v,LvW w p c col q A cap false last [] [] v∧(∀ k,col k≠0→T k)∧(∀ k,T k→k<w.heap.size)∧Qrd w T (fun k=>col k≠0) p c [] v
section
variable {p:Nat} {c:Cfg} {col:Nat→Nat} {q:WP} {A:Option Addr} {cap:Nat} {last:Ev}
theorem LvT.keep {T:Nat→Prop} {w w':World} (h:LvT p c col q A cap last T w) (hx:∀ k,T k→w'.heap[k]? = w.heap[k]?):LvT p c col q A cap last T w':=by
 obtain⟨v,hL,h1,h2,h3⟩:=h;have hk:∀ k,col k≠0→w'.heap[k]? = w.heap[k]? := fun k hk=>hx k (h1 k hk)
 have hlt:∀ k,T k→k<w'.heap.size:=fun k hk=>lt_keep (h2 k hk) (hx k hk)
 refine⟨v,⟨(hk p (by rw[hL.cols.1];decide)).trans hL.head,hL.low,fun k hn=>Classical.byContradiction fun hc => ?_,hL.cols,hL.added.keep (hk _ (by rw[hL.cols.2.1];decide)),hL.forg.keep (hk _ (by rw[hL.cols.2.2.1];decide)),hL.evs.keep fun a ha=>hk _ (by rw[hL.cols.2.2.2 a ha];decide),hL.cts.keep fun k hl hc=>⟨hk k (by omega),rfl⟩⟩,h1,hlt,?_⟩
 · have:=hlt k (h1 k hc);omega
 · rcases h3 with h4 | ⟨o,t,sh,h5,h6,h7,h8,h9⟩
   · exact .inl h4
   · exact .inr ⟨o,t,sh,h5,h6,h7,(hx o h6).trans h8,h9.keep fun k _ hk=>⟨hx k hk.1,hk⟩⟩
theorem LvW.lt {w:World} {any:Bool} {ad:List (IK×Bool)} {es:List Ev} {v:Value} (h:LvW w p c col q A cap any last ad es v):∀ k,col k≠0→k<w.heap.size:=fun k hk=>Nat.lt_of_not_le fun hn=>hk (h.hi k hn)
set_option maxHeartbeats 1000000 in
theorem Qgt {T:Nat→Prop} {w:World} (h:LvT p c col q A cap last T w) (hok:Qq8 c []) :
 Cal Tryz.prog 38 [.pointer (some ⟨p,0,none⟩)] w fun r w'=>∃ pp T',r = .pointer (some ⟨pp,0,none⟩)∧LvT p c col q A cap last T' w'∧(∀ k,T' k→T k∨w.heap.size≤k)∧Mod T w w'∧¬ T' pp∧∃ R,Q8 w' R pp (Qax c []):=by
 obtain⟨v,hQ,hT0,hTl,hPr⟩:=h;have hcp:col p≠0:=by rw[hQ.cols.1];decide
 refine Fi Tryz.func38 rfl _ rfl rfl (Hh ?_)
 refine seq_cut Tt_ok (ι:=Nat×Nat×Bool) (fun _ => [(0,.pointer (some ⟨p,0,none⟩))])
  (fun q' w'=>∃ T1:Nat→Prop,LvW w' p c col q A cap false last [] [] (.pointer (some ⟨q'.1,0,none⟩))∧T1 q'.1∧¬ col q'.1≠0∧At w' q'.1 224 [.pointer (some ⟨q'.2.1,0,none⟩),.bool q'.2.2]∧TabAt w' (fun k=>T1 k∧k≠q'.1∧¬ col k≠0) q'.2.1 (Qax c [])∧(∀ k,col k≠0→T1 k)∧(∀ k,T1 k→k<w'.heap.size)∧(∀ k,T1 k→T k∨w.heap.size≤k)∧Mod T w w') ?_ ?_
 · have hs:=hQ.wq.cts.ses
   rw[(Qw c.width []).2.2] at hs
   conv=>whnf
   refine⟨_,hQ.head.one rfl,Hh ?_⟩;rcases hPr with rfl | ⟨o,t,sh,rfl,hTo,hTo0,hoat,hTab⟩
   · refine⟨_,eqRun_ptr_nil' undPP _ _ _,Hh ?_⟩
     constructor
     · intro _
       conv=>whnf
       refine⟨_,hQ.head.one rfl,Hh ?_⟩;refine(Qey w _ q.ps _ _ hs (Qh2 _) hok.ses).mono ?_;rintro _ w1 ⟨A1,c1,T1,rfl,hown1,hsn1,hx1⟩;conv=>whnf
       refine(Qcv w1 A1 c1 T1 (Qax c []) w.heap.size _ (hown1.sl Qam) hsn1 hok.sets (by have:=hok.len;omega)).mono ?_;rintro _ w2 ⟨o,t,rfl,hog,hoat,hTab,hx2⟩;conv=>whnf
       have hx02:=hx1.trans hx2;have hL2:=hQ.ext hx02;refine store_ptr Tt_ok (e:=ty89) rfl hL2.head rfl rfl rfl (by simp[cellsL,Value.oneCell']) fun w3 h3 ho3 => ?_
       have hL3:=hL2.reh ho3 (any':=false) (last':=last) (v' := .pointer (some ⟨o,0,none⟩)) h3;have s1:=hx1.size;have s2:=hx2.size;have s3:=ho3.size;have hpl:=hQ.head.lt;have hol:=hoat.lt
       conv=>whnf
       refine⟨(o,t,false),⟨fun k=>col k≠0∨(w.heap.size≤k∧k<w3.heap.size),hL3,.inr ⟨by omega,by omega⟩,fun hk=>by have:=hQ.lt _ hk;omega,(ho3.block o (by omega)).trans hoat,hTab.keep fun k hk hs=>⟨ho3.block k (by omega),.inr ⟨by omega,by omega⟩,hs.2.1,fun hk0=>by have:=hQ.lt _ hk0;omega⟩,fun k hk => .inl hk,fun k hk => ?_,fun k hk => ?_,(Mod.of_ext hx02).trans (mod_only ho3 (hT0 p hcp))⟩,Rr⟩
       · rcases hk with hk | hk
         · have:=hQ.lt _ hk;omega
         · exact hk.2
       · rcases hk with hk | hk
         · exact .inl (hT0 k hk)
         · exact .inr hk.1
     · intro hh;cases hh
   · refine⟨_,eqRun_ptr_nil' undPP _ _ _,Hh ?_⟩
     constructor
     · intro hh;cases hh
     · intro _
       conv=>whnf
       exact⟨(o,t,sh),⟨T,hQ,hTo,hTo0,hoat,hTab,hT0,hTl,fun k hk => .inl hk,Mod.refl _ _⟩,Rr⟩
 rintro ⟨o,t,sh⟩ w1 ⟨T1,hQ1,hTo,hTo0,hoat,hTab,hT01,hTl1,hTn,hM1⟩;simp only at hQ1 hTo hTo0 hoat hTab;have s1:=hM1.size
 conv=>whnf
 refine(pairsNew_spec w1).mono ?_;rintro _ w2 ⟨a,ta,c1,c2,rfl,hag,htag,haat,htaat,hn1,hn2,hx2⟩;conv=>whnf
 have hQ2:=hQ1.ext hx2;refine⟨_,hQ2.head.one rfl,Hh ?_⟩;have hol:=hTl1 o hTo;refine(merge0_spec w2 a o ta t c1 c2 false sh (by omega) haat htaat hn1 (hoat.ext hx2)).mono ?_;rintro _ w3 ⟨rfl,ha3,ho3,hM3⟩;conv=>whnf
 have hTaw:∀ k,T1 k→k≠o→w3.heap[k]? = w1.heap[k]? := fun k hk hko=>by
  have hk1:=hTl1 k hk;have hs2:=hx2.size;refine(hM3.block k (by omega) ?_).trans (hx2.block k hk1);rintro (e | e)
  · omega
  · exact hko e
 have hTab3:TabAt w3 (fun k=>T1 k∧k≠o∧¬ col k≠0) t (Qax c []):=hTab.keep fun k _ hk=>⟨hTaw k hk.1 hk.2.1,hk⟩
 have s3:=hM3.size;have s2:=hx2.size;refine⟨a,T1,rfl,⟨_,hQ1.keep (fun k _ hk=>hTaw k (hT01 k hk) (fun e=>hTo0 (e ▸ hk))) (by omega),hT01,fun k hk=>by have:=hTl1 k hk;omega,.inr ⟨o,t,true,rfl,hTo,hTo0,ho3,hTab3⟩⟩,hTn,?_,fun hk=>by have:=hTl1 a hk;omega,fun k=>k=a∨T1 k,t,true,ha3,hTab3.keep fun k _ hk=>⟨rfl,.inr hk.1,fun e=>by have:=hTl1 k hk.1;omega⟩,.inl rfl⟩;refine mod_trans_grow hM1 ((Mod.of_ext hx2).trans (hM3.mono fun k _ hk => ?_));rcases hk with rfl | rfl
 · exact .inr (by omega)
 · exact hTn _ hTo
theorem Qqw:PSt (LvT p c col q A cap last) 0 p c [] where
 keep {T w w'} h hk:=by
  obtain⟨v,hL,h1,h2,h3⟩:=id h
  exact h.keep fun k ht=>hk k (h2 k ht) (.inl ht)
 low _:=Nat.zero_le _
 wq {T w} h:=by
  obtain⟨v,hL,_⟩:=h
  exact⟨v,_,⟨⟨col,q,A,0,cap,false,last,hL.wq⟩,by simp,by simp[Rise],by simp⟩⟩
 lt h:=by
  obtain⟨v,_,_,h2,_⟩:=h
  exact h2
 pairs h:=Qgt h (Qd5 c [] (by simp) (by simp))
end
set_option maxHeartbeats 2000000 in
theorem Qke (w:World) (p:Nat) (c:Cfg) (col:Nat→Nat) (q:WP) (A:Option Addr) (cap:Nat) (last:Ev) (v:Value) (h:LvW w p c col q A cap false last [] [] v) (hg:Gl w) (e:Ev) (hm:mayB e=true) (hk11:e.kind=11) (ht:e.text.size<1000000) :
 Cal Tryz.prog 25 [.pointer (some ⟨p,0,none⟩),evV e] w fun r w'=>r = .int .i64 0∧(∃ T,WQ w' T p c [e] v∧∀ k,T k→col k≠0∨w.heap.size≤k)∧Mod (fun k=>col k≠0) w w':=by
 refine Fi Tryz.func25 rfl _ rfl rfl (Hh ?_);intro b3 w1 hn1;have hb:At w1 b3 51 (evC e):=hn1.At;have e1:=hn1.block;have hx:=hn1.ext;have hc3:col b3=0:=h.hi b3 (by omega);clear hn1;refine Gg ?_;refine⟨evC e,⟨rfl,hb.all⟩,Gg ?_⟩;refine(may_spec e w1 (hg.ext hx) (by omega)).mono ?_;rintro _ w2 ⟨rfl,hx2⟩;rw[hm];replace hb:=hb.ext hx2;replace hx:=hx.trans hx2;clear hx2;refine Gg ?_;constructor
 · intro hq;simp at hq
 intro _;have hL:=h.ext hx;refine Gg ?_;refine Dr .same [0,1,2,3,4,5,6,7,8,9] [10,11,12,13] (Hh ?_);have hxd:Ext w2 w2.drew:=(Ext.refl w2).drew;replace hL:=hL.ext hxd;replace hb:=hb.ext hxd;replace hx:=hx.trans hxd;generalize w2.drew=w3 at hL hb hx ⊢;clear hxd;refine⟨_,hL.head.one rfl,Hh ?_⟩;refine⟨evC e,fun _=>⟨rfl,hb.all⟩,Hh ?_⟩;refine⟨evC last,fun _=>⟨rfl,At.sub (pre:=(wCv c A 0 cap false last q v).take 8) (post:=(wCv c A 0 cap false last q v).drop 16) hL.head⟩,Hh ?_⟩;refine⟨Unit,fun _=>(.int .i64 (cmpE e last)),fun _ w'=>Ext w3 w',(),fun hg=>((compare_spec e last w3)).mono fun r w' h=>⟨(),h.1,h.2⟩,?_⟩;intro _ w4 h2
 have hx4:Ext w3 w4:=by
  rcases h2 with⟨_,h⟩ | ⟨_,h⟩
  · exact h
  · rw[h];exact Ext.refl _
 clear h2
 conv=>whnf
 replace hL:=hL.ext hx4;replace hb:=hb.ext hx4;replace hx:=hx.trans hx4;clear hx4;refine Gg ?_;constructor
 · intro hq;simp at hq
 intro _;refine Gg ?_;refine Dr .same [0,1,2,3,4,5,6,7,8,9,10] [] (Hh ?_);have hxd:Ext w4 w4.drew:=(Ext.refl w4).drew;replace hL:=hL.ext hxd;replace hb:=hb.ext hxd;replace hx:=hx.trans hxd;generalize w4.drew=w5 at hL hb hx ⊢;clear hxd;refine⟨_,hL.head.one rfl,Hh ?_⟩;refine⟨_,hb.one rfl,Hh ?_⟩;refine⟨_,hb.one rfl,Hh ?_⟩;have hlk:=map_look undId id_key (e:=ty4) ty4_ok (cl := .same) kept_same hL.added (idOf e);rw[show ty4.zero=Value.bool false from rfl,getD_venc] at hlk;refine⟨_,hlk,Gg ?_⟩;constructor
 · intro hq;simp[alook] at hq
 intro _;refine Gg ?_;refine Dr .same [0,1,2,3,4,5,6,7,8,9,10,11,12] [] (Hh ?_);have hxd:Ext w5 w5.drew:=(Ext.refl w5).drew;replace hL:=hL.ext hxd;replace hb:=hb.ext hxd;replace hx:=hx.trans hxd;generalize w5.drew=w6 at hL hb hx ⊢;clear hxd hlk;refine⟨_,hL.head.one rfl,Hh ?_⟩;refine⟨_,hb.one rfl,Hh ?_⟩;have hlk:=map_look undS1 (key_string undStr) (e:=ty4) ty4_ok (cl := .same) kept_same hL.forg e.person;rw[show ty4.zero=Value.bool false from rfl,getD_venc] at hlk;refine⟨_,hlk,Gg ?_⟩;refine⟨.int .i64 e.kind,fun _=>hb.one rfl,Gg ?_⟩;constructor
 · intro hq;simp[alook] at hq
 intro _;clear hlk;refine Gg ?_;refine⟨_,hL.head.one rfl,Hh ?_⟩;refine Gg ?_;constructor
 · intro hq;simp at hq
 intro _;refine Gg ?_;refine⟨evC e,⟨rfl,hb.all⟩,Gg ?_⟩;refine(Qkf w6 p c col q A cap false last v hL (hg.ext hx) e hm hk11 ht).mono ?_;rintro _ w7 ⟨rfl,⟨T,hQ,hT⟩,hM7⟩;have s6:=hx.size;have hb7:=hb.mod hM7 (by simp[hc3]);refine Gg ?_;refine⟨_,hb7.one rfl,Hh ?_⟩;refine Gg ?_;constructor
 · intro hk
   have hk:e.kind=14:=by simpa using hk
   omega
 · intro _
   refine Gg ?_
   exact⟨rfl,⟨T,hQ,fun k hk=>(hT k hk).imp id fun h=>by omega⟩,(Mod.of_ext hx).trans hM7⟩
theorem Qld (c:Cfg) (person:ByteArray) (now limit:Int):Xc c [] person now limit = []:=List.eq_nil_iff_forall_not_mem.2 fun x hx=>by
 have:=(Qde (z := []) (by simp) hx).2
 simp at this
def lvE:Ev:=⟨⟨#[115]⟩,1,5,11,⟨#[]⟩,⟨#[120]⟩,0,⟨#[109,59]⟩⟩
theorem Qpp:Qc Qoy [lvE] ⟨#[112]⟩ 6 (4:Nat) 9 = [⟨#[120]⟩]:=by decide +kernel
set_option maxHeartbeats 2000000 in
theorem Xr (w:World) (hg0:Gl w):Cal Tryz.prog 9 [] w fun r w'=>r = .bool true∧Ext w w':=by
 have hsz:=hg0.size;have hnm:Qdo 2=⟨#[107,105,110]⟩:=by decide
 refine Fi Tryz.func9 rfl _ rfl rfl (Hh ?_);refine(worldNew_spec Qoy w hsz (by rfl)).mono ?_;rintro _ w1 ⟨p,rfl,hW,hx⟩;obtain⟨col,hC⟩:=hW.col;obtain⟨q,A,cap,hL,hlo⟩:=hC.lv;have hL:LvW w1 p Qoy col q A cap false zeroEv [] [] (.pointer none):=hL;clear hW hC;refine Gg ?_;refine⟨_,fun _=>eqRun_ptr_nil' Qcm _ _ _,Gg ?_⟩;have hn2:=Qdy 2 w1;rw[hnm] at hn2;refine⟨Unit,fun _=>(.string ⟨#[107,105,110]⟩),fun _ w'=>Ext w1 w',(),fun hg=>(hn2).mono fun r w' h=>⟨(),h.1,h.2⟩,?_⟩;intro _ w2 h2
 have hx2:Ext w1 w2:=by
  rcases h2 with⟨_,h⟩ | ⟨_,h⟩
  · exact h
  · rw[h];exact Ext.refl _
 clear h2
 conv=>whnf
 have hx02:=hx.trans hx2;have hLT2:LvT p Qoy col q A cap zeroEv (fun k=>col k≠0) w2:=⟨_,hL.ext hx2,fun _ h=>h,(hL.ext hx2).lt,.inl rfl⟩;have hlow:=hL.low;refine⟨Option Addr×Nat×(Nat→Prop),fun i => .slice i.1 0 i.2.1,fun i w'=>LvT p Qoy col q A cap zeroEv i.2.2 w'∧(∀ k,i.2.2 k→col k≠0∨w2.heap.size≤k)∧Mod (fun k=>col k≠0) w2 w',(none,0,fun _=>False),fun _=>(Qaa Qqw hLT2 ⟨by rfl,by simp⟩ (Qd5 Qoy [] (by simp) (by simp)).len ⟨#[112]⟩ 5 9 (by decide)).mono fun r w' hh => ?_,?_⟩
 · obtain⟨A',cp,H,T',h1,h2,h3,h4,h5⟩:=hh
   have hH:H = []:=by
    have:=h2.keys;rw[Qld] at this
    exact List.map_eq_nil_iff.1 this
   subst hH
   exact⟨(A',cp,T'),h1,h3,h4,h5⟩
 rintro ⟨A',cp,T'⟩ w3 hh
 have hh:LvT p Qoy col q A cap zeroEv T' w3∧(∀ k,T' k→col k≠0∨w2.heap.size≤k)∧Mod (fun k=>col k≠0) w2 w3:=by
  rcases hh with⟨_,hh⟩ | ⟨hg,_⟩
  · exact hh
  · exact(hg ⟨by simp,trivial⟩).elim
 obtain⟨⟨v,hL3,_,_,_⟩,_,hM3⟩:=hh;have hx03:=Qo hx02 hlo hM3;have hg3:=(hg0.ext hx02).mod hM3 fun k hk=>hlow k hk
 clear hLT2 hM3 hx02 hx hn2 hL hx2;refine Gg ?_;constructor
 · intro h;simp at h
 intro _;refine Gg ?_;refine(Qke w3 p Qoy col q A cap zeroEv v hL3 hg3 lvE (by decide +kernel) rfl (by decide)).mono ?_;rintro _ w4 ⟨rfl,⟨T4,hQ4,_⟩,hM4⟩;have hx04:=Qo hx03 hlo hM4;refine Gg ?_;refine(Qmg hQ4 ⟨by rfl,by simp⟩ 4 (by decide) (by decide) ⟨#[112]⟩ 6 9 ⟨by decide,by decide⟩ (by decide)).mono ?_;rintro _ w5 ⟨A5,c5,rfl,hs5,hx5⟩;rw[Qpp] at hs5 ⊢;obtain⟨a,hA,hc⟩:=hs5.get (show 0 < [(⟨#[120]⟩:ByteArray)].length by decide);refine Gg ?_;refine⟨a,fun _=>⟨hA,by decide,by decide⟩,Gg ?_⟩;refine⟨.string ⟨#[120]⟩,fun _=>cells_head hc,Gg ?_⟩
 exact⟨by simp,hx04.trans hx5⟩
end Go.Proofs.YtagijlhciclafaaGreatDoor
