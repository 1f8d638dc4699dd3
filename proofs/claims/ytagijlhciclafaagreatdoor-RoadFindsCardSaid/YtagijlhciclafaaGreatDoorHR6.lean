import Derived.Test.YtagijlhciclafaaGreatDoorHR5
/- The law RoadFinds: the walk (printed by tools/mk_r6.py). -/
set_option linter.unusedVariables false
set_option linter.unusedSimpArgs false
namespace Go.Proofs.YtagijlhciclafaaGreatDoor
open Go.Se Go.RowKit
theorem Qqx (c:Cfg) (z:List Ev) (person:ByteArray) (now limit:Int) (k:Nat) (x:ByteArray):(Qb9 c z person now limit k x).Pairwise (· < ·):=by
 unfold Qb9;rw[List.pairwise_map]
 exact(List.pairwise_lt_range.sublist List.filter_sublist).imp fun h=>by omega
theorem Qpu {c:Cfg} {z:List Ev} {person:ByteArray} {now limit:Int} {k:Nat} (hk:k<6) {x:ByteArray} (h:x∈Qc c z person now (k:Nat) limit):(k:Int)∈Qb9 c z person now limit 6 x:=by
 unfold Qb9
 exact List.mem_map.2 ⟨k,List.mem_filter.2 ⟨List.mem_range.2 hk,by simpa using h⟩,rfl⟩
theorem Qlc {c:Cfg} {z:List Ev} {person:ByteArray} {now limit:Int} {k:Nat} (hk:k<6) {x:ByteArray} (h:x∈Qc c z person now (k:Nat) limit):x∈Xc c z person now limit:=by
 unfold Xc;rw[Qg,List.mem_flatMap]
 exact⟨k,List.mem_range.2 hk,h⟩
theorem Qop {L:List ByteArray} {f g:ByteArray→Nat} {q:ByteArray→Bool} (h:∀ x,f x=g x+if q x=true then 1 else 0):(L.map f).sum=(L.map g).sum+(L.filter q).length:=by
 induction L with
 | nil=>rfl
 | cons x L ih =>
   rw[List.map_cons,List.map_cons,List.sum_cons,List.sum_cons,ih,h x]
   by_cases hq:q x=true
   · rw[if_pos hq,List.filter_cons_of_pos hq,List.length_cons];omega
   · rw[if_neg hq,List.filter_cons_of_neg hq];omega
theorem filter_all {K Q:List ByteArray} (hK:K.Nodup) (hQ:Q.Nodup) (h:∀ x∈Q,x∈K):(K.filter fun x=>decide (x∈Q)).length=Q.length :=
 ((List.perm_ext_iff_of_nodup (hK.sublist List.filter_sublist) hQ).2 fun x=>by
   rw[List.mem_filter,decide_eq_true_eq]
   exact⟨fun q=>q.2,fun q=>⟨h x q,q⟩⟩).length_eq
theorem Qnb {c:Cfg} {z:List Ev} (hS:(Qax c z).length<1000) (person:ByteArray) (now limit:Int):∀ k:Nat,k≤6→((Xc c z person now limit).map fun x=>(Qb9 c z person now limit k x).length).sum=((List.range k).map fun r:Nat=>(Qc c z person now (r:Nat) limit).length).sum
 | 0,_=>by
   have:∀ K:List ByteArray,(K.map fun x=>(Qb9 c z person now limit 0 x).length).sum=0:=fun K=>by
    induction K with
    | nil=>rfl
    | cons x K ih=>rw[List.map_cons,List.sum_cons,ih];simp[Qb9]
   rw[this];rfl
 | k+1,hk=>by
   have ih:=Qnb hS person now limit k (by omega);rw[Qop (g:=fun x=>(Qb9 c z person now limit k x).length) (q:=fun x=>decide (x∈Qc c z person now (k:Nat) limit)),ih,filter_all (K:=Xc c z person now limit) (Q7 _) (Qbl hS person now _ limit) fun x hx=>Qlc (by omega) hx,List.range_succ,List.map_append,List.sum_append]
   · simp
   · intro x
     rw[Qg0]
     by_cases h:x∈Qc c z person now (k:Nat) limit
     · rw[if_pos h,if_pos (by simpa using h),List.length_append];rfl
     · rw[if_neg h,if_neg (by simpa using h),Nat.add_zero]
theorem Qoq {α:Type} (f:α→Nat) {H:List α} {i:Nat} (h:i<H.length):((H.take (i+1)).map f).sum=((H.take i).map f).sum+f H[i]:=by
 rw[List.take_succ_eq_append_getElem h,List.map_append,List.sum_append]
 simp
set_option maxHeartbeats 8000000 in
theorem roadFinds_spec (c:Cfg) (l:List Ev) (person:ByteArray) (now limit:Int) (A:Option Addr) (cap:Nat) (w:World) (hg0:Gl w) (hs:SlE w A l) (hl:-9223372036854775808≤limit∧limit≤9223372036854775807) :
 Cal Tryz.prog 4 [cfgV c,.slice A l.length cap,.string person,.int .i64 now,.int .i64 limit] w fun r w'=>r = .bool true∧Ext w w':=by
 refine Fi Tryz.func4 rfl _ rfl rfl (Hh ?_);intro b1 w1 hn1;refine Gg ?_;have h1:At w1 b1 23 (cfgC c):=hn1.At;have hx:=hn1.ext;clear hn1;refine(Xr w1 (hg0.ext hx)).mono ?_;rintro _ w2 ⟨rfl,hx2⟩;replace h1:=h1.ext hx2;replace hx:=hx.trans hx2;clear hx2;refine Gg ?_;constructor
 · intro h;simp at h
 intro _;refine Gg ?_;refine⟨cfgC c,⟨rfl,h1.all⟩,Gg ?_⟩;have z2:=hx.size;refine(Xt c l A cap w2 (hg0.ext hx) (hs.ext hx)).mono ?_;rintro r0 w3 ⟨hx3,hr3⟩;replace hx:=hx.trans hx3;clear hx3 h1;rcases hr3 with⟨_,rfl⟩ | ⟨hok,p,T,rfl,hW,hT⟩
 · refine Gg ?_
   refine⟨_,eqRun_ptr_nil' Qcm _ _ _,Gg ?_⟩;constructor
   · intro _
     refine Gg ?_
     exact⟨rfl,hx⟩
   · intro h;simp at h
 refine Gg ?_;refine⟨_,eqRun_ptr_nil' Qcm _ _ _,Gg ?_⟩;constructor
 · intro _
   refine Gg ?_
   exact⟨rfl,hx⟩
 intro _;have hsc:=Qcf hok;generalize anewL l=z at hW hsc;obtain⟨v,T0,hQ⟩:=(Q9 hsc).wq hW;have hm:=hQ.may;have hS:=(Qd5 c z hm hsc.len).len;have hzl:=hsc.len;replace hT:∀ k,T k→w.heap.size≤k:=fun k hk=>Nat.le_trans z2 (hT k hk)
 have z3:=hx.size;refine Gg ?_;refine(Qaa (Q9 hsc) hW hsc hS person now limit hl.2).mono ?_;rintro _ w4 ⟨A4,c4,H,T4,rfl,hF,hW4,hT4,hM4⟩;have hT4':∀ i,T4 i→w.heap.size≤i:=fun i hi=>(hT4 i hi).elim (hT i) fun h=>by omega
 have hx4:Ext w w4:=Qo hx hT hM4;have z4:=hx4.size;have hkeys:=hF.keys;have hup:=Qhs c z person now limit;have hcf:=Qc6 (c:=c) hm person now limit;have htot:=Qnb hS person now limit 6 (Nat.le_refl _);have hin:∀ k:Nat,k<6→∀ x∈Qc c z person now (k:Nat) limit,x∈Xc c z person now limit:=fun k hk x hx=>Qlc hk hx
 rw[← hkeys] at hup hcf htot hin;have hHl:(H.map (·.1)).length=H.length:=List.length_map _;rw[hHl] at hcf;rw[List.map_map] at htot
 have hne:∀ d∈H,1≤(Qb9 c z person now limit 6 d.1).length:=fun d hd=>by
  have h1:d.1∈Xc c z person now limit:=hkeys ▸ List.mem_map.2 ⟨d,hd,rfl⟩;have h2:=Qi2.1 h1
  exact List.length_pos_iff.2 h2
 clear hkeys hM4 hW hQ;refine Gg ?_
 refine loop_rule Tt_ok (fun(q:Nat×Nat) w'=>q.1≤H.length∧q.2≤6*q.1∧q.2=((H.take q.1).map ((fun x=>(Qb9 c z person now limit 6 x).length) ∘ (·.1))).sum∧Ext w4 w')
  (fun | (i,n) => [(2,.string person),(3,.int .i64 now),(4,.int .i64 limit),(11,.pointer (some ⟨p,0,none⟩)),(12,.slice A4 H.length c4),(13,.int .i64 (n:Nat)),(14,.int .i64 (i:Nat))]) (fun q=>H.length-q.1) (0,0) ⟨Nat.zero_le _,Nat.zero_le _,rfl,Ext.refl _⟩ Rr ?_
 rintro ⟨i,n⟩ wa ⟨hi,hn6,hn,hxa⟩;simp only at hi hn6 hn;refine Gg ?_;constructor
 · intro hlt
   have hlt:i<H.length:=by simpa using hlt
   have hst:=Qoq ((fun x=>(Qb9 c z person now limit 6 x).length) ∘ (fun d:Cd=>d.1)) hlt;rw[← hn] at hst;refine Gg ?_;refine Dr .same [0,1,2,3,4,5,6,7,8,9,10,11,12,13,14,15,16,17,18,19,20,21,22,23,24] [] (Hh ?_);have hxb:Ext w4 wa.drew:=hxa.drew;generalize wa.drew=wb at hxb ⊢;obtain⟨ax,hAx,hcx⟩:=(hF.sl.ext hxb).get hlt
   obtain⟨aj,xj,hprev⟩:∃ aj xj,0<i→A4=some aj∧CellsAt wb (aj.add ((i-1)*2)) (cdC xj)∧bLt xj.1 H[i].1=true:=by
    by_cases h0:0<i
    · obtain⟨aj,h1,h2⟩:=(hF.sl.ext hxb).get (show i-1<H.length by omega)
      refine⟨aj,H[i-1],fun _=>⟨h1,h2,?_⟩⟩;have:=List.pairwise_iff_getElem.1 hup (i-1) i (by rw[hHl];omega) (by rw[hHl];exact hlt) (by omega);rw[List.getElem_map,List.getElem_map] at this
      exact this
    · exact⟨⟨0,0,none⟩,H[i],fun h=>absurd h h0⟩
   have hpos:decide ((0:Int)<(i:Nat))=true→0<i:=fun h=>by simpa using h
   obtain⟨hr1,hr2,_⟩:=hF.row H[i] (List.getElem_mem hlt);have hne1:=hne H[i] (List.getElem_mem hlt);have hrl6:=Qfx c z person now limit 6 H[i].1;rw[show ((fun x=>(Qb9 c z person now limit 6 x).length) ∘ (fun d:Cd=>d.1)) H[i]=(Qb9 c z person now limit 6 H[i].1).length from rfl,← hr1] at hst;rw[← hr1] at hne1 hrl6;clear hr1 hr2;generalize H[i]=x at hcx hprev hst hne1 hrl6;refine⟨((i-1:Nat):Int),fun hg=>wrap_eq (by have:=hpos hg;omega) ⟨by omega,by omega⟩,Gg ?_⟩;refine⟨aj,fun hg=>⟨(hprev (hpos hg)).1,by omega,by have:=hpos hg;omega⟩,Gg ?_⟩;refine⟨.string xj.1,fun hg=>cells_at (hprev (hpos hg)).2.1 (k:=0) rfl,Gg ?_⟩;refine⟨ax,fun _=>⟨hAx,by omega,by omega⟩,Gg ?_⟩;refine⟨.string x.1,fun _=>cells_at hcx (k:=0) rfl,Gg ?_⟩;refine⟨ax,fun _=>⟨hAx,by omega,by omega⟩,Gg ?_⟩;refine⟨.slice x.2.1 x.2.2.1 x.2.2.2,fun _=>cells_at hcx (k:=1) rfl,Gg ?_⟩;refine⟨fun hq => ?_,fun _ => ?_⟩
   · exfalso
     have hq:((decide ((0:Int)<(i:Nat)) && !bLt xj.1 x.1)||decide (((x.2.2.1:Nat):Int)<1))=true:=hq;rw[Bool.or_eq_true,Bool.and_eq_true] at hq;rcases hq with⟨h1,h2⟩ | h1
     · rw[(hprev (hpos h1)).2.2] at h2
       cases h2
     · have:((x.2.2.1:Nat):Int)<1:=by simpa using h1
       omega
   refine Gg ?_;refine⟨ax,⟨hAx,by omega,by omega⟩,Gg ?_⟩;refine⟨.slice x.2.1 x.2.2.1 x.2.2.2,cells_at hcx (k:=1) rfl,Gg ?_⟩;refine⟨((n+x.2.2.1:Nat):Int),wrap_eq (by push_cast;rfl) ⟨by omega,by omega⟩,Gg ?_⟩;refine⟨_,wrap_succ (by omega),Gg ?_⟩
   exact⟨(i+1,n+x.2.2.1),by simp only;omega,⟨by simp only;omega,by simp only;omega,hst.symm,hxb⟩,Rr⟩
 intro hge;have hge:H.length≤i:=by simpa using hge
 rw[List.take_of_length_le hge] at hn;have hnH:n≤6000:=by omega
 have hn2:n=((List.range 6).map fun r:Nat=>(Qc c z person now (r:Nat) limit).length).sum:=hn.trans htot;have hWa:=hW4.ext hxa;have hMa:Mod T4 w4 wa:=Mod.of_ext hxa;have hxwa:=hx4.trans hxa;have hT4l:=hW4.lt;clear hn htot hge hn6 hi hxa;refine Gg ?_
 refine loop_rule Tt_ok (fun(q:Nat×(Nat→Prop)) w'=>q.1≤6∧((List.range q.1).map fun r:Nat=>(Qc c z person now (r:Nat) limit).length).sum≤1000*q.1∧WT w' q.2 p c z∧Mod T4 w4 w'∧(∀ i,q.2 i→T4 i∨w4.heap.size≤i)∧Ext w w')
  (fun | (k,_) => [(2,.string person),(3,.int .i64 now),(4,.int .i64 limit),(11,.pointer (some ⟨p,0,none⟩)),(12,.slice A4 H.length c4),(13,.int .i64 ((n:Int)-(((List.range k).map fun r:Nat=>(Qc c z person now (r:Nat) limit).length).sum:Nat))),(15,.int .i64 (k:Nat))]) (fun q=>6-q.1) (0,T4) ⟨Nat.zero_le _,Nat.zero_le _,hWa,hMa,fun i hi => .inl hi,hxwa⟩ ⟨rfl,rfl,rfl,rfl,rfl,congrArg (fun x:Int=>some (Value.int .i64 x)) (show (n:Int)=(n:Int)-((0:Nat):Int) by simp),rfl,trivial⟩ ?_
 clear hWa hMa hxwa;rintro ⟨k,T8⟩ w8 ⟨hk,hs8,hW8,hM8,hT8,hx8⟩;simp only at hk hs8 hW8 hT8;generalize hsk:((List.range k).map fun r:Nat=>(Qc c z person now (r:Nat) limit).length).sum=sk at hs8;refine Gg ?_;constructor
 · intro hlt
   have hlt:k<6:=by
    have:(k:Int)<6:=by simpa using hlt
    omega
   have z8:=hM8.size;refine Gg ?_;refine(Qhk hW8 hsc k person now limit hl.2).mono ?_;rintro _ w9 ⟨A9,c9,T9,rfl,hown9,_,hW9,hT9,hM9⟩;have hM49:Mod T4 w4 w9:=mod_trans_grow hM8 (hM9.mono fun i _ hi=>hT8 i hi);have hT9':∀ i,T9 i→T4 i∨w4.heap.size≤i:=fun i hi=>(hT9 i hi).elim (hT8 i) fun h => .inr (by omega)
   have hx9:Ext w w9:=Qo hx8 (fun i hi=>(hT8 i hi).elim (hT4' i) fun h=>by omega) hM9;have hs9:=hown9.sl strE_len;have hfew:=Xf hm hS person now (k:Nat) limit;have hin9:=hin k hlt;have hrm:=fun x (hx:x∈Qc c z person now (k:Nat) limit)=>Qpu hlt hx
   have hsk1:((List.range (k+1)).map fun r:Nat=>(Qc c z person now (r:Nat) limit).length).sum=sk+(Qc c z person now (k:Nat) limit).length:=by
    rw[List.range_succ,List.map_append,List.sum_append,hsk]
    simp
   generalize Qc c z person now (k:Nat) limit=K at hs9 hfew hin9 hrm hsk1 ⊢;have hsH:Sl cdC 2 w9 A4 H:=Qoi.stay hF.sl fun a ha hlt=>hM49.block _ hlt (hF.new a ha).2
   have hrow:∀ d∈H,d.2.2.1=(Qb9 c z person now limit 6 d.1).length∧SlI w9 d.2.1 (Qb9 c z person now limit 6 d.1):=fun d hd=>by
    obtain⟨h1,h2,h3⟩:=hF.row d hd
    exact⟨h1,Qpx.stay h2 fun a ha hlt=>hM49.block _ hlt (h3 a ha).2⟩
   clear hown9 hM9 hW8 hT9 hT8 hx8 hM8;refine Gg ?_;refine⟨(n:Int)-((sk+K.length:Nat):Int),wrap_eq (by push_cast;omega) ⟨by omega,by omega⟩,Gg ?_⟩
   refine loop_rule Tt_ok (fun(j:Nat) w'=>j≤K.length∧Ext w9 w')
    (fun j => [(2,.string person),(3,.int .i64 now),(4,.int .i64 limit),(11,.pointer (some ⟨p,0,none⟩)),(12,.slice A4 H.length c4),(13,.int .i64 ((n:Int)-((sk+K.length:Nat):Int))),(15,.int .i64 (k:Nat)),(16,.slice A9 K.length c9),(17,.int .i64 (j:Nat))]) (fun j=>K.length-j) 0 ⟨Nat.zero_le _,Ext.refl _⟩ Rr ?_
   rintro j w10 ⟨hj,hx10⟩;refine Gg ?_;constructor
   · intro hlt2
     have hlt2:j<K.length:=by simpa using hlt2
     have hxin:=hin9 K[j] (List.getElem_mem hlt2);have hxrm:=hrm K[j] (List.getElem_mem hlt2);refine Gg ?_
     refine loop_rule Tt_ok (fun(q:Nat×Bool) w'=>q.1≤H.length∧Ext w9 w'∧(K[j]∈(H.take q.1).map (·.1)→q.2=true))
      (fun | (i,f) => [(2,.string person),(3,.int .i64 now),(4,.int .i64 limit),(11,.pointer (some ⟨p,0,none⟩)),(12,.slice A4 H.length c4),(13,.int .i64 ((n:Int)-((sk+K.length:Nat):Int))),(15,.int .i64 (k:Nat)),(16,.slice A9 K.length c9),(17,.int .i64 (j:Nat)),(18,.bool f),(19,.int .i64 (i:Nat))]) (fun q=>H.length-q.1) (0,false) ⟨Nat.zero_le _,hx10,by simp⟩ Rr ?_
     rintro ⟨i,f⟩ w11 ⟨hi,hx11,hf⟩;simp only at hi hf;refine Gg ?_;constructor
     · intro hlt3
       have hlt3:i<H.length:=by simpa using hlt3
       have htk:∀ y,y∈(H.take (i+1)).map (·.1)→y∈(H.take i).map (·.1)∨y=H[i].1:=fun y hy=>by
        rw[List.take_succ_eq_append_getElem hlt3,List.map_append,List.mem_append] at hy
        exact hy.imp id fun h=>by simpa using h
       refine Gg ?_;refine Dr .same [0,1,2,3,4,5,6,7,8,9] [] (Hh ?_);have hx12:Ext w9 w11.drew:=hx11.drew;generalize w11.drew=w12 at hx12 ⊢;obtain⟨ax,hAx,hcx⟩:=(hsH.ext hx12).get hlt3;obtain⟨ay,hAy,hcy⟩:=(hs9.ext hx12).get hlt2;refine⟨ax,⟨hAx,by omega,by omega⟩,Gg ?_⟩;refine⟨.string H[i].1,cells_at hcx (k:=0) rfl,Gg ?_⟩;refine⟨ay,⟨hAy,by omega,by omega⟩,Gg ?_⟩;refine⟨.string K[j],cells_head hcy,Gg ?_⟩;constructor
       · intro hq
         have hq:¬ H[i].1=K[j]:=by simpa using hq
         refine Gg ?_;refine⟨_,wrap_succ (by omega),Gg ?_⟩;refine⟨(i+1,f),by simp only;omega,⟨by simp only;omega,hx12,fun hm2 => ?_⟩,Rr⟩
         exact(htk _ hm2).elim hf fun h=>absurd h.symm hq
       intro hq;have hq:H[i].1=K[j]:=by simpa using hq
       obtain⟨hr1,hr2⟩:=hrow H[i] (List.getElem_mem hlt3);have hru:=Qqx c z person now limit 6 H[i].1;have hrl6:=Qfx c z person now limit 6 H[i].1;rw[← hq] at hxrm;generalize Qb9 c z person now limit 6 H[i].1=R at hr1 hr2 hru hrl6 hxrm;refine Gg ?_
       refine loop_rule Tt_ok (fun(q:Nat×Bool) w'=>q.1≤R.length∧Ext w9 w'∧((k:Int)∈R.take q.1→q.2=true))
        (fun | (m,f) => [(2,.string person),(3,.int .i64 now),(4,.int .i64 limit),(11,.pointer (some ⟨p,0,none⟩)),(12,.slice A4 H.length c4),(13,.int .i64 ((n:Int)-((sk+K.length:Nat):Int))),(15,.int .i64 (k:Nat)),(16,.slice A9 K.length c9),(17,.int .i64 (j:Nat)),(18,.bool f),(19,.int .i64 (i:Nat)),(20,.int .i64 (m:Nat))]) (fun q=>R.length-q.1) (0,f) ⟨Nat.zero_le _,hx12,by simp⟩ Rr ?_
       rintro ⟨m,g⟩ w13 ⟨hm2,hx13,hg⟩;simp only at hm2 hg;obtain⟨ax3,hAx3,hcx3⟩:=(hsH.ext hx13).get hlt3;generalize hd:H[i]=d at hcx3 hr1 hr2;refine Gg ?_;refine⟨ax3,⟨hAx3,by omega,by omega⟩,Gg ?_⟩;refine⟨.slice d.2.1 d.2.2.1 d.2.2.2,cells_at hcx3 (k:=1) rfl,Gg ?_⟩;constructor
       · intro hlt4
         have hlt4:m<R.length:=by
          have:(m:Int)<((d.2.2.1:Nat):Int):=by simpa using hlt4
          omega
         obtain⟨ar,hAr,hcr⟩:=(hr2.ext hx13).get hlt4
         have htm:∀ y,y∈R.take (m+1)→y∈R.take m∨y=R[m]:=fun y hy=>by
          rw[List.take_succ_eq_append_getElem hlt4,List.mem_append] at hy
          exact hy.imp id fun h=>by simpa using h
         refine Gg ?_;refine⟨ax3,⟨hAx3,by omega,by omega⟩,Gg ?_⟩;refine⟨.slice d.2.1 d.2.2.1 d.2.2.2,cells_at hcx3 (k:=1) rfl,Gg ?_⟩;refine⟨ar,⟨hAr,by omega,by omega⟩,Gg ?_⟩;refine⟨.int .i64 R[m],cells_head hcr,Gg ?_⟩;constructor
         · intro hq2
           refine Gg ?_;refine Dr .same [0,1,2,3,4,5,6,7,8,9,10,11,12,13,14,15,16,17,18,19,20,21] [] (Hh ?_);have hx14:Ext w9 w13.drew:=hx13.drew;generalize w13.drew=w14 at hx14 ⊢;obtain⟨ax4,hAx4,hcx4⟩:=(hsH.ext hx14).get hlt3;rw[hd] at hcx4;obtain⟨ar4,hAr4,hcr4⟩:=(hr2.ext hx14).get hlt4
           obtain⟨aq,xq,hprev⟩:∃ aq xq,0<m→d.2.1=some aq∧CellsAt w14 (aq.add ((m-1)*1)) (intC xq)∧xq<R[m]:=by
            by_cases h0:0<m
            · obtain⟨aq,h1,h2⟩:=(hr2.ext hx14).get (show m-1<R.length by omega)
              exact⟨aq,R[m-1],fun _=>⟨h1,h2,List.pairwise_iff_getElem.1 hru (m-1) m (by omega) hlt4 (by omega)⟩⟩
            · exact⟨⟨0,0,none⟩,0,fun h=>absurd h h0⟩
           have hpos:decide ((0:Int)<(m:Nat))=true→0<m:=fun h=>by simpa using h
           refine⟨ax4,fun _=>⟨hAx4,by omega,by omega⟩,Gg ?_⟩;refine⟨.slice d.2.1 d.2.2.1 d.2.2.2,fun _=>cells_at hcx4 (k:=1) rfl,Gg ?_⟩;refine⟨((m-1:Nat):Int),fun hg2=>wrap_eq (by have:=hpos hg2;omega) ⟨by omega,by omega⟩,Gg ?_⟩;refine⟨aq,fun hg2=>⟨(hprev (hpos hg2)).1,by omega,by have:=hpos hg2;omega⟩,Gg ?_⟩;refine⟨.int .i64 xq,fun hg2=>cells_head (hprev (hpos hg2)).2.1,Gg ?_⟩;refine⟨ax4,fun _=>⟨hAx4,by omega,by omega⟩,Gg ?_⟩;refine⟨.slice d.2.1 d.2.2.1 d.2.2.2,fun _=>cells_at hcx4 (k:=1) rfl,Gg ?_⟩;refine⟨ar4,fun _=>⟨hAr4,by omega,by omega⟩,Gg ?_⟩;refine⟨.int .i64 R[m],fun _=>cells_head hcr4,Gg ?_⟩;refine⟨fun hq3 => ?_,fun _ => ?_⟩
           · exfalso
             have hq3:(decide ((0:Int)<(m:Nat))&&decide (R[m]≤xq))=true:=hq3;rw[Bool.and_eq_true] at hq3;have h1:=(hprev (hpos hq3.1)).2.2;have h2:R[m]≤xq:=by simpa using hq3.2
             omega
           refine Gg ?_;refine⟨_,wrap_succ (by omega),Gg ?_⟩
           exact⟨(m+1,true),by simp only;omega,⟨by simp only;omega,hx14,fun _=>rfl⟩,Rr⟩
         · intro hq2
           have hq2:¬ R[m]=(k:Int):=by simpa using hq2
           refine Gg ?_;refine Dr .same [0,1,2,3,4,5,6,7,8,9,10,11,12,13,14,15,16,17,18,19,20,21] [] (Hh ?_);have hx14:Ext w9 w13.drew:=hx13.drew;generalize w13.drew=w14 at hx14 ⊢;obtain⟨ax4,hAx4,hcx4⟩:=(hsH.ext hx14).get hlt3;rw[hd] at hcx4;obtain⟨ar4,hAr4,hcr4⟩:=(hr2.ext hx14).get hlt4
           obtain⟨aq,xq,hprev⟩:∃ aq xq,0<m→d.2.1=some aq∧CellsAt w14 (aq.add ((m-1)*1)) (intC xq)∧xq<R[m]:=by
            by_cases h0:0<m
            · obtain⟨aq,h1,h2⟩:=(hr2.ext hx14).get (show m-1<R.length by omega)
              exact⟨aq,R[m-1],fun _=>⟨h1,h2,List.pairwise_iff_getElem.1 hru (m-1) m (by omega) hlt4 (by omega)⟩⟩
            · exact⟨⟨0,0,none⟩,0,fun h=>absurd h h0⟩
           have hpos:decide ((0:Int)<(m:Nat))=true→0<m:=fun h=>by simpa using h
           refine⟨ax4,fun _=>⟨hAx4,by omega,by omega⟩,Gg ?_⟩;refine⟨.slice d.2.1 d.2.2.1 d.2.2.2,fun _=>cells_at hcx4 (k:=1) rfl,Gg ?_⟩;refine⟨((m-1:Nat):Int),fun hg2=>wrap_eq (by have:=hpos hg2;omega) ⟨by omega,by omega⟩,Gg ?_⟩;refine⟨aq,fun hg2=>⟨(hprev (hpos hg2)).1,by omega,by have:=hpos hg2;omega⟩,Gg ?_⟩;refine⟨.int .i64 xq,fun hg2=>cells_head (hprev (hpos hg2)).2.1,Gg ?_⟩;refine⟨ax4,fun _=>⟨hAx4,by omega,by omega⟩,Gg ?_⟩;refine⟨.slice d.2.1 d.2.2.1 d.2.2.2,fun _=>cells_at hcx4 (k:=1) rfl,Gg ?_⟩;refine⟨ar4,fun _=>⟨hAr4,by omega,by omega⟩,Gg ?_⟩;refine⟨.int .i64 R[m],fun _=>cells_head hcr4,Gg ?_⟩;refine⟨fun hq3 => ?_,fun _ => ?_⟩
           · exfalso
             have hq3:(decide ((0:Int)<(m:Nat))&&decide (R[m]≤xq))=true:=hq3;rw[Bool.and_eq_true] at hq3;have h1:=(hprev (hpos hq3.1)).2.2;have h2:R[m]≤xq:=by simpa using hq3.2
             omega
           refine Gg ?_;refine⟨_,wrap_succ (by omega),Gg ?_⟩
           exact⟨(m+1,g),by simp only;omega,⟨by simp only;omega,hx14,fun hy=>(htm _ hy).elim hg fun h=>absurd h.symm hq2⟩,Rr⟩
       intro hge4
       have hge4:R.length≤m:=by
        have:¬ (m:Int)<((d.2.2.1:Nat):Int):=by simpa using hge4
        omega
       rw[List.take_of_length_le hge4] at hg;have hgt:=hg hxrm;refine Gg ?_;refine⟨_,wrap_succ (by omega),Gg ?_⟩
       exact⟨(i+1,g),by simp only;omega,⟨by simp only;omega,hx13,fun _=>hgt⟩,Rr⟩
     intro hge3;have hge3:H.length≤i:=by simpa using hge3
     rw[List.take_of_length_le hge3] at hf;have hft:f=true:=hf hxin;subst hft;refine Gg ?_;constructor
     · intro hh;simp at hh
     intro _;refine Gg ?_;refine⟨_,wrap_succ (by omega),Gg ?_⟩
     exact⟨j+1,by omega,⟨by omega,hx11⟩,Rr⟩
   intro _;refine Gg ?_;refine⟨_,wrap_succ (by omega),Gg ?_⟩;refine⟨(k+1,T9),by simp only;omega,⟨by simp only;omega,by simp only;rw[hsk1];omega,hW9.ext hx10,hM49.trans (Mod.of_ext hx10),hT9',hx9.trans hx10⟩,⟨rfl,rfl,rfl,rfl,rfl,by rw[hsk1];rfl,rfl,trivial⟩⟩
 intro hge
 have hge:k=6:=by
  have:¬ (k:Int)<6:=by simpa using hge
  omega
 subst hge;have hz:n=sk:=hn2.trans hsk;refine Gg ?_;refine⟨?_,hx8⟩;rw[hsk,hz]
 simp
end Go.Proofs.YtagijlhciclafaaGreatDoor
