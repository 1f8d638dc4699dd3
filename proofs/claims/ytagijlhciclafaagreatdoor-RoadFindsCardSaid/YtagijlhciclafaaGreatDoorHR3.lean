import Derived.Test.YtagijlhciclafaaGreatDoorHR2
/- The law RoadLimits: the walk. -/
set_option linter.unusedVariables false
set_option linter.unusedSimpArgs false
namespace Go.Proofs.YtagijlhciclafaaGreatDoor
open Go.Se Go.RowKit Go.Sort
theorem Qon {l:List ByteArray} (h:l.Nodup):(sortT l).Pairwise (fun a b=>bLt a b=true):=by
 have h1:=sortT_srt l;have h2:(sortT l).Pairwise (· ≠ ·):=List.nodup_iff_pairwise_ne.1 ((sortT_perm l).nodup_iff.2 h);refine(List.Pairwise.and h1 h2).imp ?_;rintro a b ⟨h3,h4⟩
 cases hc:bLt a b with
 | true=>rfl
 | false=>exact absurd (bLt_tri hc h3) h4
theorem Qhs (c:Cfg) (z:List Ev) (person:ByteArray) (now limit:Int):(Xc c z person now limit).Pairwise (fun a b=>bLt a b=true):=Qon (Qz _)
theorem Qnp (c:Cfg) (z:List Ev) (person:ByteArray) (now limit more:Int) (h0:0≤limit) (h1:0≤more):∀ x∈Xc c z person now limit,x∈Xc c z person now (limit+more):=fun x hx=>by
 unfold Xc at *;rw[Qg,List.mem_flatMap] at *;obtain⟨r,hr,hx⟩:=hx;rw[Qev c z person now r limit more h0 h1] at hx
 exact⟨r,hr,List.mem_of_mem_take hx⟩
theorem Qji {K M:List ByteArray} (hM:M.Pairwise fun a b=>bLt a b=true) {i j:Nat} (hj:j<K.length) (hs:K[j]∈M) (hi:∀ a∈M.take i,∀ b∈K.drop j,bLt a b=true) (hx:∀ h:i<M.length,¬ bLt M[i] K[j]=true):∃ h:i<M.length,M[i]=K[j]:=by
 obtain⟨m,hm,he⟩:=List.getElem_of_mem hs;have hb:K[j]∈K.drop j:=by rw[List.drop_eq_getElem_cons hj];exact List.mem_cons_self
 have h1:i≤m:=Nat.le_of_not_lt fun hlt=>by
  have h2:M[m]∈M.take i:=List.mem_take_iff_getElem.2 ⟨m,by omega,rfl⟩;have:=hi _ h2 _ hb;rw[he,bLt_irrefl] at this
  cases this
 have h2:i<M.length:=by omega
 refine⟨h2,?_⟩
 by_cases h3:i=m
 · subst h3;exact he
 · exfalso
   have:=List.pairwise_iff_getElem.1 hM i m h2 hm (by omega);rw[he] at this
   exact hx h2 this
theorem Qmx {K M:List ByteArray} (hK:K.Pairwise fun a b=>bLt a b=true) {i j:Nat} (hj:j<K.length) (hl:i<M.length) (hi:∀ a∈M.take i,∀ b∈K.drop j,bLt a b=true) (hx:bLt M[i] K[j]=true):∀ a∈M.take (i+1),∀ b∈K.drop j,bLt a b=true:=fun a ha b hb=>by
 rw[List.take_succ_eq_append_getElem hl,List.mem_append,List.mem_singleton] at ha;rcases ha with ha | rfl
 · exact hi a ha b hb
 · rw[List.drop_eq_getElem_cons hj] at hb
   rcases List.mem_cons.1 hb with rfl | hb2
   · exact hx
   · have h1:=hK.sublist (List.drop_sublist j K)
     rw[List.drop_eq_getElem_cons hj,List.pairwise_cons] at h1
     exact bLt_trans hx (h1.1 b hb2)
set_option maxHeartbeats 4000000 in
theorem roadLimits_spec (c:Cfg) (l:List Ev) (r:Int) (person:ByteArray) (now limit more:Int) (A:Option Addr) (cap:Nat) (w:World) (hg0:Gl w) (hs:SlE w A l) :
 Cal Tryz.prog 5 [cfgV c,.slice A l.length cap,.int .i64 r,.string person,.int .i64 now,.int .i64 limit,.int .i64 more] w fun r w'=>r = .bool true∧Ext w w':=by
 refine Fi Tryz.func5 rfl _ rfl rfl (Hh ?_);intro b1 w1 hn1;refine Gg ?_;have h1:At w1 b1 23 (cfgC c):=hn1.At;have hx:=hn1.ext;clear hn1;refine(Xr w1 (hg0.ext hx)).mono ?_;rintro _ w2 ⟨rfl,hx2⟩;replace h1:=h1.ext hx2;replace hx:=hx.trans hx2;clear hx2;refine Gg ?_;constructor
 · intro h;simp at h
 intro _;refine Gg ?_;refine⟨cfgC c,⟨rfl,h1.all⟩,Gg ?_⟩;have z2:=hx.size;refine(Xt c l A cap w2 (hg0.ext hx) (hs.ext hx)).mono ?_;rintro r0 w3 ⟨hx3,hr3⟩;replace hx:=hx.trans hx3;clear hx3 h1;rcases hr3 with⟨_,rfl⟩ | ⟨hok,p,T,rfl,hW,hT⟩
 · refine Gg ?_
   refine⟨_,eqRun_ptr_nil' Qcm _ _ _,Gg ?_⟩;constructor
   · intro _
     refine Gg ?_
     exact⟨rfl,hx⟩
   · intro h;simp at h
 have hsc:=Qcf hok;generalize anewL l=z at hW hsc;obtain⟨v,T0,hQ⟩:=(Q9 hsc).wq hW;have hm:=hQ.may;have hS:=(Qd5 c z hm hsc.len).len;replace hT:∀ k,T k→w.heap.size≤k:=fun k hk=>Nat.le_trans z2 (hT k hk)
 have hzl:=hsc.len;clear hQ;refine Gg ?_;refine⟨_,eqRun_ptr_nil' Qcm _ _ _,Gg ?_⟩;constructor
 · intro _
   refine Gg ?_
   exact⟨rfl,hx⟩
 intro hcd
 have hcd:(0≤limit∧limit≤1000)∧0≤more∧more≤1000:=by
  simp at hcd
  omega
 obtain⟨hl,hmo⟩:=hcd;refine Gg ?_;refine(X5 (Q9 hsc) hW hsc r person now limit (by omega)).mono ?_;rintro _ w4 ⟨A4,c4,T4,rfl,hown4,hA4,hW4,hT4,hM4⟩;have hx4:Ext w w4:=Qo hx hT hM4;have z3:=hx.size;have hT4':∀ i,T4 i→w.heap.size≤i:=fun i hi=>(hT4 i hi).elim (hT i) fun h=>by omega
 refine Gg ?_;refine⟨limit+more,wrap_eq rfl ⟨by omega,by omega⟩,Gg ?_⟩;refine(X5 (Q9 hsc) hW4 hsc r person now (limit+more) (by omega)).mono ?_;rintro _ w5 ⟨A5,c5,T5,rfl,hown5,hA5,hW5,hT5,hM5⟩;have hx5:Ext w w5:=Qo hx4 hT4' hM5;have z4:=hx4.size;have hT5':∀ i,T5 i→w.heap.size≤i:=fun i hi=>(hT5 i hi).elim (hT4' i) fun h=>by omega
 have hs4:SlT w5 A4 (Qc c z person now r limit):=sl_keep (hown4.sl strE_len) fun a ha=>hM5.block _ (hown4.block ha).2 (hA4 a ha)
 have hs5:=hown5.sl strE_len;have hle5:=hown5.le;have hKl:=Qg3 c z person now r limit;have hmo2:=Qev c z person now r limit more hl.1 hmo.1;have hfew:=Xf hm hS person now r limit;have hfew2:=Xf hm hS person now r (limit+more);generalize Qc c z person now r limit=K at hs4 hKl hmo2 hfew ⊢;generalize Qc c z person now r (limit+more)=M at hs5 hle5 hmo2 hfew2 ⊢;have hKM:K.length=min limit.toNat M.length:=by rw[hmo2,List.length_take]
 have hKt:M.take K.length=K:=by
  rw[hKM,hmo2];rw[List.take_eq_take_iff];omega
 clear hown4 hown5 hM4 hM5 hW hW4 hT hT4 hA4 hA5 hx hx4 hmo2;refine Gg ?_;have hc1:decide (limit<(K.length:Int))=false:=by simp;omega
 have hc2:decide ((K.length:Int)=min limit (M.length:Int))=true:=by simp;omega
 rw[hc1,hc2];refine⟨fun _=>⟨by omega,by omega,by omega,by omega⟩,Gg ?_⟩;have hsk:=sl_take hs5 K.length;rw[hKt] at hsk;have hsk2:=sl_drop_if hsk 0 c5 (by omega);rw[List.drop_zero] at hsk2;have htx:=Qcl K K A4 _ c4 (c5-0) w5 hs4 hsk2 (by omega);rw[decide_eq_true (rfl:K=K)] at htx;refine⟨Unit,fun _=>(.bool true),fun _ w'=>Ext w5 w',(),fun hg=>(htx).mono fun r w' h=>⟨(),h.1,h.2⟩,?_⟩;intro _ w6 h2
 have hx6:Ext w5 w6:=by
  rcases h2 with⟨_,h⟩ | ⟨_,h⟩
  · exact h
  · rw[h];exact Ext.refl _
 clear h2
 conv=>whnf
 constructor
 · intro h;simp at h
 intro _;have hx6':=hx5.trans hx6;have hW6:=hW5.ext hx6;clear htx hsk hsk2 hs4 hs5 hc1 hc2 hKM hKt hKl hle5 hW5 hx6 hx5;generalize K.length=kl;generalize M.length=ml;refine Gg ?_;have z5:=hx6'.size;refine(Qaa (Q9 hsc) hW6 hsc hS person now limit (by omega)).mono ?_;rintro _ w7 ⟨A7,c7,H7,T7,rfl,hF7,hW7,hT7,hM7⟩;have hT7':∀ i,T7 i→w.heap.size≤i:=fun i hi=>(hT7 i hi).elim (hT5' i) fun h=>by omega
 have hx7:Ext w w7:=Qo hx6' hT5' hM7;refine Gg ?_;refine⟨limit+more,wrap_eq rfl ⟨by omega,by omega⟩,Gg ?_⟩;refine(Qaa (Q9 hsc) hW7 hsc hS person now (limit+more) (by omega)).mono ?_;rintro _ w8 ⟨A8,c8,H8,T8,rfl,hF8,hW8,hT8,hM8⟩;have hx8:Ext w w8:=Qo hx7 hT7' hM8;have hs7:Sl cdC 2 w8 A7 H7:=Qoi.stay hF7.sl fun a ha hlt=>hM8.block _ hlt (hF7.new a ha).2
 have hs8:=hF8.sl;have hk7:=hF7.keys;have hk8:=hF8.keys;have hup7:=Qhs c z person now limit;have hup8:=Qhs c z person now (limit+more);have hsub:=Qnp c z person now limit more hl.1 hmo.1;have hf7:=Qc6 (c:=c) hm person now limit;have hf8:=Qc6 (c:=c) hm person now (limit+more);rw[← hk7] at hup7 hsub hf7;rw[← hk8] at hup8 hsub hf8;have hl7:(H7.map (·.1)).length=H7.length:=List.length_map _;have hl8:(H8.map (·.1)).length=H8.length:=List.length_map _;clear hk7 hk8 hF7 hF8 hW7 hW8 hT7 hT8 hM7 hM8 hT5' hT7' hW6 hx7 hx6';refine Gg ?_
 refine loop_rule Tt_ok (fun(q:Nat×Nat) w'=>q.1≤H7.length∧q.2≤H8.length∧Ext w8 w'∧∀ a∈(H8.map (·.1)).take q.2,∀ b∈(H7.map (·.1)).drop q.1,bLt a b=true)
  (fun | (j,i) => [(18,.slice A7 H7.length c7),(19,.slice A8 H8.length c8),(20,.int .i64 (i:Nat)),(21,.int .i64 (j:Nat))]) (fun q=>H7.length-q.1) (0,0) ⟨Nat.zero_le _,Nat.zero_le _,Ext.refl _,by simp⟩ Rr ?_
 rintro ⟨j,i⟩ wa ⟨hj,hi,hxa,hinv⟩;simp only at hj hi hinv;refine Gg ?_;constructor
 · intro hlt
   have hlt:j<H7.length:=by simpa using hlt
   have hj7:j<(H7.map (·.1)).length:=by rw[hl7];exact hlt
   refine Gg ?_
   refine loop_rule Tt_ok (fun(m:Nat) w'=>m≤H8.length∧Ext w8 w'∧∀ a∈(H8.map (·.1)).take m,∀ b∈(H7.map (·.1)).drop j,bLt a b=true)
    (fun m => [(18,.slice A7 H7.length c7),(19,.slice A8 H8.length c8),(20,.int .i64 (m:Nat)),(21,.int .i64 (j:Nat))]) (fun m=>H8.length-m) i ⟨hi,hxa,hinv⟩ Rr ?_
   rintro m wb ⟨hmm,hxb,hinv2⟩;refine Gg ?_;refine Dr .same [0,1,2,3,4,5,6,7,8,9,10,11,12,13,14,15,16] [] (Hh ?_);have hxc:=hxb.drew;generalize wb.drew=wc at hxc ⊢;obtain⟨a7,hA7,hc7⟩:=(hs7.ext hxc).get hlt
   by_cases hm8:m<H8.length
   · obtain⟨a8,hA8,hc8⟩:=(hs8.ext hxc).get hm8
     refine⟨a8,fun _=>⟨hA8,by omega,by omega⟩,Gg ?_⟩;refine⟨.string H8[m].1,fun _=>cells_at hc8 (k:=0) rfl,Gg ?_⟩;refine⟨a7,fun _=>⟨hA7,by omega,by omega⟩,Gg ?_⟩;refine⟨.string H7[j].1,fun _=>cells_at hc7 (k:=0) rfl,Gg ?_⟩;refine⟨fun hq => ?_,fun hq => ?_⟩
     · have hq:(decide ((m:Int)<(H8.length:Nat))&&bLt H8[m].1 H7[j].1)=true:=hq
       have hlt8:bLt (H8.map (·.1))[m] (H7.map (·.1))[j]=true:=by
        rw[List.getElem_map,List.getElem_map]
        exact(Bool.and_eq_true_iff.1 hq).2
       refine Gg ?_;refine⟨_,wrap_succ (by omega),Gg ?_⟩
       exact⟨m+1,by omega,⟨by omega,hxc,Qmx hup7 hj7 (by rw[hl8];exact hm8) hinv2 hlt8⟩,Rr⟩
     · have hq:(decide ((m:Int)<(H8.length:Nat))&&bLt H8[m].1 H7[j].1)=false:=hq
       have hno:bLt H8[m].1 H7[j].1=false:=by
        rw[decide_eq_true (show (m:Int)<(H8.length:Nat) by omega),Bool.true_and] at hq
        exact hq
       obtain⟨h8,he⟩:=Qji hup8 hj7 (hsub _ (List.getElem_mem hj7)) hinv2 (fun _ hb=>by
        rw[List.getElem_map,List.getElem_map,hno] at hb
        cases hb)
       rw[List.getElem_map,List.getElem_map] at he;refine Gg ?_;refine Dr .same [0,1,2,3,4,5,6,7,8,9,10,11,12,13,14,15,16] [] (Hh ?_);have hxd:=hxc.drew;generalize wc.drew=wd at hxd ⊢;obtain⟨a7',hA7',hc7'⟩:=(hs7.ext hxd).get hlt;obtain⟨a8',hA8',hc8'⟩:=(hs8.ext hxd).get hm8;refine⟨a8',fun _=>⟨hA8',by omega,by omega⟩,Gg ?_⟩;refine⟨.string H8[m].1,fun _=>cells_at hc8' (k:=0) rfl,Gg ?_⟩;refine⟨a7',fun _=>⟨hA7',by omega,by omega⟩,Gg ?_⟩;refine⟨.string H7[j].1,fun _=>cells_at hc7' (k:=0) rfl,Gg ?_⟩;refine⟨fun hq2 => ?_,fun _ => ?_⟩
       · exfalso
         have hq2:(decide ((m:Int)=(H8.length:Nat)) || !decide (H8[m].1=H7[j].1))=true:=hq2;rw[he] at hq2
         simp at hq2
         omega
       refine Gg ?_;refine⟨_,wrap_succ (by omega),Gg ?_⟩;refine⟨(j+1,m),by simp only;omega,⟨by simp only;omega,hmm,hxd,fun a ha b hb=>hinv2 a ha b ?_⟩,Rr⟩;rw[List.drop_eq_getElem_cons hj7]
       exact List.mem_cons_of_mem _ hb
   · exfalso
     obtain⟨h8,_⟩:=Qji hup8 hj7 (hsub _ (List.getElem_mem hj7)) hinv2 (fun h=>absurd (by rw[hl8] at h;exact h) hm8);rw[hl8] at h8
     exact hm8 h8
 intro _;refine Gg ?_
 exact⟨rfl,hx8.trans hxa⟩
end Go.Proofs.YtagijlhciclafaaGreatDoor
