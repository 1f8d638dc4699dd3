import Derived.Test.YtagijlhciclafaaGreatDoorGYG
/- The law RoadNoMore: the walk. -/
set_option linter.unusedVariables false
set_option linter.unusedSimpArgs false
namespace Go.Proofs.YtagijlhciclafaaGreatDoor
open Go.Se Go.RowKit
theorem Qcf {c:Cfg} {l:List Ev} (h:Qo1 40 c l=true):Qhm c (anewL l):=⟨(Qft.1 h).2.2.2,by have:=anew_len l;have:=(Qft.1 h).1;omega⟩
theorem Qkg {K:List ByteArray} (hn:K.Nodup) {k:Nat} (h:k<K.length):K[k]∉K.take k:=fun hm=>by
 have h1:=hn.sublist (List.take_sublist (k+1) K);rw[List.take_succ_eq_append_getElem h,List.nodup_append] at h1
 exact h1.2.2 _ hm _ (List.mem_singleton.2 rfl) rfl
set_option maxHeartbeats 2000000 in
theorem roadNoMore_spec (c:Cfg) (l:List Ev) (r:Int) (person:ByteArray) (now limit:Int) (A:Option Addr) (cap:Nat) (w:World) (hg0:Gl w) (hs:SlE w A l) (hl:-9223372036854775808≤limit∧limit≤9223372036854775807) :
 Cal Tryz.prog 8 [cfgV c,.slice A l.length cap,.int .i64 r,.string person,.int .i64 now,.int .i64 limit] w fun r w'=>r = .bool true∧Ext w w':=by
 refine Fi Tryz.func8 rfl _ rfl rfl (Hh ?_);intro b1 w1 hn1;refine Gg ?_;have h1:At w1 b1 23 (cfgC c):=hn1.At;have hx:=hn1.ext;clear hn1;refine(Xr w1 (hg0.ext hx)).mono ?_;rintro _ w2 ⟨rfl,hx2⟩;replace h1:=h1.ext hx2;replace hx:=hx.trans hx2;clear hx2;refine Gg ?_;constructor
 · intro h;simp at h
 intro _;refine Gg ?_;refine⟨cfgC c,⟨rfl,h1.all⟩,Gg ?_⟩;have z2:=hx.size;refine(Xt c l A cap w2 (hg0.ext hx) (hs.ext hx)).mono ?_;rintro r0 w3 ⟨hx3,hr3⟩;replace hx:=hx.trans hx3;clear hx3 h1;rcases hr3 with⟨_,rfl⟩ | ⟨hok,p,T,rfl,hW,hT⟩
 · refine Gg ?_
   refine⟨_,eqRun_ptr_nil' Qcm _ _ _,Gg ?_⟩;constructor
   · intro _
     refine Gg ?_
     exact⟨rfl,hx⟩
   · intro h;simp at h
 refine Gg ?_;refine⟨_,eqRun_ptr_nil' Qcm _ _ _,Gg ?_⟩;constructor
 · intro _
   refine Gg ?_
   exact⟨rfl,hx⟩
 intro _;have hsc:=Qcf hok;generalize anewL l=z at hW hsc;obtain⟨v,T0,hQ⟩:=(Q9 hsc).wq hW;have hS:=(Qd5 c z hQ.may hsc.len).len;have hfew:=Xf hQ.may hS person now r limit;have hzl:=hsc.len;refine Gg ?_;refine(X5 (Q9 hsc) hW hsc r person now limit hl.2).mono ?_;rintro _ w4 ⟨A4,c4,T4,rfl,hown4,_,_,_,hM4⟩;have hx4:Ext w w4:=Qo hx (fun k hk=>by have:=hT k hk;omega) hM4;have hs4:=hown4.sl strE_len;have hA4l:∀ a,A4=some a→a.block<w4.heap.size:=fun a ha=>(hown4.block ha).2
 have hKn:=Qbl hS person now r limit;have hKl:=Qg3 c z person now r limit;have hKo:¬ (0≤r∧r≤5∧0≤now∧now≤1099511627776)→Qc c z person now r limit = []:=Qb2;generalize Qc c z person now r limit=K at hs4 hKn hKl hKo hfew ⊢;clear hown4 hM4 hQ hW hs hg0;refine Gg ?_;intro b5 w5 hn5;have hm5:MapAt w5 b5 Value.string (venc Value.bool ([]:List (ByteArray×Bool))):=MapAt.new hn5;have hx5:=hx4.trans hn5.ext;have e5:=hn5.block;have z4:=hx4.size;replace hs4:=hs4.ext hn5.ext;have hA4:∀ a,A4=some a→a.block≠b5:=fun a ha e=>by have:=hA4l a ha;omega
 clear hn5;refine Gg ?_
 refine loop_rule Tt_ok (fun(q:Nat×List (ByteArray×Bool)) w'=>q.1≤K.length∧Mod (fun i=>i=b5) w5 w'∧(∀ x,(alook q.2 x).getD false=true→x∈K.take q.1)∧MapAt w' b5 Value.string (venc Value.bool q.2))
  (fun | (k,_) => [(2,.int .i64 r),(4,.int .i64 now),(5,.int .i64 limit),(14,.slice A4 K.length c4),(15,.map (some b5)),(16,.int .i64 (k:Nat))]) (fun q=>K.length-q.1) (0,[]) ⟨Nat.zero_le _,Mod.refl _ _,fun x hx=>by simp[alook] at hx,hm5⟩ Rr ?_
 rintro ⟨k,m⟩ wa ⟨hk,hMa,hmk,hmap⟩;simp only at hk hmk hmap;have hxa:Ext w wa:=Qo hx5 (fun i hi=>by omega) hMa;refine Gg ?_;constructor
 · intro hlt
   have hlt:k<K.length:=by simpa using hlt
   obtain⟨ax,hAx,hcx⟩:=(Qv.stay hs4 fun a ha hlt2=>hMa.block _ hlt2 (hA4 a ha)).get hlt;have hno:=Qkg hKn hlt
   have hmn:(alook m K[k]).getD false=false:=by
    cases hq:(alook m K[k]).getD false with
    | false=>rfl
    | true=>exact absurd (hmk _ hq) hno
   have htk:∀ x,x=K[k]∨x∈K.take k→x∈K.take (k+1):=fun x hx=>by
    rw[List.take_succ_eq_append_getElem hlt,List.mem_append,List.mem_singleton]
    exact hx.symm
   clear hno;generalize K[k]=x at hcx hmn htk;have hlk:=map_look undS1 (key_string undStr) (e:=ty4) ty4_ok (cl := .same) kept_same hmap x;rw[show ty4.zero=Value.bool false from rfl,getD_venc,hmn] at hlk;refine Gg ?_;refine⟨ax,⟨hAx,by omega,by omega⟩,Gg ?_⟩;refine⟨.string x,cells_head hcx,Gg ?_⟩;refine⟨_,hlk,Gg ?_⟩;constructor
   · intro hh;cases hh
   intro _;refine Gg ?_;refine⟨ax,⟨hAx,by omega,by omega⟩,Gg ?_⟩;refine⟨.string x,cells_head hcx,Gg ?_⟩;refine map_update undS1 (key_string undStr) hmap x _ fun wb hmb hob => ?_
   rw[show (Value.bool true)=Value.bool true from rfl,aset_venc] at hmb;refine Gg ?_;refine⟨_,wrap_succ (by omega),Gg ?_⟩;refine⟨(k+1,aset m x true),by simp only;omega,⟨by simp only;omega,hMa.trans (mod_only hob rfl),fun y hy=>htk y ?_,hmb⟩,Rr⟩;have hy:(alook (aset m x true) y).getD false=true:=hy;rw[alook_aset] at hy
   by_cases e:y=x
   · exact .inl e
   · rw[if_neg e] at hy
     exact .inr (hmk y hy)
 intro _;refine Gg ?_;constructor
 · intro hq
   have hq:¬ (0≤r∧r≤5∧0≤now∧now≤1099511627776):=by simp at hq;omega
   rw[hKo hq];refine Gg ?_
   exact⟨by simp,hxa⟩
 · intro _
   refine Gg ?_;refine⟨?_,hxa⟩;rw[decide_eq_true];omega
end Go.Proofs.YtagijlhciclafaaGreatDoor
