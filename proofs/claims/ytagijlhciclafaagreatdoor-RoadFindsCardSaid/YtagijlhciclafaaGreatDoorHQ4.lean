import Derived.Test.YtagijlhciclafaaGreatDoorHQ3
import Derived.Test.YtagijlhciclafaaGreatDoorHR4
/- The second writing of the roads: want (printed by tools/mk_q4.py). -/
set_option linter.unusedVariables false
set_option linter.unusedSimpArgs false
namespace Go.Proofs.YtagijlhciclafaaGreatDoor
open Go.Se Go.RowKit Go.Sort
theorem Qak {w w':World} {T:Nat→Prop} {p:Nat} {c:Cfg} {z:List Ev} {A:Option Addr} {cp:Nat} {K Q:List ByteArray} (hW:WT w T p c z) (hx:Ext w w') (h1:K=Q) (ho:Own strE 1 9 w.heap.size w' A cp K):Qhp (fun T w=>WT w T p c z) Q T w (.slice A K.length cp) w':=by
 subst h1
 exact⟨A,cp,T,rfl,ho,fun a ha hT=>by have:=hW.lt _ hT;have:=(ho.block ha).1;omega,hW.ext hx,fun k hk => .inl hk,Mod.of_ext hx⟩
theorem Qp8 (c:Cfg) (z:List Ev) (person:ByteArray) (now:Int) (x:ByteArray):x∈(Qkv c z person now).map (·.1)↔x∈Qje z person:=by
 unfold Qkv;rw[(Xu _).mem_iff,Qby,Qa5];unfold Qje
 by_cases h:x∈(Qa1 z person).map (·.item)
 · rw[if_pos h];simp[h]
 · rw[if_neg h];simp[h]
theorem Qm8 (c:Cfg) (z:List Ev) (person:ByteArray) (now:Int):(Qkv c z person now).length≤z.length:=by
 unfold Qkv;rw[(Qs _).length_eq];have h1:=Qgr c.half now (Qa1 z person);have h2:(Qa1 z person).length≤(histE z person).length:=List.length_filter_le _ _;have h3:(histE z person).length≤z.length:=hist_len z person;omega
theorem Ql6 (c:Cfg) (z:List Ev) (person:ByteArray) (hlen:z.length<1000):(sortT ((Qm (noteAll (countAll c.width z).rs).follows person (hist (evs (countAll c.width z).rs) person)).map (·.1))).length<1000000:=by
 have hrl:=Qex c.width z;rw[sortT_len,List.length_map]
 have h1:∀ (fl:List (LK×Bool)) (hh:List Ev),(Qm fl person hh).length≤hh.length:=fun fl=>by
  refine snoc_ind (by simp[Qm]) fun hh e ih => ?_
  rw[Xx]
  split
  · have:=aset_len e.text true (Qm fl person hh)
    simp;omega
  · simp;omega
 have h2:=h1 (noteAll (countAll c.width z).rs).follows (hist (evs (countAll c.width z).rs) person);have h3:(hist (evs (countAll c.width z).rs) person).length≤(evs (countAll c.width z).rs).length:=List.length_filter_le _ _;have h4:(evs (countAll c.width z).rs).length=(countAll c.width z).rs.length:=List.length_map _;omega
theorem Qjb {z:List Ev} {now:Int} (q:It→Bool):(((Qr z now).filter fun n=>q (catAt (thingsE z) n now).1).map fun n=>((n,(catAt (thingsE z) n now).1.born):Ct)).foldl Qas []=Qer z now q:=by
 rw[Qdw (fun n=>(catAt (thingsE z) n now).1.born)];have hn:((Qr z now).filter fun n=>q (catAt (thingsE z) n now).1).Nodup:=(Q7 _).sublist List.filter_sublist;have hp:(Qgk ((Qr z now).filter fun n=>q (catAt (thingsE z) n now).1)).Perm ((Qr z now).filter fun n=>q (catAt (thingsE z) n now).1):=(List.perm_ext_iff_of_nodup (Qz _) hn).2 fun x=>Xd
 have he:((thC z now).filter q).map Qqg=((Qr z now).filter fun n=>q (catAt (thingsE z) n now).1).map fun n=>((n,(catAt (thingsE z) n now).1.born):Ct):=by
  unfold thC;rw[List.filter_map,List.map_map];refine List.map_congr_left fun n hn => ?_
  have h1:=Qgs (Qa7.1 (List.mem_filter.1 hn).1);show ((catAt (thingsE z) n now).1.name,(catAt (thingsE z) n now).1.born)=_
  rw[h1]
 unfold Qer;rw[he]
 exact X6 ((Qs _).trans (hp.map _)) (Qay _)
theorem Qjc {z:List Ev} {now:Int} {q:It→Bool} {N:List ByteArray} {i:Nat} (h:i<N.length):(((N.take (i+1)).filter fun n=>q (catAt (thingsE z) n now).1).map fun n=>((n,(catAt (thingsE z) n now).1.born):Ct)).foldl Qas []=if q (catAt (thingsE z) N[i] now).1=true then Qas ((((N.take i).filter fun n=>q (catAt (thingsE z) n now).1).map fun n=>((n,(catAt (thingsE z) n now).1.born):Ct)).foldl Qas []) (N[i],(catAt (thingsE z) N[i] now).1.born) else(((N.take i).filter fun n=>q (catAt (thingsE z) n now).1).map fun n=>((n,(catAt (thingsE z) n now).1.born):Ct)).foldl Qas []:=by
 rw[List.take_succ_eq_append_getElem h,List.filter_append]
 by_cases hq:q (catAt (thingsE z) N[i] now).1=true
 · rw[List.filter_cons_of_pos (p:=fun n=>q (catAt (thingsE z) n now).1) hq,List.filter_nil,if_pos hq]
   simp
 · rw[List.filter_cons_of_neg (p:=fun n=>q (catAt (thingsE z) n now).1) hq,List.filter_nil,if_neg hq]
   simp
set_option maxHeartbeats 8000000 in
theorem Qhk {w:World} {T:Nat→Prop} {p:Nat} {c:Cfg} {z:List Ev} (hW:WT w T p c z) (hok:Qhm c z) (r:Int) (person:ByteArray) (now limit:Int) (hl:limit≤9223372036854775807) :
 Cal Tryz.prog 13 [.pointer (some ⟨p,0,none⟩),.int .i64 r,.string person,.int .i64 now,.int .i64 limit] w fun v w'=>Qhp (fun T w=>WT w T p c z) (Qc c z person now r limit) T w v w':=by
 have hlen:=hok.len;obtain⟨c1,c2,c3,c4,c5,c6,c7⟩:=Qoz hok.cfg;obtain⟨v,T0,hQ⟩:=(Q9 hok).wq hW;have hm:=hQ.may;have hS:=(Qd5 c z hm hok.len).len;have hSs:=Qo4 (c:=c) hm hlen;have hrs:=Qdg c.width z hQ.rise hm;have hrl:=Qex c.width z
 have hcl:(thingsE z).length<100000:=by
  have:=List.length_filter_le thB z;unfold thingsE;omega
 refine Fi Tryz.func13 rfl _ rfl rfl (Hh ?_);constructor
 · intro hq
   have hq:(now<0∨1099511627776<now)∨limit<0:=by simpa using hq
   have he:Qc c z person now r limit = []:=by
    rcases hq with hq | hq
    · exact Qb2 (by omega)
    · unfold Qc
      split
      · rw[show limit.toNat=0 by omega,List.take_zero]
      · rfl
   refine Gg ?_
   exact Qak (K := []) hW (Ext.refl _) he.symm Own.nil
 intro hq;have hq:(0≤now∧now≤1099511627776)∧0≤limit:=by simp at hq;omega
 obtain⟨hnow,hl0⟩:=hq
 have hRL:∀ k:Nat,k<6→r=k→Qc c z person now r limit=(Xe c z person now k).take limit.toNat:=fun k hk hr=>by
  subst hr;rw[Qfz hk hnow,Qgu]
 refine Gg ?_;refine(Xm hQ).mono ?_;rintro _ w1 ⟨rfl,hx1⟩;refine Gg ?_;intro b2 w2 hn2;refine Gg ?_;refine store_ptr Tt_ok (e:=ty23) rfl hn2.At rfl rfl rfl (by simp[cellsL,cfgV,cfgC,Value.oneCell']) fun w3 h3 ho3 => ?_
 have e2:=hn2.block;have hx3:Ext w w3:=ho3.ext (hx1.trans hn2.ext) (by have:=hx1.size;omega);have h3:At w3 b2 23 (cfgC c):=h3;clear ho3 hn2 hx1;have hQ3:=hQ.ext hx3;have hW3:=hW.ext hx3;have z3:=hx3.size;refine Gg ?_;constructor
 · intro hq
   have hr:r=(0:Nat):=by simpa using hq
   refine Gg ?_;refine(qpopular_spec hQ3).mono ?_;rintro _ w4 ⟨pd,S,rfl,hct,hx4⟩;rw[(Qw c.width z).1] at hct;refine Gg ?_;refine(Qhh hct hm hlen now hnow limit ⟨hl0,hl⟩).mono ?_;rintro _ w5 ⟨A,cp,rfl,hs,hx5⟩
   have hF:((Xb (X9 (Qbo (z.filter wpB)) (halfN c.half) now)).take limit.toNat).map (fun x:Ct=>x.1)=Qc c z person now r limit:=by
    rw[hRL 0 (by decide) hr,List.map_take];unfold Xe;rw[if_pos rfl,(Qw c.width z).1]
   have hQl:((Xb (X9 (Qbo (z.filter wpB)) (halfN c.half) now)).take limit.toNat).length<1000000:=by
    have h1:=congrArg List.length hF;have h2:=Xf hm hS person now r limit;rw[List.length_map] at h1;omega
   generalize (Xb (X9 (Qbo (z.filter wpB)) (halfN c.half) now)).take limit.toNat=Q at hs hQl hF ⊢;have hx05:=(hx3.trans hx4).trans hx5;refine Gg ?_
   refine loop_rule Tt_ok (fun(x:Nat×Option Addr×Nat×List ByteArray) w'=>x.1≤Q.length∧Ext w5 w'∧x.2.2.2=(Q.take x.1).map (fun x:Ct=>x.1)∧Own strE 1 9 w5.heap.size w' x.2.1 x.2.2.1 x.2.2.2)
    (fun | (k,B,d,K) => [(12,.slice B K.length d),(13,.slice A Q.length cp),(14,.int .i64 (k:Nat))]) (fun x=>Q.length-x.1) (0,none,0,[]) ⟨Nat.zero_le _,Ext.refl _,rfl,Own.nil⟩ Rr ?_
   rintro ⟨k,B,d,K⟩ wa ⟨hk,hxa,hK,hownK⟩;simp only at hk hK hownK;have hKl:K.length≤k:=by rw[hK,List.length_map,List.length_take];omega
   refine Gg ?_;constructor
   · intro hlt
     have hlt:k<Q.length:=by simpa using hlt
     obtain⟨ax,hAx,hcx⟩:=(hs.ext hxa).get hlt;have htk:(Q.take (k+1)).map (fun x:Ct=>x.1)=K ++ [((fun x:Ct=>x.1)) Q[k]]:=by rw[List.take_succ_eq_append_getElem hlt,List.map_append,hK];rfl
     generalize Q[k]=x at hcx htk;refine Gg ?_;refine⟨ax,⟨hAx,by omega,by omega⟩,Gg ?_⟩;refine⟨.string (((fun x:Ct=>x.1)) x),cells_at hcx (k:=0) rfl,Gg ?_⟩;generalize ((fun x:Ct=>x.1)) x=tx at htk ⊢;intro be we hne;refine Gg ?_;refine Qa Qv (l:=K) (news := [tx]) rfl (hownK.ext hne.ext) rfl (Qv.new1 (x:=tx) hne) (by simp;omega) (hxa.trans hne.ext).size fun Af cf wf hownf hgf hAf => ?_
     have hxf:=ext_grown (hxa.trans hne.ext) hgf (Qd (hownK.ext hne.ext));generalize K ++ [tx]=K2 at hownf htk ⊢;refine Gg ?_;refine⟨_,wrap_succ (by omega),Gg ?_⟩
     exact⟨(k+1,Af,cf,K2),by simp only;omega,⟨by simp only;omega,hxf,htk.symm,hownf⟩,Rr⟩
   intro hge;have hge:Q.length≤k:=by simpa using hge
   rw[List.take_of_length_le hge] at hK;refine Gg ?_
   exact Qak hW (hx05.trans hxa) (hK.trans hF) (hownK.base hx05.size)
 intro hq0;refine Gg ?_;constructor
 · intro hq
   have hr:r=(1:Nat):=by simpa using hq
   have hwid:=Qlw c2;have ok:=Qqu c.width hm (Nat.lt_of_lt_of_le hlen (by decide));have hle:=Qqt c.width hm (Nat.lt_of_lt_of_le hlen (by decide));obtain⟨Q0,hQ0⟩:∃ Q0,Q0=Qpw c z now:=⟨_,rfl⟩;have hQe:=hQ0;unfold Qpw Qqj Qig at hQ0;rw[(Qw c.width z).2.1] at hQ0
   have hF:((Q0.map (·.1)).take limit.toNat).map (fun x:Ri=>x.1)=Qc c z person now r limit:=by
    rw[hRL 1 (by decide) hr,← List.map_take,List.map_map,hQe];unfold Xe;rw[if_neg (by decide),if_pos rfl,List.map_take]
    rfl
   refine Gg ?_;refine Dr .ext [0,2,3,4,5,6,7,1] [8,9] (Hh ?_);refine⟨_,h3.one rfl,Gg ?_⟩;refine⟨_,h3.one rfl,Gg ?_⟩;have hxd:Ext w3 w3.drew:=(Ext.refl w3).drew;refine(qpanes_spec (hQ3.ext hxd)).mono ?_;rintro _ w4 ⟨pp,S,rfl,hpa,hx4⟩;rw[(Qw c.width z).2.1] at hpa;refine⟨hx4,Gg ?_⟩;refine(Qg7 w4 S pp (halfN c.width) _ _ hpa (by omega) ok hle c.span now c.floor limit c3 (by rw[hwid];exact c4) hnow ⟨hl0,hl⟩ Q0 hQ0).mono ?_;rintro _ w5 ⟨A,cp,rfl,hown5,hQ0l,hx5⟩;have hx05:=(hx3.trans (hxd.trans hx4)).trans hx5;have hQl:((Q0.map (·.1)).take limit.toNat).length<1000000:=by rw[List.length_take,List.length_map];omega
   clear hQ0 hQe;have hs:=hown5.sl Qfy;generalize (Q0.map (·.1)).take limit.toNat=Q at hs hQl hF ⊢;refine Gg ?_
   refine loop_rule Tt_ok (fun(x:Nat×Option Addr×Nat×List ByteArray) w'=>x.1≤Q.length∧Ext w5 w'∧x.2.2.2=(Q.take x.1).map (fun x:Ri=>x.1)∧Own strE 1 9 w5.heap.size w' x.2.1 x.2.2.1 x.2.2.2)
    (fun | (k,B,d,K) => [(12,.slice B K.length d),(15,.slice A Q.length cp),(16,.int .i64 (k:Nat))]) (fun x=>Q.length-x.1) (0,none,0,[]) ⟨Nat.zero_le _,Ext.refl _,rfl,Own.nil⟩ Rr ?_
   rintro ⟨k,B,d,K⟩ wa ⟨hk,hxa,hK,hownK⟩;simp only at hk hK hownK;have hKl:K.length≤k:=by rw[hK,List.length_map,List.length_take];omega
   refine Gg ?_;constructor
   · intro hlt
     have hlt:k<Q.length:=by simpa using hlt
     obtain⟨ax,hAx,hcx⟩:=(hs.ext hxa).get hlt;have htk:(Q.take (k+1)).map (fun x:Ri=>x.1)=K ++ [((fun x:Ri=>x.1)) Q[k]]:=by rw[List.take_succ_eq_append_getElem hlt,List.map_append,hK];rfl
     generalize Q[k]=x at hcx htk;refine Gg ?_;refine⟨ax,⟨hAx,by omega,by omega⟩,Gg ?_⟩;refine⟨.string (((fun x:Ri=>x.1)) x),cells_at hcx (k:=0) rfl,Gg ?_⟩;generalize ((fun x:Ri=>x.1)) x=tx at htk ⊢;intro be we hne;refine Gg ?_;refine Qa Qv (l:=K) (news := [tx]) rfl (hownK.ext hne.ext) rfl (Qv.new1 (x:=tx) hne) (by simp;omega) (hxa.trans hne.ext).size fun Af cf wf hownf hgf hAf => ?_
     have hxf:=ext_grown (hxa.trans hne.ext) hgf (Qd (hownK.ext hne.ext));generalize K ++ [tx]=K2 at hownf htk ⊢;refine Gg ?_;refine⟨_,wrap_succ (by omega),Gg ?_⟩
     exact⟨(k+1,Af,cf,K2),by simp only;omega,⟨by simp only;omega,hxf,htk.symm,hownf⟩,Rr⟩
   intro hge;have hge:Q.length≤k:=by simpa using hge
   rw[List.take_of_length_le hge] at hK;refine Gg ?_
   exact Qak hW (hx05.trans hxa) (hK.trans hF) (hownK.base hx05.size)
 intro hq1;refine Gg ?_;constructor
 · intro hq
   have hr:r=(2:Nat):=by simpa using hq
   refine Gg ?_;refine(Qjl hQ3 hok person now hnow).mono ?_;rintro _ w4 ⟨A4,c4',rfl,hs4,hA4,hx4⟩;have hLl:=Qm8 c z person now;have hmem:=Qp8 c z person now;generalize Qkv c z person now=L at hs4 hLl hmem ⊢;have hW4:=hW3.ext hx4;have hTl:=hW3.lt;refine Gg ?_;refine((Q9 hok).pairs hW4).mono ?_;rintro _ w5 ⟨pp,T',rfl,hW5,hT5,hM5,hppT,R5,hP5⟩
   have hs5:Sl tgC 2 w5 A4 L:=Qaf.stay hs4 fun a ha hlt=>hM5.block _ hlt fun hT=>by
    have:=hTl _ hT;have:=hA4 a ha;omega
   have hx04:=hx3.trans hx4;have z4:=hx4.size;have z5:=hM5.size;refine Gg ?_;refine(X4 L (L.length:Nat) A4 c4' w5 hs5 (by omega)).mono ?_;rintro _ w6 ⟨A6,c6',rfl,hown6,hx6⟩
   have hft:(L.map (·.1)).take ((L.length:Nat):Int).toNat=L.map (·.1):=by
    rw[Int.toNat_natCast,List.take_of_length_le (by rw[List.length_map];exact Nat.le_refl _)]
   rw[hft] at hown6 ⊢;have hs6:=hown6.sl strE_len;have hNl:(L.map (·.1)).length<1000000:=by rw[List.length_map];omega
   have hF:(((Qd6 (Qax c z) 1 (L.map (·.1))).map (·.1)).take limit.toNat).map (fun x:Nr=>x.1)=Qc c z person now r limit:=by
    rw[hRL 2 (by decide) hr,Qk8 hmem,List.map_take,List.map_map];unfold Xe;rw[if_neg (by decide),if_neg (by decide),if_pos rfl]
    rfl
   generalize L.map (·.1)=N at hs6 hown6 hF hNl ⊢;refine Gg ?_;refine(Qej w6 _ pp _ (hP5.ext hx6) hSs N A6 c6' hs6 (fun a ha=>⟨(hown6.block ha).2,Qfu hown6 ha⟩) hNl limit ⟨hl0,hl⟩ 1).mono ?_;rintro _ w7 ⟨A,cp,rfl,hown7,hal,hx7⟩;have hs:=hown7.sl Qds;have hQl:(((Qd6 (Qax c z) 1 N).map (·.1)).take limit.toNat).length<1000000:=by rw[List.length_take,List.length_map];omega
   generalize ((Qd6 (Qax c z) 1 N).map (·.1)).take limit.toNat=Q at hs hQl hF ⊢;have hM07:Mod T w w7:=(((Mod.of_ext hx04).trans hM5).trans (Mod.of_ext hx6)).trans (Mod.of_ext hx7);have hW7:=(hW5.ext hx6).ext hx7;have hT7l:=hW7.lt;have hT7:∀ k,T' k→T k∨w.heap.size≤k:=fun k hk=>(hT5 k hk).imp id fun h=>by omega
   have z7:=hx7.size;have z6:=hx6.size;clear hown7 hP5 hs6 hown6 hs5 hs4 hM5 hW5 hW4;refine Gg ?_
   refine loop_rule Tt_ok (fun(x:Nat×Option Addr×Nat×List ByteArray) w'=>x.1≤Q.length∧Ext w7 w'∧x.2.2.2=(Q.take x.1).map (fun x:Nr=>x.1)∧Own strE 1 9 w7.heap.size w' x.2.1 x.2.2.1 x.2.2.2)
    (fun | (k,B,d,K) => [(12,.slice B K.length d),(18,.slice A Q.length cp),(19,.int .i64 (k:Nat))]) (fun x=>Q.length-x.1) (0,none,0,[]) ⟨Nat.zero_le _,Ext.refl _,rfl,Own.nil⟩ Rr ?_
   rintro ⟨k,B,d,K⟩ wa ⟨hk,hxa,hK,hownK⟩;simp only at hk hK hownK;have hKl:K.length≤k:=by rw[hK,List.length_map,List.length_take];omega
   refine Gg ?_;constructor
   · intro hlt
     have hlt:k<Q.length:=by simpa using hlt
     obtain⟨ax,hAx,hcx⟩:=(hs.ext hxa).get hlt;have htk:(Q.take (k+1)).map (fun x:Nr=>x.1)=K ++ [((fun x:Nr=>x.1)) Q[k]]:=by rw[List.take_succ_eq_append_getElem hlt,List.map_append,hK];rfl
     generalize Q[k]=x at hcx htk;refine Gg ?_;refine⟨ax,⟨hAx,by omega,by omega⟩,Gg ?_⟩;refine⟨.string (((fun x:Nr=>x.1)) x),cells_at hcx (k:=0) rfl,Gg ?_⟩;generalize ((fun x:Nr=>x.1)) x=tx at htk ⊢;intro be we hne;refine Gg ?_;refine Qa Qv (l:=K) (news := [tx]) rfl (hownK.ext hne.ext) rfl (Qv.new1 (x:=tx) hne) (by simp;omega) (hxa.trans hne.ext).size fun Af cf wf hownf hgf hAf => ?_
     have hxf:=ext_grown (hxa.trans hne.ext) hgf (Qd (hownK.ext hne.ext));generalize K ++ [tx]=K2 at hownf htk ⊢;refine Gg ?_;refine⟨_,wrap_succ (by omega),Gg ?_⟩
     exact⟨(k+1,Af,cf,K2),by simp only;omega,⟨by simp only;omega,hxf,htk.symm,hownf⟩,Rr⟩
   intro hge;have hge:Q.length≤k:=by simpa using hge
   rw[List.take_of_length_le hge] at hK;refine Gg ?_;rw[hF] at hK;rw[hK] at hownK ⊢
   exact⟨B,d,T',rfl,hownK.base (by omega),fun a ha hT=>by have:=hT7l _ hT;have:=(hownK.block ha).1;omega,hW7.ext hxa,hT7,hM07.trans (Mod.of_ext hxa)⟩
 intro hq2;refine Gg ?_;constructor
 · intro hq
   have hr:r=(3:Nat):=by simpa using hq
   have hr34:r=(3:Nat)∨r=(4:Nat) := .inl hr;refine Gg ?_;constructor
   · intro _
     refine Gg ?_;refine(Qj hQ3).mono ?_;rintro _ w4 ⟨pc,S4,rfl,hcat,hx4⟩;refine Gg ?_;refine(Qcg w4 S4 pc _ hcat now (fun name=>hQ.rows) hcl).mono ?_;rintro _ w5 ⟨A5,cp5,K0,rfl,hs5,hn0,hm0,hl5,hx5⟩;have hK0:=Qdp hn0 hm0;rw[hK0] at hs5 ⊢;clear hn0 hm0 hK0 hl5 K0 hcat;have hx35:=hx4.trans hx5;have hQ5:=hQ3.ext hx35;refine Gg ?_;refine(Qh hQ5).mono ?_;rintro _ w6 ⟨pw,S6,rfl,hcr,hx6⟩;refine Gg ?_;refine(Qbh w6 S6 pw _ _ hcr (fun r hr=>(hrs r hr).1) (by omega) person).mono ?_;rintro _ w7 ⟨A7,c7',rfl,hown7,hx7⟩
     have hin:∀ t:It,decide (t.maker∈sortT ((Qm (noteAll (countAll c.width z).rs).follows person (hist (evs (countAll c.width z).rs) person)).map (·.1)))=Qh1 z person t:=fun t=>by
      unfold Qh1;rw[Bool.eq_iff_iff,decide_eq_true_iff,sortT_mem,Qh0,(count_parts c.width z).2,Qcd]
     have hMl:=Ql6 c z person hlen;have hs7:=hown7.sl strE_len;generalize sortT ((Qm (noteAll (countAll c.width z).rs).follows person (hist (evs (countAll c.width z).rs) person)).map (·.1))=M at hs7 hin hMl ⊢;have hx57:=hx6.trans hx7;have hsN:=hs5.ext hx57;have hx07:=hx3.trans (hx35.trans hx57);obtain⟨q,hqd⟩:∃ q:It→Bool,∀ t,q t=((decide (r=3)&&decide (t.maker∈M))||(decide (r=4)&&decide (now-t.born≤c.span))):=⟨_,fun _=>rfl⟩
     have hF:((Qer z now q).map (·.1)).take limit.toNat=Qc c z person now r limit:=by
      rcases hr34 with hr | hr
      · rw[hRL 3 (by decide) hr]
        have:q=Qh1 z person:=funext fun t=>by rw[hqd,← hin t,hr];simp
        rw[this]
        rfl
      · rw[hRL 4 (by decide) hr]
        have:q=Qn3 c now:=funext fun t=>by rw[hqd,hr];simp[Qn3]
        rw[this]
        rfl
     have hnp:=Qjb (z:=z) (now:=now) q;have hNl:=Qb0 z now;generalize Qr z now=N at hsN hnp hNl ⊢;clear hown7 hs5 hcr hin;have hW7:=hW.ext hx07;have hQ7:=hQ.ext hx07;have h37:=h3.ext (hx35.trans hx57);refine Gg ?_
     refine loop_rule Tt_ok (fun(x:Nat×Option Addr×Nat×List Ct) w'=>x.1≤N.length∧Ext w7 w'∧x.2.2.2=(((N.take x.1).filter fun n=>q (catAt (thingsE z) n now).1).map fun n=>((n,(catAt (thingsE z) n now).1.born):Ct)).foldl Qas []∧Sl tgC 2 w' x.2.1 x.2.2.2∧Srt Qad x.2.2.2∧x.2.2.2.length≤x.2.2.1∧x.2.2.2.length≤x.1)
      (fun | (i,B,d,L) => [(0,.pointer (some ⟨p,0,none⟩)),(1,.int .i64 r),(3,.int .i64 now),(4,.int .i64 limit),(11,.pointer (some ⟨b2,0,none⟩)),(20,.slice B L.length d),(21,.slice A5 N.length cp5),(22,.slice A7 M.length c7'),(23,.int .i64 (i:Nat))]) (fun x=>N.length-x.1) (0,none,0,[]) ⟨Nat.zero_le _,Ext.refl _,rfl,Sl.nil,Srt.nil,Nat.zero_le _,Nat.zero_le _⟩ Rr ?_
     rintro ⟨i,B,d,L⟩ wa ⟨hi,hxa,hL,hsB,hsr,hcap,hLi⟩;simp only at hi hL hsB hsr hcap hLi;refine Gg ?_;constructor
     · intro hlt
       have hlt:i<N.length:=by simpa using hlt
       obtain⟨ax,hAx,hcx⟩:=(hsN.ext hxa).get hlt;have htk:=Qjc (z:=z) (now:=now) (q:=q) hlt;rw[← hL] at htk;generalize N[i]=x at hcx htk;refine Gg ?_
       refine sem_cut (ι:=Nat) (fun b => [(0,.pointer (some ⟨p,0,none⟩)),(1,.int .i64 r),(3,.int .i64 now),(4,.int .i64 limit),(11,.pointer (some ⟨b2,0,none⟩)),(20,.slice B L.length d),(21,.slice A5 N.length cp5),(22,.slice A7 M.length c7'),(23,.int .i64 (i:Nat)),(24,.pointer (some ⟨b,0,none⟩))])
        (fun b w'=>Ext wa w'∧At w' b 53 (itC (catAt (thingsE z) x now).1)) ?_ ?_
       · refine draw_plan (.mods (fun k=>wa.heap.size≤k)) (Pl.seq [0,2,3,4,5,6] (Pl.two 1 (Pl.seq [] (Pl.two 7 (Pl.seq [8,9,10,11,12,13] Pl.done) 11 (Pl.seq [7,8,9,10,12,13] Pl.done))) 11 (Pl.seq [1,7,8,9,10,12,13] Pl.done))) (by intro h;cases h) Tt_ok mixed (by kernel_rfl) (Hh ?_)
         have hxd:Ext wa wa.drew:=(Ext.refl wa).drew;have hQc:=(hQ7.ext hxa).ext hxd;have hlb:¬ (wa.heap.size≤(ax.add (i*1)).block):=by have:=cell_lt (cells_head hcx);exact Nat.not_le.2 this
         replace hcx:CellsAt wa.drew (ax.add (i*1)) (strE x):=hcx;generalize wa.drew=w11 at hxd hQc hcx ⊢;refine⟨ax,⟨hAx,by omega,by omega⟩,Hh ?_⟩;refine⟨.string x,⟨cells_head hcx,hlb⟩,Hh ?_⟩;refine⟨?_,?_⟩
         · refine(Qj hQc).mono ?_
           rintro _ w13 ⟨pc2,S0,rfl,hcat2,hx13⟩;refine⟨Mod.of_ext hx13,Hh ?_⟩;refine⟨?_,?_⟩
           · refine(catAt_spec _ _ pc2 _ hcat2 x now hQc.rows).mono ?_
             rintro _ w14 ⟨rfl,hx14⟩;refine⟨Mod.of_ext hx14,Hh ?_⟩;intro b15 w15 hn15;have e15:=hn15.block;refine⟨Mod.of_ext hn15.ext,Hh ?_⟩;refine store_ptr Tt_ok (e:=ty53) rfl (hn15.At) rfl rfl rfl (Xi _) fun w16 h16 ho16 => ?_
             refine⟨mod_only ho16 (by have:=hxd.size;have:=hx13.size;have:=hx14.size;omega),Hh ?_⟩
             exact⟨b15,⟨ho16.ext ((hxd.trans hx13).trans (hx14.trans hn15.ext)) (by have:=hxd.size;have:=hx13.size;have:=hx14.size;omega),h16⟩,Rr⟩
           · intro b15 w15 hn15
             have e15:=hn15.block;refine⟨Mod.of_ext hn15.ext,Hh ?_⟩;replace hcat2:=hcat2.ext hn15.ext;refine(catAt_spec _ _ pc2 _ hcat2 x now hQc.rows).mono ?_;rintro _ w14 ⟨rfl,hx14⟩;refine⟨Mod.of_ext hx14,Hh ?_⟩;refine store_ptr Tt_ok (e:=ty53) rfl (hn15.At.ext hx14) rfl rfl rfl (Xi _) fun w16 h16 ho16 => ?_
             refine⟨mod_only ho16 (by have:=hxd.size;have:=hx13.size;omega),Hh ?_⟩
             exact⟨b15,⟨ho16.ext ((hxd.trans hx13).trans (hn15.ext.trans hx14)) (by have:=hxd.size;have:=hx13.size;omega),h16⟩,Rr⟩
         · intro b15 w15 hn15
           have e15:=hn15.block;refine⟨Mod.of_ext hn15.ext,Hh ?_⟩;refine(Qj (hQc.ext hn15.ext)).mono ?_;rintro _ w13 ⟨pc2,S0,rfl,hcat2,hx13⟩;refine⟨Mod.of_ext hx13,Hh ?_⟩;refine(catAt_spec _ _ pc2 _ hcat2 x now hQc.rows).mono ?_;rintro _ w14 ⟨rfl,hx14⟩;refine⟨Mod.of_ext hx14,Hh ?_⟩;refine store_ptr Tt_ok (e:=ty53) rfl ((hn15.At.ext hx13).ext hx14) rfl rfl rfl (Xi _) fun w16 h16 ho16 => ?_
           refine⟨mod_only ho16 (by have:=hxd.size;omega),Hh ?_⟩
           exact⟨b15,⟨ho16.ext (hxd.trans ((hn15.ext.trans hx13).trans hx14)) (by have:=hxd.size;omega),h16⟩,Rr⟩
       rintro b24 w11 ⟨hx11,h24⟩;have hbo:0≤(catAt (thingsE z) x now).1.born∧(catAt (thingsE z) x now).1.born≤1099511627776:=(Qht hm x now).2.2.2.2;generalize (catAt (thingsE z) x now).1=t at h24 htk hbo;have hqt:=hqd t;have hxa11:=hxa.trans hx11;refine Gg ?_;refine⟨.string t.maker,fun _=>h24.one rfl,Gg ?_⟩;refine⟨Unit,fun _=>(.bool (decide (t.maker∈M))),fun _ w'=>Ext w11 w',(),fun hg=>((Qgo M t.maker A7 c7' w11 (hs7.ext hxa11) hMl)).mono fun r w' h=>⟨(),h.1,h.2⟩,?_⟩;intro _ w12 h2
       have hx12:Ext w11 w12:=by
        rcases h2 with⟨_,h⟩ | ⟨_,h⟩
        · exact h
        · rw[h];exact Ext.refl _
       clear h2
       conv=>whnf
       replace h24:=h24.ext hx12;have hxa12:=hxa11.trans hx12;have h312:=h37.ext hxa12;refine⟨.int .i64 t.born,fun _ _=>h24.one rfl,Gg ?_⟩;refine⟨now-t.born,fun _ _=>wrap_eq rfl ⟨by omega,by omega⟩,Gg ?_⟩;refine⟨.int .i64 c.span,fun _ _=>h312.one rfl,Gg ?_⟩;constructor
       · intro hq2
         have hq2:q t=true:=by rw[hqt];exact hq2
         rw[if_pos hq2] at htk;clear hqt;refine Gg ?_;refine Dr .same [0,1,2,3,4,5,6,7] [8,9] (Hh ?_);have hxd:Ext w12 w12.drew:=(Ext.refl w12).drew;have hcd:=(hx11.trans (hx12.trans hxd)).cells hcx;replace h24:=h24.ext hxd;have hxa13:=hxa12.trans hxd;have hsB13:=hsB.ext ((hx11.trans hx12).trans hxd);generalize w12.drew=w13 at hxd hcd h24 hxa13 hsB13 ⊢;refine⟨ax,⟨hAx,by omega,by omega⟩,Gg ?_⟩;refine⟨.string x,cells_head hcd,Gg ?_⟩;refine⟨.int .i64 t.born,h24.one rfl,Gg ?_⟩;refine(Qci L (x,t.born) B d w13 hsB13 hsr (by omega) hcap).mono ?_;rintro _ w14 ⟨B',d',rfl,hcap',hsB',_,hx14⟩;have hpl2:=Qfw L (x,t.born);have hsr':=Qc7 (x:=(x,t.born)) hsr;rw[← htk] at hcap' hsB' hpl2 hsr' ⊢;generalize hL2:(((N.take (i+1)).filter fun n=>q (catAt (thingsE z) n now).1).map fun n=>((n,(catAt (thingsE z) n now).1.born):Ct)).foldl Qas []=L2 at htk hcap' hsB' hpl2 hsr' ⊢;refine Gg ?_;refine⟨_,wrap_succ (by omega),Gg ?_⟩
         exact⟨(i+1,B',d',L2),by simp only;omega,⟨by simp only;omega,hxa13.trans hx14,hL2.symm,hsB',hsr',hcap',by simp only;omega⟩,Rr⟩
       · intro hq2
         have hq2:¬ q t=true:=by rw[hqt];rw[Bool.not_eq_true];exact hq2
         rw[if_neg hq2] at htk;refine Gg ?_;refine⟨_,wrap_succ (by omega),Gg ?_⟩
         exact⟨(i+1,B,d,L),by simp only;omega,⟨by simp only;omega,hxa12,htk.symm,hsB.ext (hx11.trans hx12),hsr,hcap,by simp only;omega⟩,Rr⟩
     intro hge;have hge:N.length≤i:=by simpa using hge
     rw[List.take_of_length_le hge,hnp] at hL;rw[← hL] at hF;refine Gg ?_;refine(X4 L limit B d wa hsB (by omega)).mono ?_;rintro _ wb ⟨A8,c8,rfl,hown8,hx8⟩;refine Gg ?_
     exact Qak hW ((hx07.trans hxa).trans hx8) hF (hown8.base (hx07.trans hxa).size)
   · intro hh
     exfalso
     simp at hh
     omega
 intro hq3;refine Gg ?_;constructor
 · intro hq
   have hr:r=(4:Nat):=by simpa using hq
   have hr34:r=(3:Nat)∨r=(4:Nat) := .inr hr;refine Gg ?_;refine(Qj hQ3).mono ?_;rintro _ w4 ⟨pc,S4,rfl,hcat,hx4⟩;refine Gg ?_;refine(Qcg w4 S4 pc _ hcat now (fun name=>hQ.rows) hcl).mono ?_;rintro _ w5 ⟨A5,cp5,K0,rfl,hs5,hn0,hm0,hl5,hx5⟩;have hK0:=Qdp hn0 hm0;rw[hK0] at hs5 ⊢;clear hn0 hm0 hK0 hl5 K0 hcat;have hx35:=hx4.trans hx5;have hQ5:=hQ3.ext hx35;refine Gg ?_;refine(Qh hQ5).mono ?_;rintro _ w6 ⟨pw,S6,rfl,hcr,hx6⟩;refine Gg ?_;refine(Qbh w6 S6 pw _ _ hcr (fun r hr=>(hrs r hr).1) (by omega) person).mono ?_;rintro _ w7 ⟨A7,c7',rfl,hown7,hx7⟩
   have hin:∀ t:It,decide (t.maker∈sortT ((Qm (noteAll (countAll c.width z).rs).follows person (hist (evs (countAll c.width z).rs) person)).map (·.1)))=Qh1 z person t:=fun t=>by
    unfold Qh1;rw[Bool.eq_iff_iff,decide_eq_true_iff,sortT_mem,Qh0,(count_parts c.width z).2,Qcd]
   have hMl:=Ql6 c z person hlen;have hs7:=hown7.sl strE_len;generalize sortT ((Qm (noteAll (countAll c.width z).rs).follows person (hist (evs (countAll c.width z).rs) person)).map (·.1))=M at hs7 hin hMl ⊢;have hx57:=hx6.trans hx7;have hsN:=hs5.ext hx57;have hx07:=hx3.trans (hx35.trans hx57);obtain⟨q,hqd⟩:∃ q:It→Bool,∀ t,q t=((decide (r=3)&&decide (t.maker∈M))||(decide (r=4)&&decide (now-t.born≤c.span))):=⟨_,fun _=>rfl⟩
   have hF:((Qer z now q).map (·.1)).take limit.toNat=Qc c z person now r limit:=by
    rcases hr34 with hr | hr
    · rw[hRL 3 (by decide) hr]
      have:q=Qh1 z person:=funext fun t=>by rw[hqd,← hin t,hr];simp
      rw[this]
      rfl
    · rw[hRL 4 (by decide) hr]
      have:q=Qn3 c now:=funext fun t=>by rw[hqd,hr];simp[Qn3]
      rw[this]
      rfl
   have hnp:=Qjb (z:=z) (now:=now) q;have hNl:=Qb0 z now;generalize Qr z now=N at hsN hnp hNl ⊢;clear hown7 hs5 hcr hin;have hW7:=hW.ext hx07;have hQ7:=hQ.ext hx07;have h37:=h3.ext (hx35.trans hx57);refine Gg ?_
   refine loop_rule Tt_ok (fun(x:Nat×Option Addr×Nat×List Ct) w'=>x.1≤N.length∧Ext w7 w'∧x.2.2.2=(((N.take x.1).filter fun n=>q (catAt (thingsE z) n now).1).map fun n=>((n,(catAt (thingsE z) n now).1.born):Ct)).foldl Qas []∧Sl tgC 2 w' x.2.1 x.2.2.2∧Srt Qad x.2.2.2∧x.2.2.2.length≤x.2.2.1∧x.2.2.2.length≤x.1)
    (fun | (i,B,d,L) => [(0,.pointer (some ⟨p,0,none⟩)),(1,.int .i64 r),(3,.int .i64 now),(4,.int .i64 limit),(11,.pointer (some ⟨b2,0,none⟩)),(20,.slice B L.length d),(21,.slice A5 N.length cp5),(22,.slice A7 M.length c7'),(23,.int .i64 (i:Nat))]) (fun x=>N.length-x.1) (0,none,0,[]) ⟨Nat.zero_le _,Ext.refl _,rfl,Sl.nil,Srt.nil,Nat.zero_le _,Nat.zero_le _⟩ Rr ?_
   rintro ⟨i,B,d,L⟩ wa ⟨hi,hxa,hL,hsB,hsr,hcap,hLi⟩;simp only at hi hL hsB hsr hcap hLi;refine Gg ?_;constructor
   · intro hlt
     have hlt:i<N.length:=by simpa using hlt
     obtain⟨ax,hAx,hcx⟩:=(hsN.ext hxa).get hlt;have htk:=Qjc (z:=z) (now:=now) (q:=q) hlt;rw[← hL] at htk;generalize N[i]=x at hcx htk;refine Gg ?_
     refine sem_cut (ι:=Nat) (fun b => [(0,.pointer (some ⟨p,0,none⟩)),(1,.int .i64 r),(3,.int .i64 now),(4,.int .i64 limit),(11,.pointer (some ⟨b2,0,none⟩)),(20,.slice B L.length d),(21,.slice A5 N.length cp5),(22,.slice A7 M.length c7'),(23,.int .i64 (i:Nat)),(24,.pointer (some ⟨b,0,none⟩))])
      (fun b w'=>Ext wa w'∧At w' b 53 (itC (catAt (thingsE z) x now).1)) ?_ ?_
     · refine draw_plan (.mods (fun k=>wa.heap.size≤k)) (Pl.seq [0,2,3,4,5,6] (Pl.two 1 (Pl.seq [] (Pl.two 7 (Pl.seq [8,9,10,11,12,13] Pl.done) 11 (Pl.seq [7,8,9,10,12,13] Pl.done))) 11 (Pl.seq [1,7,8,9,10,12,13] Pl.done))) (by intro h;cases h) Tt_ok mixed (by kernel_rfl) (Hh ?_)
       have hxd:Ext wa wa.drew:=(Ext.refl wa).drew;have hQc:=(hQ7.ext hxa).ext hxd;have hlb:¬ (wa.heap.size≤(ax.add (i*1)).block):=by have:=cell_lt (cells_head hcx);exact Nat.not_le.2 this
       replace hcx:CellsAt wa.drew (ax.add (i*1)) (strE x):=hcx;generalize wa.drew=w11 at hxd hQc hcx ⊢;refine⟨ax,⟨hAx,by omega,by omega⟩,Hh ?_⟩;refine⟨.string x,⟨cells_head hcx,hlb⟩,Hh ?_⟩;refine⟨?_,?_⟩
       · refine(Qj hQc).mono ?_
         rintro _ w13 ⟨pc2,S0,rfl,hcat2,hx13⟩;refine⟨Mod.of_ext hx13,Hh ?_⟩;refine⟨?_,?_⟩
         · refine(catAt_spec _ _ pc2 _ hcat2 x now hQc.rows).mono ?_
           rintro _ w14 ⟨rfl,hx14⟩;refine⟨Mod.of_ext hx14,Hh ?_⟩;intro b15 w15 hn15;have e15:=hn15.block;refine⟨Mod.of_ext hn15.ext,Hh ?_⟩;refine store_ptr Tt_ok (e:=ty53) rfl (hn15.At) rfl rfl rfl (Xi _) fun w16 h16 ho16 => ?_
           refine⟨mod_only ho16 (by have:=hxd.size;have:=hx13.size;have:=hx14.size;omega),Hh ?_⟩
           exact⟨b15,⟨ho16.ext ((hxd.trans hx13).trans (hx14.trans hn15.ext)) (by have:=hxd.size;have:=hx13.size;have:=hx14.size;omega),h16⟩,Rr⟩
         · intro b15 w15 hn15
           have e15:=hn15.block;refine⟨Mod.of_ext hn15.ext,Hh ?_⟩;replace hcat2:=hcat2.ext hn15.ext;refine(catAt_spec _ _ pc2 _ hcat2 x now hQc.rows).mono ?_;rintro _ w14 ⟨rfl,hx14⟩;refine⟨Mod.of_ext hx14,Hh ?_⟩;refine store_ptr Tt_ok (e:=ty53) rfl (hn15.At.ext hx14) rfl rfl rfl (Xi _) fun w16 h16 ho16 => ?_
           refine⟨mod_only ho16 (by have:=hxd.size;have:=hx13.size;omega),Hh ?_⟩
           exact⟨b15,⟨ho16.ext ((hxd.trans hx13).trans (hn15.ext.trans hx14)) (by have:=hxd.size;have:=hx13.size;omega),h16⟩,Rr⟩
       · intro b15 w15 hn15
         have e15:=hn15.block;refine⟨Mod.of_ext hn15.ext,Hh ?_⟩;refine(Qj (hQc.ext hn15.ext)).mono ?_;rintro _ w13 ⟨pc2,S0,rfl,hcat2,hx13⟩;refine⟨Mod.of_ext hx13,Hh ?_⟩;refine(catAt_spec _ _ pc2 _ hcat2 x now hQc.rows).mono ?_;rintro _ w14 ⟨rfl,hx14⟩;refine⟨Mod.of_ext hx14,Hh ?_⟩;refine store_ptr Tt_ok (e:=ty53) rfl ((hn15.At.ext hx13).ext hx14) rfl rfl rfl (Xi _) fun w16 h16 ho16 => ?_
         refine⟨mod_only ho16 (by have:=hxd.size;omega),Hh ?_⟩
         exact⟨b15,⟨ho16.ext (hxd.trans ((hn15.ext.trans hx13).trans hx14)) (by have:=hxd.size;omega),h16⟩,Rr⟩
     rintro b24 w11 ⟨hx11,h24⟩;have hbo:0≤(catAt (thingsE z) x now).1.born∧(catAt (thingsE z) x now).1.born≤1099511627776:=(Qht hm x now).2.2.2.2;generalize (catAt (thingsE z) x now).1=t at h24 htk hbo;have hqt:=hqd t;have hxa11:=hxa.trans hx11;refine Gg ?_;refine⟨.string t.maker,fun _=>h24.one rfl,Gg ?_⟩;refine⟨Unit,fun _=>(.bool (decide (t.maker∈M))),fun _ w'=>Ext w11 w',(),fun hg=>((Qgo M t.maker A7 c7' w11 (hs7.ext hxa11) hMl)).mono fun r w' h=>⟨(),h.1,h.2⟩,?_⟩;intro _ w12 h2
     have hx12:Ext w11 w12:=by
      rcases h2 with⟨_,h⟩ | ⟨_,h⟩
      · exact h
      · rw[h];exact Ext.refl _
     clear h2
     conv=>whnf
     replace h24:=h24.ext hx12;have hxa12:=hxa11.trans hx12;have h312:=h37.ext hxa12;refine⟨.int .i64 t.born,fun _ _=>h24.one rfl,Gg ?_⟩;refine⟨now-t.born,fun _ _=>wrap_eq rfl ⟨by omega,by omega⟩,Gg ?_⟩;refine⟨.int .i64 c.span,fun _ _=>h312.one rfl,Gg ?_⟩;constructor
     · intro hq2
       have hq2:q t=true:=by rw[hqt];exact hq2
       rw[if_pos hq2] at htk;clear hqt;refine Gg ?_;refine Dr .same [0,1,2,3,4,5,6,7] [8,9] (Hh ?_);have hxd:Ext w12 w12.drew:=(Ext.refl w12).drew;have hcd:=(hx11.trans (hx12.trans hxd)).cells hcx;replace h24:=h24.ext hxd;have hxa13:=hxa12.trans hxd;have hsB13:=hsB.ext ((hx11.trans hx12).trans hxd);generalize w12.drew=w13 at hxd hcd h24 hxa13 hsB13 ⊢;refine⟨ax,⟨hAx,by omega,by omega⟩,Gg ?_⟩;refine⟨.string x,cells_head hcd,Gg ?_⟩;refine⟨.int .i64 t.born,h24.one rfl,Gg ?_⟩;refine(Qci L (x,t.born) B d w13 hsB13 hsr (by omega) hcap).mono ?_;rintro _ w14 ⟨B',d',rfl,hcap',hsB',_,hx14⟩;have hpl2:=Qfw L (x,t.born);have hsr':=Qc7 (x:=(x,t.born)) hsr;rw[← htk] at hcap' hsB' hpl2 hsr' ⊢;generalize hL2:(((N.take (i+1)).filter fun n=>q (catAt (thingsE z) n now).1).map fun n=>((n,(catAt (thingsE z) n now).1.born):Ct)).foldl Qas []=L2 at htk hcap' hsB' hpl2 hsr' ⊢;refine Gg ?_;refine⟨_,wrap_succ (by omega),Gg ?_⟩
       exact⟨(i+1,B',d',L2),by simp only;omega,⟨by simp only;omega,hxa13.trans hx14,hL2.symm,hsB',hsr',hcap',by simp only;omega⟩,Rr⟩
     · intro hq2
       have hq2:¬ q t=true:=by rw[hqt];rw[Bool.not_eq_true];exact hq2
       rw[if_neg hq2] at htk;refine Gg ?_;refine⟨_,wrap_succ (by omega),Gg ?_⟩
       exact⟨(i+1,B,d,L),by simp only;omega,⟨by simp only;omega,hxa12,htk.symm,hsB.ext (hx11.trans hx12),hsr,hcap,by simp only;omega⟩,Rr⟩
   intro hge;have hge:N.length≤i:=by simpa using hge
   rw[List.take_of_length_le hge,hnp] at hL;rw[← hL] at hF;refine Gg ?_;refine(X4 L limit B d wa hsB (by omega)).mono ?_;rintro _ wb ⟨A8,c8,rfl,hown8,hx8⟩;refine Gg ?_
   exact Qak hW ((hx07.trans hxa).trans hx8) hF (hown8.base (hx07.trans hxa).size)
 intro hq4;refine Gg ?_;constructor
 · intro hq
   have hr:r=(5:Nat):=by simpa using hq
   refine Gg ?_;refine(Qjl hQ3 hok person now hnow).mono ?_;rintro _ w4 ⟨A4,c4',rfl,hs4,_,hx4⟩;have hLl:=Qm8 c z person now
   have hF:(((Qkv c z person now).filter (keepR (countAll c.width z).rs person)).map (·.1)).take limit.toNat=Qc c z person now r limit:=by
    rw[hRL 5 (by decide) hr];unfold Qkv;rw[Qg9]
    rfl
   generalize Qkv c z person now=L at hs4 hLl hF ⊢;have hx04:=hx3.trans hx4;have hQ4:=hQ3.ext hx4;refine Gg ?_
   refine loop_rule Tt_ok (fun(x:Nat×Option Addr×Nat×List Ct) w'=>x.1≤L.length∧Ext w4 w'∧x.2.2.2=(L.take x.1).filter (keepR (countAll c.width z).rs person)∧Own tgC 2 101 w4.heap.size w' x.2.1 x.2.2.1 x.2.2.2)
    (fun | (i,B,d,F) => [(0,.pointer (some ⟨p,0,none⟩)),(2,.string person),(4,.int .i64 limit),(26,.slice B F.length d),(27,.slice A4 L.length c4'),(28,.int .i64 (i:Nat))]) (fun x=>L.length-x.1) (0,none,0,[]) ⟨Nat.zero_le _,Ext.refl _,rfl,Own.nil⟩ Rr ?_
   rintro ⟨i,B,d,F⟩ wa ⟨hi,hxa,hFl,hown⟩;simp only at hi hFl hown
   have hFi:F.length≤i:=by
    rw[hFl];refine Nat.le_trans (List.length_filter_le _ _) ?_;rw[List.length_take];omega
   refine Gg ?_;constructor
   · intro hlt
     have hlt:i<L.length:=by simpa using hlt
     obtain⟨ax,hAx,hcx⟩:=(hs4.ext hxa).get hlt
     have htk:(L.take (i+1)).filter (keepR (countAll c.width z).rs person)=F++if keepR (countAll c.width z).rs person L[i]=true then [L[i]] else []:=by
      rw[List.take_succ_eq_append_getElem hlt,List.filter_append,← hFl]
      congr 1
      by_cases hk:keepR (countAll c.width z).rs person L[i]=true
      · rw[if_pos hk,List.filter_cons_of_pos hk];rfl
      · rw[if_neg hk,List.filter_cons_of_neg hk];rfl
     generalize L[i]=x at hcx htk;refine Gg ?_;refine Dr .ext [0,1,2,3,4,5,6,7,9,10,11,12,13,14,8,15,16,17,18,19,21,22,23,24,25,26,20] [27,28,29] (Hh ?_);have hxd:Ext wa wa.drew:=(Ext.refl wa).drew;have hQd:=(hQ4.ext hxa).ext hxd;have hcd:=hxd.cells hcx;generalize wa.drew=w12 at hxd hQd hcd ⊢;refine⟨ax,⟨hAx,by omega,by omega⟩,Gg ?_⟩;refine⟨.int .i64 x.2,cells_at hcd (k:=1) rfl,Gg ?_⟩;refine⟨ax,fun _=>⟨hAx,by omega,by omega⟩,Gg ?_⟩;refine⟨.string x.1,fun _=>cells_at hcd (k:=0) rfl,Gg ?_⟩;refine⟨Nat,fun pw => .pointer (some ⟨pw,0,none⟩),fun pw w'=>(∃ S,CrowdAt w' S pw (halfN c.half) (countAll c.width z).rs)∧Ext w12 w',0,fun _=>(Qh hQd).mono fun r w' hh => ?_,?_⟩
     · obtain⟨pw,S,h1,h2,h3⟩:=hh
       exact⟨pw,h1,⟨S,h2⟩,h3⟩
     intro pw13 w13 hh
     have hx13:Ext w12 w13:=by
      rcases hh with⟨_,hh⟩ | ⟨_,hh⟩
      · exact hh.2
      · rw[hh];exact Ext.refl _
     have hS13:(decide (0<x.2))=true→∃ S,CrowdAt w13 S pw13 (halfN c.half) (countAll c.width z).rs:=fun hl=>by
      rcases hh with⟨_,hh⟩ | ⟨hg,_⟩
      · exact hh.1
      · exact(hg ⟨hl,trivial⟩).elim
     clear hh;replace hQd:=hQd.ext hx13;refine⟨hx13,?_⟩;refine Gg ?_;refine⟨Unit,fun _ => .bool (Qcc (countAll c.width z).rs person x.1),fun _ w'=>Ext w13 w',(),fun hg => ?_,?_⟩
     · obtain⟨S,hc⟩:=hS13 hg
       refine(Qdi w13 S pw13 _ _ hc person x.1).mono ?_;rintro r w' ⟨hr,hx⟩
       exact⟨(),hr,hx⟩
     rintro ⟨⟩ w14 hh
     have hx14:Ext w13 w14:=by
      rcases hh with⟨_,hh⟩ | ⟨_,hh⟩
      · exact hh
      · rw[hh];exact Ext.refl _
     clear hh;replace hQd:=hQd.ext hx14;refine⟨hx14,?_⟩;refine Gg ?_;refine⟨ax,fun _=>⟨hAx,by omega,by omega⟩,Gg ?_⟩;refine⟨.string x.1,fun _=>cells_at ((hx13.trans hx14).cells hcd) (k:=0) rfl,Gg ?_⟩;refine⟨Nat,fun pw => .pointer (some ⟨pw,0,none⟩),fun pw w'=>(∃ S,CrowdAt w' S pw (halfN c.half) (countAll c.width z).rs)∧Ext w14 w',0,fun _=>(Qh hQd).mono fun r w' hh => ?_,?_⟩
     · obtain⟨pw,S,h1,h2,h3⟩:=hh
       exact⟨pw,h1,⟨S,h2⟩,h3⟩
     intro pw15 w15 hh
     have hx15:Ext w14 w15:=by
      rcases hh with⟨_,hh⟩ | ⟨_,hh⟩
      · exact hh.2
      · rw[hh];exact Ext.refl _
     have hS15:(decide (0<x.2) && !Qcc (countAll c.width z).rs person x.1)=true→∃ S,CrowdAt w15 S pw15 (halfN c.half) (countAll c.width z).rs:=fun hl=>by
      rcases hh with⟨_,hh⟩ | ⟨hg,_⟩
      · exact hh.1
      · exact(hg ⟨hl,trivial⟩).elim
     clear hh;replace hQd:=hQd.ext hx15;refine⟨hx15,?_⟩;refine Gg ?_;refine⟨Unit,fun _ => .bool (Qng (countAll c.width z).rs person x.1),fun _ w'=>Ext w15 w',(),fun hg => ?_,?_⟩
     · obtain⟨S,hc⟩:=hS15 hg
       refine(Qbe w15 S pw15 _ _ hc person x.1).mono ?_;rintro r w' ⟨hr,hx⟩
       exact⟨(),hr,hx⟩
     rintro ⟨⟩ w16 hh
     have hx16:Ext w15 w16:=by
      rcases hh with⟨_,hh⟩ | ⟨_,hh⟩
      · exact hh
      · rw[hh];exact Ext.refl _
     clear hh;replace hQd:=hQd.ext hx16;refine Gg ?_;have hxa16:=hxd.trans ((hx13.trans hx14).trans (hx15.trans hx16))
     have hkq:((decide (0<x.2) && !Qcc (countAll c.width z).rs person x.1) && !Qng (countAll c.width z).rs person x.1)=keepR (countAll c.width z).rs person x:=by
      unfold keepR;rw[Bool.not_or,Bool.not_or,← decide_not,Bool.and_assoc]
      congr 1
      exact decide_eq_decide.2 (by omega)
     constructor
     · intro hq2
       have hq2:keepR (countAll c.width z).rs person x=true:=hkq ▸ hq2;rw[if_pos hq2] at htk;refine Gg ?_;refine⟨ax,⟨hAx,by omega,by omega⟩,Gg ?_⟩;refine⟨tgC x,⟨rfl,hxa16.cells hcx⟩,Gg ?_⟩;intro be we hne;refine Gg ?_;refine Qa Qaf (l:=F) (news := [x]) rfl ((hown.ext hxa16).ext hne.ext) rfl (Qaf.new1 (x:=x) hne) (by simp;omega) ((hxa.trans hxa16).trans hne.ext).size fun Af cf wf hownf hgf hAf => ?_
       have hxf:=ext_grown ((hxa.trans hxa16).trans hne.ext) hgf (Qd ((hown.ext hxa16).ext hne.ext));generalize F ++ [x]=F2 at hownf htk ⊢;refine Gg ?_;refine⟨_,wrap_succ (by omega),Gg ?_⟩
       exact⟨(i+1,Af,cf,F2),by simp only;omega,⟨by simp only;omega,hxf,htk.symm,hownf⟩,Rr⟩
     · intro hq2
       have hq2:¬ keepR (countAll c.width z).rs person x=true:=by rw[← hkq,Bool.not_eq_true];exact hq2
       rw[if_neg hq2,List.append_nil] at htk;refine Gg ?_;refine⟨_,wrap_succ (by omega),Gg ?_⟩
       exact⟨(i+1,B,d,F),by simp only;omega,⟨by simp only;omega,hxa.trans hxa16,htk.symm,hown.ext hxa16⟩,Rr⟩
   intro hge;have hge:L.length≤i:=by simpa using hge
   rw[List.take_of_length_le hge] at hFl;rw[← hFl] at hF;refine Gg ?_;refine(X4 F limit B d wa (hown.sl Qp4) (by omega)).mono ?_;rintro _ wb ⟨A8,c8,rfl,hown8,hx8⟩;refine Gg ?_
   exact Qak hW ((hx04.trans hxa).trans hx8) hF (hown8.base (hx04.trans hxa).size)
 intro hq5;refine Gg ?_
 exact Qak (K := []) hW hx3 (Qb2 (by simp at hq0 hq1 hq2 hq3 hq4 hq5;omega)).symm (Own.nil)
end Go.Proofs.YtagijlhciclafaaGreatDoor
