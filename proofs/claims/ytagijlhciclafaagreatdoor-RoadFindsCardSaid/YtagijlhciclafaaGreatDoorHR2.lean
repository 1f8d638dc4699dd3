import Derived.Test.YtagijlhciclafaaGreatDoorHR1
/- The law RoadStrangers: the walk. -/
set_option linter.unusedVariables false
set_option linter.unusedSimpArgs false
namespace Go.Proofs.YtagijlhciclafaaGreatDoor
open Go.Se Go.RowKit
theorem Qi4 {c:Cfg} {z:List Ev} {person:ByteArray} {now limit:Int} {n:Nat} {T:Nat→Prop} {w:World} {A:Option Addr} {H:List Cd} (h:Qqk c z person now limit n T w A H):H.length=(Xc c z person now limit).length:=by rw[← h.keys,List.length_map]
theorem Qle {c:Cfg} {z:List Ev} {person other:ByteArray} (now limit:Int) (h:histE z person = []) (k:histE z other = []):Xc c z person now limit=Xc c z other now limit:=by
 unfold Xc;rw[show (fun r:Nat=>Qc c z person now (r:Nat) limit)=fun r:Nat=>Qc c z other now (r:Nat) limit from funext fun r=>Qg5 now limit h k _]
set_option maxHeartbeats 4000000 in
theorem roadStrangers_spec (c:Cfg) (l:List Ev) (person other:ByteArray) (now limit:Int) (A:Option Addr) (cap:Nat) (w:World) (hg0:Gl w) (hs:SlE w A l) (hl:-9223372036854775808≤limit∧limit≤9223372036854775807) :
 Cal Tryz.prog 6 [cfgV c,.slice A l.length cap,.string person,.string other,.int .i64 now,.int .i64 limit] w fun r w'=>r = .bool true∧Ext w w':=by
 refine Fi Tryz.func6 rfl _ rfl rfl (Hh ?_);intro b1 w1 hn1;refine Gg ?_;have h1:At w1 b1 23 (cfgC c):=hn1.At;have hx:=hn1.ext;clear hn1;refine(Xr w1 (hg0.ext hx)).mono ?_;rintro _ w2 ⟨rfl,hx2⟩;replace h1:=h1.ext hx2;replace hx:=hx.trans hx2;clear hx2;refine Gg ?_;constructor
 · intro h;simp at h
 intro _;refine Gg ?_;refine⟨cfgC c,⟨rfl,h1.all⟩,Gg ?_⟩;have z2:=hx.size;refine(Xt c l A cap w2 (hg0.ext hx) (hs.ext hx)).mono ?_;rintro r0 w3 ⟨hx3,hr3⟩;replace hx:=hx.trans hx3;clear hx3 h1;rcases hr3 with⟨_,rfl⟩ | ⟨hok,p,T,rfl,hW,hT⟩
 · refine Gg ?_
   refine⟨_,eqRun_ptr_nil' Qcm _ _ _,Gg ?_⟩;refine⟨Unit,fun _ => .pointer none,fun _ _=>False,(),fun hg => ?_,?_⟩
   · exfalso;simp[Hol] at hg
   rintro _ w4 hh
   have hx4:Ext w3 w4:=by
    rcases hh with⟨_,hh⟩ | ⟨_,hh⟩
    · exact hh.elim
    · rw[hh];exact Ext.refl _
   clear hh;refine Gg ?_;refine⟨Unit,fun _ => .slice none 0 0,fun _ _=>False,(),fun hg => ?_,?_⟩
   · exfalso;simp[Hol] at hg
   rintro _ w5 hh
   have hx5:Ext w4 w5:=by
    rcases hh with⟨_,hh⟩ | ⟨_,hh⟩
    · exact hh.elim
    · rw[hh];exact Ext.refl _
   clear hh;refine Gg ?_;refine⟨Unit,fun _ => .pointer none,fun _ _=>False,(),fun hg => ?_,?_⟩
   · exfalso;simp[Hol] at hg
   rintro _ w6 hh
   have hx6:Ext w5 w6:=by
    rcases hh with⟨_,hh⟩ | ⟨_,hh⟩
    · exact hh.elim
    · rw[hh];exact Ext.refl _
   clear hh;refine Gg ?_;refine⟨Unit,fun _ => .slice none 0 0,fun _ _=>False,(),fun hg => ?_,?_⟩
   · exfalso;simp[Hol] at hg
   rintro _ w7 hh
   have hx7:Ext w6 w7:=by
    rcases hh with⟨_,hh⟩ | ⟨_,hh⟩
    · exact hh.elim
    · rw[hh];exact Ext.refl _
   clear hh;refine Gg ?_;constructor
   · intro _
     refine Gg ?_
     exact⟨rfl,(hx.trans hx4).trans ((hx5.trans hx6).trans hx7)⟩
   · intro h;simp at h
 have hsc:=Qcf hok;generalize anewL l=z at hW hsc;obtain⟨v,T0,hQ⟩:=(Q9 hsc).wq hW;have hm:=hQ.may;have hS:=(Qd5 c z hm hsc.len).len;replace hT:∀ k,T k→w.heap.size≤k:=fun k hk=>Nat.le_trans z2 (hT k hk)
 have hzl:=hsc.len
 have hpl:(countAll c.width z).rs.length<1000000:=by
  have:=Qex c.width z;omega
 have hev:∀ x,hist (evs (countAll c.width z).rs) x=histE z x:=fun x=>by rw[(count_parts c.width z).2];rfl
 refine Gg ?_;refine⟨_,eqRun_ptr_nil' Qcm _ _ _,Gg ?_⟩;simp only[Option.isNone_some,Bool.false_or];generalize hg1:(decide ((300:Int)<(person.size:Nat))||decide ((300:Int)<(other.size:Nat)))=g1;refine⟨Nat,fun pw => .pointer (some ⟨pw,0,none⟩),fun pw w'=>(∃ S,CrowdAt w' S pw (halfN c.half) (countAll c.width z).rs)∧Ext w3 w',0,fun _=>(Qh hQ).mono fun r w' hh => ?_,?_⟩
 · obtain⟨pw,S,h1,h2,h3⟩:=hh
   exact⟨pw,h1,⟨S,h2⟩,h3⟩
 intro pw4 w4 hh
 have hx4:Ext w3 w4:=by
  rcases hh with⟨_,hh⟩ | ⟨_,hh⟩
  · exact hh.2
  · rw[hh];exact Ext.refl _
 have hS4:g1=false→∃ S,CrowdAt w4 S pw4 (halfN c.half) (countAll c.width z).rs:=fun hl=>by
  rcases hh with⟨_,hh⟩ | ⟨hg,_⟩
  · exact hh.1
  · exact(hg ⟨hl,trivial⟩).elim
 clear hh;refine Gg ?_;refine⟨Option Addr×Nat,fun i => .slice i.1 (histE z person).length i.2,fun _ w'=>Ext w4 w',(none,0),fun hg => ?_,?_⟩
 · obtain⟨S,hc⟩:=hS4 hg
   refine(Xl w4 S pw4 _ _ hc person hpl).mono ?_;rintro r w' ⟨Ah,ch,hr,_,hx⟩;rw[hev] at hr
   exact⟨(Ah,ch),hr,hx⟩
 rintro ⟨A5,cA5⟩ w5 hh
 have hx5:Ext w4 w5:=by
  rcases hh with⟨_,hh⟩ | ⟨_,hh⟩
  · exact hh
  · rw[hh];exact Ext.refl _
 clear hh;refine Gg ?_;replace hQ:=hQ.ext (hx4.trans hx5);refine⟨Nat,fun pw => .pointer (some ⟨pw,0,none⟩),fun pw w'=>(∃ S,CrowdAt w' S pw (halfN c.half) (countAll c.width z).rs)∧Ext w5 w',0,fun _=>(Qh hQ).mono fun r w' hh => ?_,?_⟩
 · obtain⟨pw,S,h1,h2,h3⟩:=hh
   exact⟨pw,h1,⟨S,h2⟩,h3⟩
 intro pw6 w6 hh
 have hx6:Ext w5 w6:=by
  rcases hh with⟨_,hh⟩ | ⟨_,hh⟩
  · exact hh.2
  · rw[hh];exact Ext.refl _
 have hS6:(g1||decide ((0:Int)<((histE z person).length:Nat)))=false→∃ S,CrowdAt w6 S pw6 (halfN c.half) (countAll c.width z).rs:=fun hl=>by
  rcases hh with⟨_,hh⟩ | ⟨hg,_⟩
  · exact hh.1
  · exact(hg ⟨hl,trivial⟩).elim
 clear hh;refine Gg ?_;refine⟨Option Addr×Nat,fun i => .slice i.1 (histE z other).length i.2,fun _ w'=>Ext w6 w',(none,0),fun hg => ?_,?_⟩
 · obtain⟨S,hc⟩:=hS6 hg
   refine(Xl w6 S pw6 _ _ hc other hpl).mono ?_;rintro r w' ⟨Ah,ch,hr,_,hx⟩;rw[hev] at hr
   exact⟨(Ah,ch),hr,hx⟩
 rintro ⟨A7,cA7⟩ w7 hh
 have hx7:Ext w6 w7:=by
  rcases hh with⟨_,hh⟩ | ⟨_,hh⟩
  · exact hh
  · rw[hh];exact Ext.refl _
 clear hh;refine Gg ?_;have hx37:=(hx4.trans hx5).trans (hx6.trans hx7);have hW7:=hW.ext hx37;have hx07:=hx.trans hx37;clear hW hQ hS4 hS6 hx4 hx5 hx6 hx7 hg1;constructor
 · intro _
   refine Gg ?_
   exact⟨rfl,hx07⟩
 intro hcd;have hcd:((g1||decide ((0:Int)<((histE z person).length:Nat)))||decide ((0:Int)<((histE z other).length:Nat)))=false:=hcd;rw[Bool.or_eq_false_iff,Bool.or_eq_false_iff] at hcd;obtain⟨⟨_,hp0⟩,ho0⟩:=hcd;have hp0:histE z person = []:=List.length_eq_zero_iff.1 (by simp only[decide_eq_false_iff_not] at hp0;omega);have ho0:histE z other = []:=List.length_eq_zero_iff.1 (by simp only[decide_eq_false_iff_not] at ho0;omega);refine Gg ?_
 refine loop_rule Tt_ok (fun(q:Nat×(Nat→Prop)) w'=>q.1≤6∧WT w' q.2 p c z∧(∀ i,q.2 i→w.heap.size≤i)∧Ext w w')
  (fun | (k,_) => [(2,.string person),(3,.string other),(4,.int .i64 now),(5,.int .i64 limit),(13,.pointer (some ⟨p,0,none⟩)),(14,.int .i64 (k:Nat))]) (fun q=>6-q.1) (0,T) ⟨Nat.zero_le _,hW7,hT,hx07⟩ Rr ?_
 clear hW7 hT hx07;rintro ⟨k,T8⟩ w8 ⟨hk,hW8,hT8,hx8⟩;simp only at hk hW8 hT8;have z8:=hx8.size;refine Gg ?_;constructor
 · intro hlt
   have hlt:k<6:=by
    have:(k:Int)<6:=by simpa using hlt
    omega
   have hsame:=Qg5 (c:=c) now limit hp0 ho0 (k:Nat);have hemp:=Qkm (c:=c) now limit hp0 (k:Nat);have hfew:=Xf hm hS person now (k:Nat) limit;refine Gg ?_;refine(X5 (Q9 hsc) hW8 hsc k person now limit hl.2).mono ?_;rintro _ w9 ⟨A9,c9,T9,rfl,hown9,hA9,hW9,hT9,hM9⟩;refine Gg ?_;refine(X5 (Q9 hsc) hW9 hsc k other now limit hl.2).mono ?_;rintro _ w10 ⟨A10,c10,T10,rfl,hown10,_,hW10,hT10,hM10⟩;rw[← hsame] at hown10 ⊢;have hT9':∀ i,T9 i→w.heap.size≤i:=fun i hi=>(hT9 i hi).elim (hT8 i) fun h=>by omega
   have hx9:Ext w w9:=Qo hx8 hT8 hM9;have z9:=hx9.size;have hT10':∀ i,T10 i→w.heap.size≤i:=fun i hi=>(hT10 i hi).elim (hT9' i) fun h=>by omega
   have hx10:Ext w w10:=Qo hx9 hT9' hM10;have hs9:SlT w10 A9 (Qc c z person now (k:Nat) limit):=sl_keep (hown9.sl strE_len) fun a ha=>hM10.block _ (hown9.block ha).2 (hA9 a ha)
   have hs10:=hown10.sl strE_len;generalize Qc c z person now (k:Nat) limit=K at hs9 hs10 hemp hfew ⊢;clear hown9 hown10 hM9 hM10 hW8 hW9 hT9 hT10 hT8 hx8 hA9 hsame;refine Gg ?_;refine(Qcl K K A9 A10 c9 c10 w10 hs9 hs10 (by omega)).mono ?_;rintro _ w11 ⟨rfl,hx11⟩;rw[decide_eq_true (rfl:K=K)];refine Gg ?_;constructor
   · intro hq
     exfalso
     have hq:(!true||(((decide ((k:Int)=2)||decide ((k:Int)=3))||decide ((k:Int)=5))&&decide ((0:Int)<(K.length:Nat))))=true:=hq;simp only[Bool.not_true,Bool.false_or,Bool.and_eq_true,Bool.or_eq_true,decide_eq_true_eq] at hq;rw[hemp (by omega)] at hq
     simp at hq
   intro _;refine Gg ?_;refine⟨_,wrap_succ (by omega),Gg ?_⟩
   exact⟨(k+1,T10),by simp only;omega,⟨by simp only;omega,hW10.ext hx11,hT10',hx10.trans hx11⟩,Rr⟩
 intro _;refine Gg ?_;refine(Qaa (Q9 hsc) hW8 hsc hS person now limit hl.2).mono ?_;rintro _ w9 ⟨A9,c9,H9,T9,rfl,hF9,hW9,hT9,hM9⟩;have hT9':∀ i,T9 i→w.heap.size≤i:=fun i hi=>(hT9 i hi).elim (hT8 i) fun h=>by omega
 have hx9:Ext w w9:=Qo hx8 hT8 hM9;refine Gg ?_;refine(Qaa (Q9 hsc) hW9 hsc hS other now limit hl.2).mono ?_;rintro _ w10 ⟨A10,c10,H10,T10,rfl,hF10,hW10,hT10,hM10⟩;have hx10:Ext w w10:=Qo hx9 hT9' hM10;have hln:H9.length=H10.length:=by rw[Qi4 hF9,Qi4 hF10,Qle now limit hp0 ho0]
 rw[hln];refine Gg ?_
 exact⟨by simp,hx10⟩
end Go.Proofs.YtagijlhciclafaaGreatDoor
