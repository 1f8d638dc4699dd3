import Derived.Test.YtagijlhciclafaaGreatDoorHQ4
/- The law RoadOne: the walk. -/
set_option linter.unusedVariables false
set_option linter.unusedSimpArgs false
namespace Go.Proofs.YtagijlhciclafaaGreatDoor
open Go.Se Go.RowKit
set_option maxHeartbeats 2000000 in
theorem roadOne_spec (c:Cfg) (l:List Ev) (r:Int) (person:ByteArray) (now limit:Int) (A:Option Addr) (cap:Nat) (w:World) (hg0:Gl w) (hs:SlE w A l) (hl:-9223372036854775808≤limit∧limit≤9223372036854775807) :
 Cal Tryz.prog 3 [cfgV c,.slice A l.length cap,.int .i64 r,.string person,.int .i64 now,.int .i64 limit] w fun r w'=>r = .bool true∧Ext w w':=by
 refine Fi Tryz.func3 rfl _ rfl rfl (Hh ?_);intro b1 w1 hn1;refine Gg ?_;have h1:At w1 b1 23 (cfgC c):=hn1.At;have hx:=hn1.ext;clear hn1;refine(Xr w1 (hg0.ext hx)).mono ?_;rintro _ w2 ⟨rfl,hx2⟩;replace h1:=h1.ext hx2;replace hx:=hx.trans hx2;clear hx2;refine Gg ?_;constructor
 · intro h;simp at h
 intro _;refine Gg ?_;refine⟨cfgC c,⟨rfl,h1.all⟩,Gg ?_⟩;have z2:=hx.size;refine(Xt c l A cap w2 (hg0.ext hx) (hs.ext hx)).mono ?_;rintro r0 w3 ⟨hx3,hr3⟩;replace hx:=hx.trans hx3;clear hx3 h1;rcases hr3 with⟨_,rfl⟩ | ⟨hok,p,T,rfl,hW,hT⟩
 · refine Gg ?_
   refine⟨_,eqRun_ptr_nil' Qcm _ _ _,Gg ?_⟩;constructor
   · intro _
     refine Gg ?_
     exact⟨rfl,hx⟩
   · intro h;simp at h
 refine Gg ?_;refine⟨_,eqRun_ptr_nil' Qcm _ _ _,Gg ?_⟩;constructor
 · intro _
   refine Gg ?_
   exact⟨rfl,hx⟩
 intro _;have hsc:=Qcf hok;generalize anewL l=z at hW hsc;obtain⟨v,T0,hQ⟩:=(Q9 hsc).wq hW;have hm:=hQ.may;have hS:=(Qd5 c z hm hsc.len).len;have hfew:=Xf hm hS person now r limit;have hzl:=hsc.len;replace hT:∀ k,T k→w.heap.size≤k:=fun k hk=>Nat.le_trans z2 (hT k hk)
 have z3:=hx.size;refine Gg ?_;refine(X5 (Q9 hsc) hW hsc r person now limit hl.2).mono ?_;rintro _ w4 ⟨A4,c4,T4,rfl,hown4,hA4,hW4,hT4,hM4⟩;have hT4':∀ i,T4 i→w.heap.size≤i:=fun i hi=>(hT4 i hi).elim (hT i) fun h=>by omega
 have hx4:Ext w w4:=Qo hx hT hM4;refine Gg ?_;refine(Qhk hW4 hsc r person now limit hl.2).mono ?_;rintro _ w5 ⟨A5,c5,T5,rfl,hown5,_,hW5,hT5,hM5⟩;have hx5:Ext w w5:=Qo hx4 hT4' hM5;have hs4:SlT w5 A4 (Qc c z person now r limit):=sl_keep (hown4.sl strE_len) fun a ha=>hM5.block _ (hown4.block ha).2 (hA4 a ha)
 have hs5:=hown5.sl strE_len;generalize Qc c z person now r limit=K at hs4 hs5 hfew ⊢;clear hown4 hown5 hM4 hM5 hW hW4 hW5 hQ;refine Gg ?_;refine(Qcl K K A4 A5 c4 c5 w5 hs4 hs5 (by omega)).mono ?_;rintro _ w6 ⟨rfl,hx6⟩;rw[decide_eq_true (rfl:K=K)];refine Gg ?_;refine⟨Unit,fun _=>(.string (Qdo r)),fun _ w'=>Ext w6 w',(),fun hg=>((Qdy r w6)).mono fun r w' h=>⟨(),h.1,h.2⟩,?_⟩;intro _ w7 h2
 have hx7:Ext w6 w7:=by
  rcases h2 with⟨_,h⟩ | ⟨_,h⟩
  · exact h
  · rw[h];exact Ext.refl _
 clear h2
 conv=>whnf
 refine⟨Unit,fun _=>(.string (Qdo r)),fun _ w'=>Ext w7 w',(),fun hg=>((Qic r w7)).mono fun r w' h=>⟨(),h.1,h.2⟩,?_⟩;intro _ w8 h2
 have hx8:Ext w7 w8:=by
  rcases h2 with⟨_,h⟩ | ⟨_,h⟩
  · exact h
  · rw[h];exact Ext.refl _
 clear h2
 conv=>whnf
 exact⟨by simp,((hx5.trans hx6).trans hx7).trans hx8⟩
end Go.Proofs.YtagijlhciclafaaGreatDoor
