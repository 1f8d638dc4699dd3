/- Several texts in one: Nm1, Dg1, Dg2, Ky1. -/
import Derived.Test.YtagijlhciclafaaGreatDoorGK
import Derived.Test.YtagijlhciclafaaGreatDoorGM
import Derived.Test.YtagijlhciclafaaGreatDoorGI
import Derived.Test.YtagijlhciclafaaGreatDoorGN
import Derived.Test.YtagijlhciclafaaGreatDoorGH
import Derived.Test.YtagijlhciclafaaGreatDoorGJ
set_option linter.unusedVariables false
set_option linter.unusedSimpArgs false
namespace Go.Proofs.YtagijlhciclafaaGreatDoor
open Go.Se Go.RowKit
theorem Qek (name:ByteArray) (t:Int):∀ cs:List Ev,t∈(catRows cs name).map (·.at_)↔∃ x∈cs,x.item=name∧x.at_=t:=by
 refine snoc_ind (by simp[catRows]) fun cs e ih => ?_
 have hx:(∃ x∈cs ++ [e],x.item=name∧x.at_=t)↔(∃ x∈cs,x.item=name∧x.at_=t)∨(e.item=name∧e.at_=t):=by
  constructor
  · rintro ⟨x,hx,h⟩
    rcases List.mem_append.1 hx with hx | hx
    · exact .inl ⟨x,hx,h⟩
    · rw[List.mem_singleton] at hx;subst hx;exact .inr h
  · rintro (⟨x,hx,h⟩ | h)
    · exact⟨x,by simp[hx],h⟩
    · exact⟨e,by simp,h⟩
 rw[catRows_snoc,hx,← ih];unfold catStep updR
 by_cases hn:name=e.item
 · subst hn
   rw[if_pos rfl,List.map_append,List.mem_append,List.map_cons,List.map_nil,List.mem_singleton];have:(stNext (catRows cs e.item) e).at_=e.at_:=stStep_at _ _;rw[this];constructor
   · rintro (h | h)
     · exact .inl h
     · exact .inr ⟨rfl,h.symm⟩
   · rintro (h | ⟨_,h⟩)
     · exact .inl h
     · exact .inr h.symm
 · rw[if_neg hn]
   constructor
   · exact .inl
   · rintro (h | ⟨h,_⟩)
     · exact h
     · exact absurd h.symm hn
def Xa (cs:List Ev) (t:Int) (name:ByteArray):Bool:=(catAt cs name t).2&&(catAt cs name t).1.listed
theorem Qnn (it:It) (w:World):Cal Tryz.prog 85 [.agg (itC it).toArray] w fun r w'=>r = .bool true∧Ext w w':=by
 refine Fi Tryz.func85 rfl _ rfl rfl (Hh ?_);intro b w1 hn;refine Gg ?_
 exact⟨rfl,hn.ext⟩
theorem Qms {w:World} {S:Nat→Prop} {bm:Nat} {cs:List Ev} {L:List (ByteArray×(Option Addr×Nat))} (h:RowsL stC 9 126 w S bm (catRows cs) L):L.length≤cs.length:=by
 have hn:(L.map (·.1)).Nodup:=Qi h.keys
 have hs:∀ x∈L.map (·.1),x∈cs.map (·.item):=fun x hx=>by
  obtain⟨y,hy,rfl⟩:=List.mem_map.1 hx;have hne:=h.ne y hy;obtain⟨s,hs⟩:=List.exists_mem_of_ne_nil _ hne;obtain⟨e,he,hi,_⟩:=(Qek y.1 s.at_ cs).1 (List.mem_map.2 ⟨s,hs,rfl⟩)
  exact List.mem_map.2 ⟨e,he,hi⟩
 have:=sub_perm hn hs
 simpa using this
theorem Qov {α:Type} (rows:ByteArray→List α) (L:List (ByteArray×(Option Addr×Nat))):(toV rows L).map (·.1)=L.map (·.1):=by unfold toV;rw[List.map_map];rfl
set_option maxHeartbeats 1000000 in
theorem Qiz (w:World) (S:Nat→Prop) (p:Nat) (cs:List Ev) (h:CatAt w S p cs) (t:Int) (hl:∀ name,(catRows cs name).length<1000000000000) (hcl:cs.length<100000) :
 Cal Tryz.prog 84 [.pointer (some ⟨p,0,none⟩),.int .i64 t,.func (.func 85) #[] #[]] w fun r w'=>∃ A c K,r = .slice A (sortT K).length c∧SlT w' A (sortT K)∧K.Nodup∧(∀ x,x∈K↔Xa cs t x=true)∧K.length<1000000∧(∀ a,A=some a→w.heap.size≤a.block)∧Ext w w':=by
 obtain⟨bm,L,hC⟩:=id h;have hLl:=Qms hC.rows;have hkn:(L.map (·.1)).Nodup:=Qi hC.rows.keys
 have hin:∀ x,Xa cs t x=true→x∈L.map (·.1):=fun x hx=>by
  rw[Qby]
  cases hq:alook L x with
  | some v=>rfl
  | none =>
    have h0:=hC.rows.all x hq;unfold Xa catAt at hx;rw[h0] at hx
    simp at hx
 have hmap:=hC.rows.map;refine Fi Tryz.func84 rfl _ rfl rfl (Hh ?_);refine⟨.map (some bm),hC.head.one rfl,Gg ?_⟩;refine map_range undCat hmap fun w3 hi3 hx3 => ?_
 have hs3:w.heap.size<w3.heap.size:=hi3.lt;generalize hr:w.heap.size=r at hi3 hs3 ⊢;refine Gg ?_
 refine loop_rule Tt_ok (fun(q:List (ByteArray×Value)×Option Addr×Nat×List ByteArray) w'=>Ext w w'∧Iter w' r bm Value.string (toV (catRows cs) L) q.1∧q.2.2.2=(q.1.map (·.1)).filter (Xa cs t)∧q.1.length≤L.length∧Own strE 1 9 w3.heap.size w' q.2.1 q.2.2.1 q.2.2.2∧w3.heap.size≤w'.heap.size)
  (fun | (vs,A,c,K) => [(0,.pointer (some ⟨p,0,none⟩)),(1,.int .i64 t),(2,.func (.func 85) #[] #[]),(7,.slice A K.length c),(15,.pointer (some ⟨r,0,none⟩))]) (fun q=>L.length-q.1.length) ([],none,0,[]) ⟨hx3,hi3,rfl,Nat.zero_le _,Own.nil,Nat.le_refl _⟩ Rr ?_
 clear hi3 hx3;rintro ⟨vs,A,c,K⟩ w4 ⟨hx4,hi4,hK,hvl,hown,h34⟩;simp only at hi4 hK hvl hown
 have hKl:K.length≤vs.length:=by
  rw[hK];have:=List.length_filter_le (Xa cs t) (vs.map (·.1));rw[List.length_map] at this
  exact this
 conv=>whnf
 refine map_step hi4 (fun hp => ?_) (fun x w5 hxin hnew hlt hi5 ho5 hen => ?_)
 · refine Gg ?_
   constructor
   · intro hh;cases hh
   intro _
   have hpk:(vs.map (·.1)).Perm (L.map (·.1)):=by
    have:=hp.map (·.1);rw[Qov] at this
    exact this
   have hKn:K.Nodup:=by rw[hK];exact(hpk.nodup_iff.2 hkn).sublist List.filter_sublist
   have hKm:∀ x,x∈K↔Xa cs t x=true:=fun x=>by
    rw[hK,List.mem_filter]
    exact⟨fun h=>h.2,fun h=>⟨hpk.mem_iff.2 (hin x h),h⟩⟩
   refine Gg ?_;refine(Qcy K A c w3.heap.size w4 hown (by omega)).mono ?_;rintro _ w5 ⟨rfl,hsl,hx5⟩;refine Gg ?_;refine⟨A,c,K,?_,hsl,hKn,hKm,by omega,fun a ha=>by have:=(hown.block ha).1;omega,hx5 w hx4 (by omega)⟩;rw[sortT_len]
 · have hx5:=ho5.ext hx4 (by omega)
   have hown5:Own strE 1 9 w3.heap.size w5 A c K:=hown.keep fun a ha=>ho5.block _ (by have:=(hown.block ha).1;omega)
   have hlt:vs.length<L.length:=by simpa [toV] using hlt
   have hsn:((vs ++ [x]).map (·.1)).filter (Xa cs t)=K++if Xa cs t x.1=true then [x.1] else []:=by
    rw[List.map_append,List.filter_append,hK]
    congr 1
    by_cases hq:Xa cs t x.1=true
    · simp[hq]
    · simp[hq]
   have s5:=ho5.size;refine Gg ?_;constructor
   · intro _
     refine Gg ?_;refine map_entryRun (hen w5 rfl rfl) ?_;refine Gg ?_;refine(catAt_spec w5 S p cs (h.ext hx5) x.1 t (hl x.1)).mono ?_;rintro _ w6 ⟨rfl,hx6⟩;refine Gg ?_;intro b9 w7 hn7;refine Gg ?_;refine store_ptr Tt_ok (e:=ty53) rfl hn7.At rfl rfl rfl (by simp[cellsL,itC,Value.oneCell']) fun w8 h9 ho8 => ?_
     have h9:At w8 b9 53 (itC (catAt cs x.1 t).1):=h9;have hx58:Ext w5 w8:=ho8.ext (hx6.trans hn7.ext) (by rw[hn7.block];exact hx6.size);clear ho8 hn7 hx6;refine Gg ?_;refine⟨.bool (catAt cs x.1 t).1.listed,fun _=>h9.one rfl,Gg ?_⟩;refine⟨itC (catAt cs x.1 t).1,fun _=>⟨rfl,h9.all⟩,Gg ?_⟩;refine⟨Unit,fun _=>(.bool true),fun _ w'=>Ext w8 w',(),fun hg=>((Qnn (catAt cs x.1 t).1 w8)).mono fun r w' h=>⟨(),h.1,h.2⟩,?_⟩;intro _ w9 h2
     have hx89:Ext w8 w9:=by
      rcases h2 with⟨_,h⟩ | ⟨_,h⟩
      · exact h
      · rw[h];exact Ext.refl _
     clear h2
     conv=>whnf
     have hx59:=hx58.trans hx89;have hi9:=hi5.ext hx59;have hown9:=hown5.ext hx59;have hx9:=hx5.trans hx59;have s9:=hx59.size;clear hx58 hx89 h9 hi5 hown5;refine Gg ?_;constructor
     · intro hq
       have hq:Xa cs t x.1=true:=by
        have:(((catAt cs x.1 t).2&&(catAt cs x.1 t).1.listed)&&true)=true:=hq;rw[Bool.and_true] at this
        exact this
       rw[if_pos hq] at hsn;refine Gg ?_;intro bb wb hnb;refine Gg ?_;refine Qa Qv (l:=K) (news := [x.1]) rfl (hown9.ext hnb.ext) rfl (Qv.new1 (x:=x.1) hnb) (by simp;omega) (by have:=hnb.size;omega) fun A6 c6 w6 hown6 hg6 hA6 => ?_
       have hr6:∀ k,A.map (·.block)=some k→w3.heap.size≤k:=Qd (hown9.ext hnb.ext);have hx6:Ext w w6:=ext_grown (hx9.trans hnb.ext) hg6 (fun k hk=>by have:=hr6 k hk;omega)
       have hi6:Iter w6 r bm Value.string (toV (catRows cs) L) (vs ++ [x]):=by
        have hib:=hi9.ext hnb.ext;have hbl:=hmap.lt
        exact hib.keep (hg6.block bm hib.map.lt fun e=>by have:=hr6 bm e.symm;omega) (hg6.block r hib.lt fun e=>by have:=hr6 r e.symm;omega)
       have sb:=hnb.size;have s6:=hg6.size;generalize K ++ [x.1]=K2 at hown6 hsn ⊢;refine Gg ?_
       exact⟨(vs ++ [x],A6,c6,K2),by simp;omega,⟨hx6,hi6,hsn.symm,by simp;omega,hown6,by omega⟩,Rr⟩
     · intro hq
       have hq:¬ Xa cs t x.1=true:=fun h=>by
        have:(((catAt cs x.1 t).2&&(catAt cs x.1 t).1.listed)&&true)=false:=hq;rw[Bool.and_true] at this;unfold Xa at h;rw[this] at h
        cases h
       rw[if_neg hq,List.append_nil] at hsn;refine Gg ?_
       exact⟨(vs ++ [x],A,c,K),by simp;omega,⟨hx9,hi9,hsn.symm,by simp;omega,hown9,by omega⟩,Rr⟩
   · intro hh;cases hh
theorem Qid (w:World) (S:Nat→Prop) (p:Nat) (cs:List Ev) (h:CatAt w S p cs) (t:Int) (hl:∀ name,(catRows cs name).length<1000000000000) (hcl:cs.length<100000) :
 Cal Tryz.prog 40 [.pointer (some ⟨p,0,none⟩),.int .i64 t] w fun r w'=>∃ A c K,r = .slice A (sortT K).length c∧SlT w' A (sortT K)∧K.Nodup∧(∀ x,x∈K↔Xa cs t x=true)∧K.length<1000000∧(∀ a,A=some a→w.heap.size≤a.block)∧Ext w w':=by
 refine Fi Tryz.func40 rfl _ rfl rfl (Hh ?_);refine(Qiz w S p cs h t hl hcl).mono ?_;rintro _ w2 ⟨A,c,K,rfl,h2,h3,h4,h5,h6,h7⟩;refine Gg ?_
 exact⟨A,c,K,rfl,h2,h3,h4,h5,h6,h7⟩
theorem Qcg (w:World) (S:Nat→Prop) (p:Nat) (cs:List Ev) (h:CatAt w S p cs) (t:Int) (hl:∀ name,(catRows cs name).length<1000000000000) (hcl:cs.length<100000) :
 Cal Tryz.prog 40 [.pointer (some ⟨p,0,none⟩),.int .i64 t] w fun r w'=>∃ A c K,r = .slice A (sortT K).length c∧SlT w' A (sortT K)∧K.Nodup∧(∀ x,x∈K↔Xa cs t x=true)∧K.length<1000000∧Ext w w' :=
 (Qid w S p cs h t hl hcl).mono fun r w' ⟨A,c,K,h1,h2,h3,h4,h5,_,h6⟩=>⟨A,c,K,h1,h2,h3,h4,h5,h6⟩
def Xb (l:List Ct):List Ct:=l.mergeSort fun a b => !Qad b a
theorem Qn5 (a b c:Ct) (h1:Qad b a=false) (h2:Qad c b=false):Qad c a=false:=by
 unfold Qad at *;simp only[Bool.or_eq_false_iff,decide_eq_false_iff_not,Bool.and_eq_false_iff] at *;refine⟨by omega,?_⟩
 by_cases e:c.2=a.2
 · right
   have e1:b.2=a.2:=by omega
   have e2:c.2=b.2:=by omega
   have q1:bLt b.1 a.1=false:=h1.2.elim (fun h=>absurd e1 h) id;have q2:bLt c.1 b.1=false:=h2.2.elim (fun h=>absurd e2 h) id
   cases hc:bLt c.1 a.1 with
   | false=>rfl
   | true =>
     cases hb:bLt a.1 b.1 with
     | true=>rw[bLt_trans hc hb] at q2;cases q2
     | false=>rw[bLt_tri hb q1,q2] at hc;cases hc
 · exact .inl e
theorem Qkd (a b:Ct):((!Qad b a)||(!Qad a b))=true:=by
 cases h:Qad b a with
 | false=>rfl
 | true =>
   cases h2:Qad a b with
   | false=>rfl
   | true =>
     unfold Qad at h h2;simp only[Bool.or_eq_true,decide_eq_true_eq,Bool.and_eq_true] at h h2
     exfalso
     have e:a.2=b.2:=by omega
     have q1:bLt b.1 a.1=true:=by rcases h with h | h;omega;exact h.2
     have q2:bLt a.1 b.1=true:=by rcases h2 with h | h;omega;exact h.2
     have:=bLt_trans q1 q2;rw[bLt_irrefl] at this;cases this
theorem Qs (l:List Ct):(Xb l).Perm l:=List.mergeSort_perm _ _
theorem Qay (l:List Ct):Srt Qad (Xb l):=by
 have:=List.pairwise_mergeSort (le:=fun a b => !Qad b a) (fun a b c h1 h2=>by
  simp only[Bool.not_eq_true'] at *
  exact Qn5 a b c h1 h2) Qkd l
 exact this.imp fun h=>by simpa using h
theorem X6 {F L:List Ct} (hp:F.Perm L) (hs:Srt Qad F):F=Xb L:=by
 refine srt_unique (hp.trans (Qs L).symm) hs (Qay L) fun x _ y _ h1 h2 => ?_
 unfold Qad at h1 h2;simp only[Bool.or_eq_false_iff,decide_eq_false_iff_not,Bool.and_eq_false_iff] at h1 h2;have e2:x.2=y.2:=by omega
 have e1:x.1=y.1:=by
  have q1:bLt x.1 y.1=false:=h1.2.elim (fun h=>absurd e2 h) id;have q2:bLt y.1 x.1=false:=h2.2.elim (fun h=>absurd e2.symm h) id
  exact bLt_tri q1 q2
 exact Prod.ext e1 e2
def Qr (z:List Ev) (now:Int):List ByteArray:=Q5 (((thingsE z).map (·.item)).filter (Xa (thingsE z) now))
def X9 (s:Sums) (half now:Int):List Ct:=((s.map (·.1)).map fun k=>(k,countAt s half k now)).filter fun x=>decide (0<x.2)
def Qcp (S:List Sn):List ByteArray:=Q5 (S.flatMap (·.items))
def X0 (S:List Sn) (a:ByteArray):List ByteArray:=Q5 ((S.flatMap (·.items)).filter fun b => !decide (a=b)&&decide (0<Xo S a b))
theorem Qkq {S:List Sn} {a:ByteArray}:0<Qq S a↔a∈S.flatMap (·.items):=by
 unfold Qq hasB;rw[List.length_pos_iff_exists_mem,List.mem_flatMap];simp only[List.mem_filter,decide_eq_true_eq]
theorem Qpr {S:List Sn} {a b:ByteArray} (h:0<Xo S a b):b∈S.flatMap (·.items):=by
 unfold Xo hasB at h;rw[List.length_pos_iff_exists_mem] at h;obtain⟨s,hs⟩:=h;simp only[List.mem_filter,Bool.and_eq_true,decide_eq_true_eq] at hs
 exact List.mem_flatMap.2 ⟨s,hs.1,hs.2.2⟩
theorem Qi7 {m:List (ByteArray×Int)} (h:∀ x∈m,0<x.2) {a:ByteArray}:a∈m.map (·.1)↔0<(alook m a).getD 0:=by
 rw[Qby]
 cases hq:alook m a with
 | none=>simp
 | some v=>simpa using h (a,v) (alook_mem hq)
theorem TabIs.items {sg:List (ByteArray×Int)} {ct:Qhl} {S:List Sn} (h:TabIs sg ct S) (hn:sg.Pairwise (fun x y=>x.1≠y.1)):sortT (sg.map (·.1))=Qcp S:=by
 refine Qav (Qi hn) fun x => ?_
 rw[Qi7 h.pos.1,h.sg,← Qkq];omega
theorem Qfq {S:List Sn} {a b:ByteArray}:b∈(S.flatMap (·.items)).filter (fun b => !decide (a=b)&&decide (0<Xo S a b))↔a≠b∧0<Xo S a b:=by
 rw[List.mem_filter,Bool.and_eq_true,Bool.not_eq_true',decide_eq_false_iff_not,decide_eq_true_eq]
 exact⟨fun h=>h.2,fun h=>⟨Qpr h.2,h⟩⟩
theorem TabIs.near {sg:List (ByteArray×Int)} {ct:Qhl} {S:List Sn} (h:TabIs sg ct S) {a:ByteArray} {m:List (ByteArray×Int)} (hm:alook ct a=some m) (hn:m.Pairwise (fun x y=>x.1≠y.1)):sortT (m.map (·.1))=X0 S a:=by
 refine Qav (Qi hn) fun x => ?_
 rw[Qi7 (h.pos.2 (a,m) (alook_mem hm)),Qfq];have:=h.ct a x;rw[hm] at this;simp only[Option.getD_some] at this;rw[this]
 by_cases hx:a=x
 · simp[hx]
 · rw[if_neg hx]
   exact⟨fun h=>⟨hx,by omega⟩,fun h=>by have:=h.2;omega⟩
theorem TabIs.near0 {sg:List (ByteArray×Int)} {ct:Qhl} {S:List Sn} (h:TabIs sg ct S) {a:ByteArray} (hm:alook ct a=none):X0 S a = []:=by
 have:∀ x,x∉X0 S a:=fun x hx=>by
  unfold X0 at hx;rw[Qg,Qfq] at hx;have h2:=h.ct a x;rw[hm] at h2;rw[if_neg hx.1] at h2;have h3:(alook ((none:Option (List (ByteArray×Int))).getD []) x).getD 0=0:=rfl;rw[h3] at h2;omega
 cases hq:X0 S a with
 | nil=>rfl
 | cons y l=>exact absurd (by rw[hq];simp) (this y)
theorem Qkw {z:List Ev} (hm:∀ e∈z,mayB e=true) {e:Ev} (he:e∈thingsE z):isName e.item=true:=by
 obtain⟨h1,h2⟩:=List.mem_filter.1 he;have hk:=kind_cases (may_iff.1 (hm e h1)).kind;have h3:e.kind=11∨e.kind=12∨e.kind=13:=by simpa [thB] using h2
 rcases hk with⟨h,_⟩ | ⟨h,_⟩ | ⟨h,_⟩ | ⟨_,_,h,_⟩ | ⟨_,_,h,_⟩ | ⟨_,_,h,_⟩ | ⟨h,_⟩
 · omega
 · omega
 · omega
 · exact h
 · exact h
 · exact h
 · omega
theorem Qf4 {z:List Ev} (hm:∀ e∈z,mayB e=true) {e:Ev} (he:e∈z.filter wpB):isName e.person=true∧isName e.item=true:=by
 obtain⟨h1,h2⟩:=List.mem_filter.1 he
 exact worth_names (hm e h1) (by simpa [wpB] using h2)
def ItB (i:It):Prop:=i.maker.size<1000∧i.tags.size<1000∧(0≤i.price∧i.price≤1099511627776)∧(0≤i.stock∧i.stock≤1099511627776)∧0≤i.born∧i.born≤1099511627776
theorem Qh5 (name:ByteArray):ItB { zeroIt with name:=name }:=by
 have h:(⟨#[]⟩:ByteArray).size=0:=rfl;unfold ItB zeroIt;simp only[h];omega
theorem Qrf {s:St} {e:Ev} (h:ItB s.item) (he:mayB e=true) (hk:e.kind=11∨e.kind=12∨e.kind=13):ItB (stStep s e).item:=by
 have hc:=kind_cases (may_iff.1 he).kind;have ha:=(may_iff.1 he).at_;obtain⟨h1,h2,h3,h4,h5⟩:=h;have hr:=rest_size e.text;have ht:=may_text he;unfold stStep
 split
 · next k =>
   have hl:labelB e.text=true∧0≤e.val∧e.val≤1048576:=by
    rcases hc with⟨h,_⟩ | ⟨h,_⟩ | ⟨h,_⟩ | ⟨_,_,_,h⟩ | ⟨h,_⟩ | ⟨h,_⟩ | ⟨h,_⟩
    · omega
    · omega
    · omega
    · exact h
    · omega
    · omega
    · omega
   have hn:isName (makerOf e.text)=true:=by
    have:=hl.1;unfold labelB at this;simp only[Bool.and_eq_true] at this
    exact this.1.2
   have hs:=name_le hn;refine⟨by show (makerOf e.text).size<1000;omega,by show (restOf e.text).size<1000;omega,by show 0≤e.val∧e.val≤_;omega,h4,?_⟩;show 0≤(if s.born=true then s.item.born else e.at_)∧(if s.born=true then s.item.born else e.at_)≤_
   split
   · exact h5
   · exact ha
 · split
   · next k =>
     have hl:0≤e.val∧e.val≤1048576:=by
      rcases hc with⟨h,_⟩ | ⟨h,_⟩ | ⟨h,_⟩ | ⟨h,_⟩ | ⟨_,_,_,_,h⟩ | ⟨h,_⟩ | ⟨h,_⟩
      · omega
      · omega
      · omega
      · omega
      · exact h
      · omega
      · omega
     exact⟨h1,h2,h3,by show 0≤e.val∧e.val≤_;omega,h5⟩
   · exact⟨h1,h2,h3,h4,h5⟩
theorem Qjt:∀ cs:List Ev,(∀ e∈cs,mayB e=true∧(e.kind=11∨e.kind=12∨e.kind=13))→∀ name,∀ s∈catRows cs name,ItB s.item:=by
 refine snoc_ind (fun _ name s hs=>by simp[catRows] at hs) fun l e ih h name s hs => ?_
 have ih:=ih (fun x hx=>h x (by simp[hx]));obtain⟨he,hk⟩:=h e (by simp);rw[catRows_snoc] at hs;unfold catStep updR at hs
 split at hs
 · rcases List.mem_append.1 hs with hs | hs
   · exact ih _ s hs
   · rw[List.mem_singleton] at hs
     subst hs;unfold stNext;refine Qrf ?_ he hk
     cases hq:(catRows l e.item).getLast? with
     | none=>exact Qh5 _
     | some s=>exact ih _ s (List.mem_of_getLast? hq)
 · exact ih name s hs
theorem Qht {z:List Ev} (hm:∀ e∈z,mayB e=true) (name:ByteArray) (t:Int):ItB (catAt (thingsE z) name t).1:=by
 have hb:=Qjt (thingsE z) (fun e he=>⟨hm e (List.mem_filter.1 he).1,by simpa [thB] using (List.mem_filter.1 he).2⟩) name;unfold catAt
 split
 · next s hs =>
   split
   · exact Qh5 ⟨#[]⟩
   · exact hb s (List.mem_of_getElem? hs)
 · exact Qh5 ⟨#[]⟩
theorem Qb0 (z:List Ev) (now:Int):(Qr z now).length≤z.length:=by
 unfold Qr;have h1:=Qc8 (((thingsE z).map (·.item)).filter (Xa (thingsE z) now));have h2:=List.length_filter_le (Xa (thingsE z) now) ((thingsE z).map (·.item));have h3:(thingsE z).length≤z.length:=List.length_filter_le thB z;rw[List.length_map] at h2;omega
theorem Qlr:∀ l:List Ev,(Qbo l).length≤l.length∧∀ x∈Qbo l,∃ e∈l,e.item=x.1:=by
 refine snoc_ind ⟨by simp[Qbo],fun x hx=>by simp[Qbo] at hx⟩ fun l e ih => ?_
 rw[Qfd,List.length_append,List.length_singleton];unfold putS
 split
 · exact⟨by omega,fun x hx=>by obtain⟨u,hu,h⟩:=ih.2 x hx;exact⟨u,by simp[hu],h⟩⟩
 · have:=aset_len e.item (aset ((alook (Qbo l) e.item).getD []) e.at_ ((alook ((alook (Qbo l) e.item).getD []) e.at_).getD 0+worthE e)) (Qbo l)
   refine⟨by omega,fun x hx => ?_⟩;rcases aset_mem hx with h | hx
   · exact⟨e,by simp,by rw[h]⟩
   · obtain⟨u,hu,h⟩:=ih.2 x hx;exact⟨u,by simp[hu],h⟩
theorem Qoc (width:Int):∀ l:List Ev,(Qhn width l).length≤l.length∧∀ x∈Qhn width l,∃ e∈l,e.item=x.1.1:=by
 refine snoc_ind ⟨by simp[Qhn],fun x hx=>by simp[Qhn] at hx⟩ fun l e ih => ?_
 rw[Qfv,List.length_append,List.length_singleton];unfold putP
 split
 · exact⟨by omega,fun x hx=>by obtain⟨u,hu,h⟩:=ih.2 x hx;exact⟨u,by simp[hu],h⟩⟩
 · have:=aset_len (e.item,e.at_/halfN width) ((alook (Qhn width l) (e.item,e.at_/halfN width)).getD 0+worthE e) (Qhn width l)
   refine⟨by omega,fun x hx => ?_⟩;rcases aset_mem hx with h | hx
   · exact⟨e,by simp,by rw[h]⟩
   · obtain⟨u,hu,h⟩:=ih.2 x hx;exact⟨u,by simp[hu],h⟩
def Qql (l:List Ev) (q:Sn):Prop:=(∃ e∈l,e.person=q.person)∧(∃ e∈l,e.at_=q.from_)∧(∃ e∈l,e.at_=q.to_)∧∀ i∈q.items,∃ e∈l,e.item=i
theorem Qp2 {gap:Int} {l:List Ev} {acc:List Sn} {e:Ev} (he:e∈l) (h:∀ q∈acc,Qql l q):∀ q∈Qx gap acc (adE e),Qql l q:=by
 intro q hq;have hone:Qql l ⟨(adE e).1,(adE e).2.1,(adE e).2.1,[(adE e).2.2]⟩:=⟨⟨e,he,rfl⟩,⟨e,he,rfl⟩,⟨e,he,rfl⟩,fun i hi=>⟨e,he,by rw[List.mem_singleton] at hi;rw[hi];rfl⟩⟩;unfold Qx at hq
 split at hq
 · next g hg =>
   have hgm:=h g (List.mem_of_getLast? hg)
   split at hq
   · rcases List.mem_append.1 hq with hq | hq
     · exact h q (List.dropLast_subset _ hq)
     · rw[List.mem_singleton] at hq
       subst hq;refine⟨⟨e,he,rfl⟩,hgm.2.1,⟨e,he,rfl⟩,fun i hi => ?_⟩;rcases Qbv.1 hi with hi | hi
       · exact hgm.2.2.2 i hi
       · exact⟨e,he,by rw[hi];rfl⟩
   · rcases List.mem_append.1 hq with hq | hq
     · exact h q hq
     · rw[List.mem_singleton] at hq
       subst hq
       exact hone
 · rcases List.mem_append.1 hq with hq | hq
   · exact h q hq
   · rw[List.mem_singleton] at hq
     subst hq
     exact hone
theorem all_in (gap:Int) (l:List Ev):∀ L:List Ad3,(∀ a∈L,a∈l.map adE)→∀ q∈allL gap L,Qql l q:=by
 refine snoc_ind (fun _ q hq=>by simp[allL] at hq) fun L a ih h => ?_
 rw[Qdd];obtain⟨e,he,rfl⟩:=List.mem_map.1 (h a (by simp))
 exact Qp2 he (ih fun x hx=>h x (by simp[hx]))
theorem Qq2 (c:Cfg) (z:List Ev):∀ q∈Qax c z,Qql (z.filter wpB) q:=by
 intro q hq;unfold Qax at hq;rw[← Qmz _ (Qh2 _).1] at hq
 exact all_in _ _ _ (fun a ha=>(Qeo _).1 ha) q hq
theorem Qff (c:Cfg) (z:List Ev) {x:ByteArray} (h:x∈(Qax c z).flatMap (·.items)):x∈(z.filter wpB).map (·.item):=by
 obtain⟨q,hq,hx⟩:=List.mem_flatMap.1 h;obtain⟨e,he,rfl⟩:=(Qq2 c z q hq).2.2.2 x hx
 exact List.mem_map.2 ⟨e,he,rfl⟩
theorem Qm6 {z:List Ev} {K:List ByteArray} (hn:K.Nodup) (h:∀ x∈K,x∈(z.filter wpB).map (·.item)):K.length≤z.length:=by
 have h1:=sub_perm hn h;have h2:=List.length_filter_le wpB z;rw[List.length_map] at h1;omega
theorem Ql1 (c:Cfg) (z:List Ev):(Qcp (Qax c z)).length≤z.length:=Qm6 (Q7 _) fun x hx=>by
 unfold Qcp at hx
 exact Qff c z (Qg.1 hx)
theorem Qn7 (c:Cfg) (z:List Ev) (a:ByteArray):(X0 (Qax c z) a).length≤z.length:=Qm6 (Q7 _) fun x hx=>by
 unfold X0 at hx
 exact Qff c z (List.mem_filter.1 (Qg.1 hx)).1
theorem Qmb {c:Cfg} {z:List Ev} (hm:∀ e∈z,mayB e=true) {a x:ByteArray} (h:x∈X0 (Qax c z) a):isName x=true:=by
 unfold X0 at h;obtain⟨e,he,rfl⟩:=List.mem_map.1 (Qff c z (List.mem_filter.1 (Qg.1 h)).1)
 exact(Qf4 hm he).2
open Go.Maps Go.Sort Go.Shelf
theorem Qep (mb:Option Nat) (w:World):Cal Tryz.prog 194 [.map mb] w fun r w'=>r = .func (.func 247) #[] #[.pointer (some ⟨w.heap.size,0,none⟩)]∧w'.cell? ⟨w.heap.size,0,none⟩=some (.map mb)∧Ext w w' :=
 keysT_gen Tryz.keys194 ⟨_,Tryz.func194,rfl,rfl⟩ mb w
theorem Qhc {w:World} {Bm b:Nat} {L:List (ByteArray×Value)} (hc:w.cell? ⟨Bm,0,none⟩=some (.map (some b))) (hm:MapAt w b Value.string L) (hk:∀ x∈L,x.1.size≤1000000) (hl:L.length≤1000000000) :
 Cal Tryz.prog 44 [.func (.func 247) #[] #[.pointer (some ⟨Bm,0,none⟩)]] w fun r w'=>∃ A c,r = .slice A (sortT (L.map (·.1))).length c∧Own strE 1 9 w.heap.size w' A c (sortT (L.map (·.1)))∧Ext w w':=by
 obtain⟨N,Q,h1,h2,h3⟩:=keysT_seq { Tryz.keys194 with } hc hm hk hl
 exact sortedT_core Tryz.sorted44 sortsT (enters_of Tryz.func88 (by kernel_rfl) rfl) (enters_of Tryz.func247 (by kernel_rfl) rfl) ⟨_,Tryz.func44,rfl,rfl⟩ h2 h1 h3
theorem Qiq {w:World} {Bm:Nat} (hc:w.cell? ⟨Bm,0,none⟩=some (.map none)) :
 Cal Tryz.prog 44 [.func (.func 247) #[] #[.pointer (some ⟨Bm,0,none⟩)]] w fun r w'=>∃ A c,r = .slice A 0 c∧Own strE 1 9 w.heap.size w' A c []∧Ext w w':=by
 have:=sortedT_core Tryz.sorted44 sortsT (enters_of Tryz.func88 (by kernel_rfl) rfl) (enters_of Tryz.func247 (by kernel_rfl) rfl) ⟨_,Tryz.func44,rfl,rfl⟩ (l := []) (fun ss (h:ss = [])=>by rw[h];exact List.Perm.refl _) (Nat.zero_le _) (AnyZ.keys_gives_nil { Tryz.keys194 with } Fence.wide 2 trivial rfl Bm w (cell_lt hc) hc);simp only[sortT_nil,sortI_nil,List.length_nil] at this
 exact this
theorem Qkh (w:World) (S:Nat→Prop) (p:Nat) (Ss:List Sn) (h:Q8 w S p Ss) (a:ByteArray) (hn:∀ x∈X0 Ss a,x.size≤1000000) (hl:(X0 Ss a).length≤1000000) :
 Cal Tryz.prog 133 [.pointer (some ⟨p,0,none⟩),.string a] w fun r w'=>∃ A c,r = .slice A (X0 Ss a).length c∧SlT w' A (X0 Ss a)∧(∀ a,A=some a→w.heap.size≤a.block)∧Ext w w':=by
 obtain⟨t,sh,hp,⟨sg,ct,b1,b2,hL,hI⟩,_⟩:=h;refine Fi Tryz.func133 rfl _ rfl rfl (Hh ?_);refine⟨_,hp.one rfl,Gg ?_⟩;refine⟨_,hL.head.one rfl,Gg ?_⟩;rcases hL.ct.look Qp Qhi (key_string undStr) (e:=ty115) ty115_ok rfl a with⟨hno,hrd⟩ | ⟨bt,m,Sk,hsome,hrd,hIv,_,_⟩
 · have h0:=hI.near0 hno
   rw[h0];refine⟨_,hrd .same kept_same,Gg ?_⟩;refine(Qep none w).mono ?_;rintro _ w1 ⟨rfl,hc1,hx1⟩;refine Gg ?_;refine(Qiq hc1).mono ?_;rintro _ w2 ⟨A2,c2,rfl,ho2,hx2⟩;refine Gg ?_
   exact⟨A2,c2,rfl,ho2.sl strE_len,fun a ha=>Nat.le_trans hx1.size (ho2.block ha).1,hx1.trans hx2⟩
 · have hm:=hIv.2
   have hkn:m.Pairwise (fun x y=>x.1≠y.1):=by
    have:=hm.keys;unfold venc at this;rw[List.pairwise_map] at this
    exact this
   have hit:=hI.near hsome hkn;have hk1:(venc vi m).map (·.1)=m.map (·.1):=by unfold venc;rw[List.map_map];rfl
   have hsl:m.length≤1000000:=by
    have:=congrArg List.length hit;rw[sortT_len,List.length_map] at this;omega
   have hk:∀ x∈venc vi m,x.1.size≤1000000:=fun x hx=>by
    have h1:x.1∈(venc vi m).map (·.1):=List.mem_map.2 ⟨x,hx,rfl⟩;rw[hk1,← sortT_mem,hit] at h1
    exact hn _ h1
   refine⟨_,hrd .same kept_same,Gg ?_⟩;refine(Qep (some bt) w).mono ?_;rintro _ w1 ⟨rfl,hc1,hx1⟩;refine Gg ?_;refine(Qhc hc1 (hm.ext hx1) hk (by unfold venc;rw[List.length_map];omega)).mono ?_;rintro _ w2 ⟨A2,c2,rfl,ho2,hx2⟩;rw[hk1,hit] at ho2 ⊢;refine Gg ?_
   exact⟨A2,c2,rfl,ho2.sl strE_len,fun a ha=>Nat.le_trans hx1.size (ho2.block ha).1,hx1.trans hx2⟩
end Go.Proofs.YtagijlhciclafaaGreatDoor
