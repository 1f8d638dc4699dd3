/- Several texts in one: Nm1, Dg1, Dg2, Ky1. -/
import Derived.Test.YtohkipkjleldpaaGreatDoorGK
import Derived.Test.YtohkipkjleldpaaGreatDoorGM
import Derived.Test.YtohkipkjleldpaaGreatDoorGI
import Derived.Test.YtohkipkjleldpaaGreatDoorGN
import Derived.Test.YtohkipkjleldpaaGreatDoorGH
import Derived.Test.YtohkipkjleldpaaGreatDoorGJ
set_option linter.unusedVariables false
set_option linter.unusedSimpArgs false
namespace Go.Proofs.YtohkipkjleldpaaGreatDoor
open Go.Se Go.RowKit
theorem Qnm (name:ByteArray) (t:Int):∀ cs:List Ev,t∈(Qw cs name).map (·.at_)↔∃ x∈cs,x.item=name∧x.at_=t:=by
 refine Qu (by simp[Qw]) fun cs e ih => ?_
 have hx:(∃ x∈cs ++ [e],x.item=name∧x.at_=t)↔(∃ x∈cs,x.item=name∧x.at_=t)∨(e.item=name∧e.at_=t):=by
  constructor
  · rintro ⟨x,hx,h⟩
    rcases List.mem_append.1 hx with hx | hx
    · exact .inl ⟨x,hx,h⟩
    · rw[List.mem_singleton] at hx;subst hx;exact .inr h
  · rintro (⟨x,hx,h⟩ | h)
    · exact⟨x,by simp[hx],h⟩
    · exact⟨e,by simp,h⟩
 rw[Qba,hx,← ih];unfold Qfa Qkl
 by_cases hn:name=e.item
 · subst hn
   rw[if_pos rfl,List.map_append,List.mem_append,List.map_cons,List.map_nil,List.mem_singleton];have:(Qe7 (Qw cs e.item) e).at_=e.at_:=Qgf _ _;rw[this];constructor
   · rintro (h | h)
     · exact .inl h
     · exact .inr ⟨rfl,h.symm⟩
   · rintro (h | ⟨_,h⟩)
     · exact .inl h
     · exact .inr h.symm
 · rw[if_neg hn]
   constructor
   · exact .inl
   · rintro (h | ⟨h,_⟩)
     · exact h
     · exact absurd h.symm hn
def Qcz (cs:List Ev) (t:Int) (name:ByteArray):Bool:=(X6 cs name t).2&&(X6 cs name t).1.listed
theorem Q6z (it:It) (w:World):Cal Tryz.prog 359 [.agg (itC it).toArray] w fun r w'=>r = .bool true∧Ext w w':=by
 refine Fi Tryz.func359 rfl _ rfl rfl (Hh ?_);intro b w1 hn;refine Gg ?_
 exact⟨rfl,hn.ext⟩
theorem Q5g {w:World} {S:Nat→Prop} {bm:Nat} {cs:List Ev} {L:List (ByteArray×(Option Addr×Nat))} (h:Qa0 stC 9 249 w S bm (Qw cs) L):L.length≤cs.length:=by
 have hn:(L.map (·.1)).Nodup:=Xx h.keys
 have hs:∀ x∈L.map (·.1),x∈cs.map (·.item):=fun x hx=>by
  obtain⟨y,hy,rfl⟩:=List.mem_map.1 hx;have hne:=h.ne y hy;obtain⟨s,hs⟩:=List.exists_mem_of_ne_nil _ hne;obtain⟨e,he,hi,_⟩:=(Qnm y.1 s.at_ cs).1 (List.mem_map.2 ⟨s,hs,rfl⟩)
  exact List.mem_map.2 ⟨e,he,hi⟩
 have:=Qdh hn hs
 simpa using this
theorem Q8q {α:Type} (rows:ByteArray→List α) (L:List (ByteArray×(Option Addr×Nat))):(toV rows L).map (·.1)=L.map (·.1):=by unfold toV;rw[List.map_map];rfl
set_option maxHeartbeats 1000000 in
theorem Qwz (w:World) (S:Nat→Prop) (p:Nat) (cs:List Ev) (h:Qg0 w S p cs) (t:Int) (hl:∀ name,(Qw cs name).length<1000000000000) (hcl:cs.length<100000) :
 Cal Tryz.prog 358 [.pointer (some ⟨p,0,none⟩),.int .i64 t,.func (.func 359) #[] #[]] w fun r w'=>∃ A c K,r = .slice A (Xb K).length c∧SlT w' A (Xb K)∧K.Nodup∧(∀ x,x∈K↔Qcz cs t x=true)∧K.length<1000000∧(∀ a,A=some a→w.heap.size≤a.block)∧Ext w w':=by
 obtain⟨bm,L,hC⟩:=id h;have hLl:=Q5g hC.rows;have hkn:(L.map (·.1)).Nodup:=Xx hC.rows.keys
 have hin:∀ x,Qcz cs t x=true→x∈L.map (·.1):=fun x hx=>by
  rw[Qkx]
  cases hq:Qe L x with
  | some v=>rfl
  | none =>
    have h0:=hC.rows.all x hq;unfold Qcz X6 at hx;rw[h0] at hx
    simp at hx
 have hmap:=hC.rows.map;refine Fi Tryz.func358 rfl _ rfl rfl (Hh ?_);refine⟨.map (some bm),hC.head.one rfl,Gg ?_⟩;refine map_range Qyr hmap fun w3 hi3 hx3 => ?_
 have hs3:w.heap.size<w3.heap.size:=hi3.lt;generalize hr:w.heap.size=r at hi3 hs3 ⊢;refine Gg ?_
 refine Qh Qa (fun(q:List (ByteArray×Value)×Option Addr×Nat×List ByteArray) w'=>Ext w w'∧Iter w' r bm Value.string (toV (Qw cs) L) q.1∧q.2.2.2=(q.1.map (·.1)).filter (Qcz cs t)∧q.1.length≤L.length∧Own Qav 1 9 w3.heap.size w' q.2.1 q.2.2.1 q.2.2.2∧w3.heap.size≤w'.heap.size)
  (fun | (vs,A,c,K) => [(0,.pointer (some ⟨p,0,none⟩)),(1,.int .i64 t),(2,.func (.func 359) #[] #[]),(7,.slice A K.length c),(15,.pointer (some ⟨r,0,none⟩))]) (fun q=>L.length-q.1.length) ([],none,0,[]) ⟨hx3,hi3,rfl,Nat.zero_le _,Own.nil,Nat.le_refl _⟩ Rr ?_
 clear hi3 hx3;rintro ⟨vs,A,c,K⟩ w4 ⟨hx4,hi4,hK,hvl,hown,h34⟩;simp only at hi4 hK hvl hown
 have hKl:K.length≤vs.length:=by
  rw[hK];have:=List.length_filter_le (Qcz cs t) (vs.map (·.1));rw[List.length_map] at this
  exact this
 conv=>whnf
 refine Qeb hi4 (fun hp => ?_) (fun x w5 hxin hnew hlt hi5 ho5 hen => ?_)
 · refine Gg ?_
   constructor
   · intro hh;cases hh
   intro _
   have hpk:(vs.map (·.1)).Perm (L.map (·.1)):=by
    have:=hp.map (·.1);rw[Q8q] at this
    exact this
   have hKn:K.Nodup:=by rw[hK];exact(hpk.nodup_iff.2 hkn).sublist List.filter_sublist
   have hKm:∀ x,x∈K↔Qcz cs t x=true:=fun x=>by
    rw[hK,List.mem_filter]
    exact⟨fun h=>h.2,fun h=>⟨hpk.mem_iff.2 (hin x h),h⟩⟩
   refine Gg ?_;refine(Qkb K A c w3.heap.size w4 hown (by omega)).mono ?_;rintro _ w5 ⟨rfl,hsl,hx5⟩;refine Gg ?_;refine⟨A,c,K,?_,hsl,hKn,hKm,by omega,fun a ha=>by have:=(hown.block ha).1;omega,hx5 w hx4 (by omega)⟩;rw[Qc4]
 · have hx5:=ho5.ext hx4 (by omega)
   have hown5:Own Qav 1 9 w3.heap.size w5 A c K:=hown.keep fun a ha=>ho5.block _ (by have:=(hown.block ha).1;omega)
   have hlt:vs.length<L.length:=by simpa [toV] using hlt
   have hsn:((vs ++ [x]).map (·.1)).filter (Qcz cs t)=K++if Qcz cs t x.1=true then [x.1] else []:=by
    rw[List.map_append,List.filter_append,hK]
    congr 1
    by_cases hq:Qcz cs t x.1=true
    · simp[hq]
    · simp[hq]
   have s5:=ho5.size;refine Gg ?_;constructor
   · intro _
     refine Gg ?_;refine Qat (hen w5 rfl rfl) ?_;refine Gg ?_;refine(Qgm w5 S p cs (h.ext hx5) x.1 t (hl x.1)).mono ?_;rintro _ w6 ⟨rfl,hx6⟩;refine Gg ?_;intro b9 w7 hn7;refine Gg ?_;refine Qd Qa (e:=ty167) rfl hn7.At rfl rfl rfl (by simp[Qg,itC,Value.oneCell']) fun w8 h9 ho8 => ?_
     have h9:At w8 b9 167 (itC (X6 cs x.1 t).1):=h9;have hx58:Ext w5 w8:=ho8.ext (hx6.trans hn7.ext) (by rw[hn7.block];exact hx6.size);clear ho8 hn7 hx6;refine Gg ?_;refine⟨.bool (X6 cs x.1 t).1.listed,fun _=>h9.one rfl,Gg ?_⟩;refine⟨itC (X6 cs x.1 t).1,fun _=>⟨rfl,h9.all⟩,Gg ?_⟩;refine⟨Unit,fun _=>(.bool true),fun _ w'=>Ext w8 w',(),fun hg=>((Q6z (X6 cs x.1 t).1 w8)).mono fun r w' h=>⟨(),h.1,h.2⟩,?_⟩;intro _ w9 h2
     have hx89:Ext w8 w9:=by
      rcases h2 with⟨_,h⟩ | ⟨_,h⟩
      · exact h
      · rw[h];exact Ext.refl _
     clear h2
     conv=>whnf
     have hx59:=hx58.trans hx89;have hi9:=hi5.ext hx59;have hown9:=hown5.ext hx59;have hx9:=hx5.trans hx59;have s9:=hx59.size;clear hx58 hx89 h9 hi5 hown5;refine Gg ?_;constructor
     · intro hq
       have hq:Qcz cs t x.1=true:=by
        have:(((X6 cs x.1 t).2&&(X6 cs x.1 t).1.listed)&&true)=true:=hq;rw[Bool.and_true] at this
        exact this
       rw[if_pos hq] at hsn;refine Gg ?_;intro bb wb hnb;refine Gg ?_;refine Qs Qb6 (l:=K) (news := [x.1]) rfl (hown9.ext hnb.ext) rfl (Qb6.new1 (x:=x.1) hnb) (by simp;omega) (by have:=hnb.size;omega) fun A6 c6 w6 hown6 hg6 hA6 => ?_
       have hr6:∀ k,A.map (·.block)=some k→w3.heap.size≤k:=Xy (hown9.ext hnb.ext);have hx6:Ext w w6:=Qr (hx9.trans hnb.ext) hg6 (fun k hk=>by have:=hr6 k hk;omega)
       have hi6:Iter w6 r bm Value.string (toV (Qw cs) L) (vs ++ [x]):=by
        have hib:=hi9.ext hnb.ext;have hbl:=hmap.lt
        exact hib.keep (hg6.block bm hib.map.lt fun e=>by have:=hr6 bm e.symm;omega) (hg6.block r hib.lt fun e=>by have:=hr6 r e.symm;omega)
       have sb:=hnb.size;have s6:=hg6.size;generalize K ++ [x.1]=K2 at hown6 hsn ⊢;refine Gg ?_
       exact⟨(vs ++ [x],A6,c6,K2),by simp;omega,⟨hx6,hi6,hsn.symm,by simp;omega,hown6,by omega⟩,Rr⟩
     · intro hq
       have hq:¬ Qcz cs t x.1=true:=fun h=>by
        have:(((X6 cs x.1 t).2&&(X6 cs x.1 t).1.listed)&&true)=false:=hq;rw[Bool.and_true] at this;unfold Qcz at h;rw[this] at h
        cases h
       rw[if_neg hq,List.append_nil] at hsn;refine Gg ?_
       exact⟨(vs ++ [x],A,c,K),by simp;omega,⟨hx9,hi9,hsn.symm,by simp;omega,hown9,by omega⟩,Rr⟩
   · intro hh;cases hh
theorem Qvq (w:World) (S:Nat→Prop) (p:Nat) (cs:List Ev) (h:Qg0 w S p cs) (t:Int) (hl:∀ name,(Qw cs name).length<1000000000000) (hcl:cs.length<100000) :
 Cal Tryz.prog 315 [.pointer (some ⟨p,0,none⟩),.int .i64 t] w fun r w'=>∃ A c K,r = .slice A (Xb K).length c∧SlT w' A (Xb K)∧K.Nodup∧(∀ x,x∈K↔Qcz cs t x=true)∧K.length<1000000∧(∀ a,A=some a→w.heap.size≤a.block)∧Ext w w':=by
 refine Fi Tryz.func315 rfl _ rfl rfl (Hh ?_);refine(Qwz w S p cs h t hl hcl).mono ?_;rintro _ w2 ⟨A,c,K,rfl,h2,h3,h4,h5,h6,h7⟩;refine Gg ?_
 exact⟨A,c,K,rfl,h2,h3,h4,h5,h6,h7⟩
theorem Q0h (w:World) (S:Nat→Prop) (p:Nat) (cs:List Ev) (h:Qg0 w S p cs) (t:Int) (hl:∀ name,(Qw cs name).length<1000000000000) (hcl:cs.length<100000) :
 Cal Tryz.prog 315 [.pointer (some ⟨p,0,none⟩),.int .i64 t] w fun r w'=>∃ A c K,r = .slice A (Xb K).length c∧SlT w' A (Xb K)∧K.Nodup∧(∀ x,x∈K↔Qcz cs t x=true)∧K.length<1000000∧Ext w w' :=
 (Qvq w S p cs h t hl hcl).mono fun r w' ⟨A,c,K,h1,h2,h3,h4,h5,_,h6⟩=>⟨A,c,K,h1,h2,h3,h4,h5,h6⟩
def Qfo (l:List Ct):List Ct:=l.mergeSort fun a b => !Qlz b a
theorem Q7w (a b c:Ct) (h1:Qlz b a=false) (h2:Qlz c b=false):Qlz c a=false:=by
 unfold Qlz at *;simp only[Bool.or_eq_false_iff,decide_eq_false_iff_not,Bool.and_eq_false_iff] at *;refine⟨by omega,?_⟩
 by_cases e:c.2=a.2
 · right
   have e1:b.2=a.2:=by omega
   have e2:c.2=b.2:=by omega
   have q1:bLt b.1 a.1=false:=h1.2.elim (fun h=>absurd e1 h) id;have q2:bLt c.1 b.1=false:=h2.2.elim (fun h=>absurd e2 h) id
   cases hc:bLt c.1 a.1 with
   | false=>rfl
   | true =>
     cases hb:bLt a.1 b.1 with
     | true=>rw[Qa2 hc hb] at q2;cases q2
     | false=>rw[Qa9 hb q1,q2] at hc;cases hc
 · exact .inl e
theorem Q0f (a b:Ct):((!Qlz b a)||(!Qlz a b))=true:=by
 cases h:Qlz b a with
 | false=>rfl
 | true =>
   cases h2:Qlz a b with
   | false=>rfl
   | true =>
     unfold Qlz at h h2;simp only[Bool.or_eq_true,decide_eq_true_eq,Bool.and_eq_true] at h h2
     exfalso
     have e:a.2=b.2:=by omega
     have q1:bLt b.1 a.1=true:=by rcases h with h | h;omega;exact h.2
     have q2:bLt a.1 b.1=true:=by rcases h2 with h | h;omega;exact h.2
     have:=Qa2 q1 q2;rw[Xj] at this;cases this
theorem Qe3 (l:List Ct):(Qfo l).Perm l:=List.mergeSort_perm _ _
theorem Q5u (l:List Ct):Srt Qlz (Qfo l):=by
 have:=List.pairwise_mergeSort (le:=fun a b => !Qlz b a) (fun a b c h1 h2=>by
  simp only[Bool.not_eq_true'] at *
  exact Q7w a b c h1 h2) Q0f l
 exact this.imp fun h=>by simpa using h
theorem Qqs {F L:List Ct} (hp:F.Perm L) (hs:Srt Qlz F):F=Qfo L:=by
 refine Qjq (hp.trans (Qe3 L).symm) hs (Q5u L) fun x _ y _ h1 h2 => ?_
 unfold Qlz at h1 h2;simp only[Bool.or_eq_false_iff,decide_eq_false_iff_not,Bool.and_eq_false_iff] at h1 h2;have e2:x.2=y.2:=by omega
 have e1:x.1=y.1:=by
  have q1:bLt x.1 y.1=false:=h1.2.elim (fun h=>absurd e2 h) id;have q2:bLt y.1 x.1=false:=h2.2.elim (fun h=>absurd e2.symm h) id
  exact Qa9 q1 q2
 exact Prod.ext e1 e2
def Qb5 (z:List Ev) (now:Int):List ByteArray:=Qbt (((Xa z).map (·.item)).filter (Qcz (Xa z) now))
def Qfu (s:Qjv) (half now:Int):List Ct:=((s.map (·.1)).map fun k=>(k,Qb2 s half k now)).filter fun x=>decide (0<x.2)
def Qj1 (S:List Sn):List ByteArray:=Qbt (S.flatMap (·.items))
def Qdx (S:List Sn) (a:ByteArray):List ByteArray:=Qbt ((S.flatMap (·.items)).filter fun b => !decide (a=b)&&decide (0<Qc7 S a b))
theorem Q04 {S:List Sn} {a:ByteArray}:0<Qam S a↔a∈S.flatMap (·.items):=by
 unfold Qam hasB;rw[List.length_pos_iff_exists_mem,List.mem_flatMap];simp only[List.mem_filter,decide_eq_true_eq]
theorem Xa5 {S:List Sn} {a b:ByteArray} (h:0<Qc7 S a b):b∈S.flatMap (·.items):=by
 unfold Qc7 hasB at h;rw[List.length_pos_iff_exists_mem] at h;obtain⟨s,hs⟩:=h;simp only[List.mem_filter,Bool.and_eq_true,decide_eq_true_eq] at hs
 exact List.mem_flatMap.2 ⟨s,hs.1,hs.2.2⟩
theorem Qxm {m:List (ByteArray×Int)} (h:∀ x∈m,0<x.2) {a:ByteArray}:a∈m.map (·.1)↔0<(Qe m a).getD 0:=by
 rw[Qkx]
 cases hq:Qe m a with
 | none=>simp
 | some v=>simpa using h (a,v) (Xt hq)
theorem TabIs.items {sg:List (ByteArray×Int)} {ct:Qt1} {S:List Sn} (h:TabIs sg ct S) (hn:sg.Pairwise (fun x y=>x.1≠y.1)):Xb (sg.map (·.1))=Qj1 S:=by
 refine Qga (Xx hn) fun x => ?_
 rw[Qxm h.pos.1,h.sg,← Q04];omega
theorem Qp0 {S:List Sn} {a b:ByteArray}:b∈(S.flatMap (·.items)).filter (fun b => !decide (a=b)&&decide (0<Qc7 S a b))↔a≠b∧0<Qc7 S a b:=by
 rw[List.mem_filter,Bool.and_eq_true,Bool.not_eq_true',decide_eq_false_iff_not,decide_eq_true_eq]
 exact⟨fun h=>h.2,fun h=>⟨Xa5 h.2,h⟩⟩
theorem TabIs.near {sg:List (ByteArray×Int)} {ct:Qt1} {S:List Sn} (h:TabIs sg ct S) {a:ByteArray} {m:List (ByteArray×Int)} (hm:Qe ct a=some m) (hn:m.Pairwise (fun x y=>x.1≠y.1)):Xb (m.map (·.1))=Qdx S a:=by
 refine Qga (Xx hn) fun x => ?_
 rw[Qxm (h.pos.2 (a,m) (Xt hm)),Qp0];have:=h.ct a x;rw[hm] at this;simp only[Option.getD_some] at this;rw[this]
 by_cases hx:a=x
 · simp[hx]
 · rw[if_neg hx]
   exact⟨fun h=>⟨hx,by omega⟩,fun h=>by have:=h.2;omega⟩
theorem TabIs.near0 {sg:List (ByteArray×Int)} {ct:Qt1} {S:List Sn} (h:TabIs sg ct S) {a:ByteArray} (hm:Qe ct a=none):Qdx S a = []:=by
 have:∀ x,x∉Qdx S a:=fun x hx=>by
  unfold Qdx at hx;rw[Xp,Qp0] at hx;have h2:=h.ct a x;rw[hm] at h2;rw[if_neg hx.1] at h2;have h3:(Qe ((none:Option (List (ByteArray×Int))).getD []) x).getD 0=0:=rfl;rw[h3] at h2;omega
 cases hq:Qdx S a with
 | nil=>rfl
 | cons y l=>exact absurd (by rw[hq];simp) (this y)
theorem Q1l {z:List Ev} (hm:∀ e∈z,Xn e=true) {e:Ev} (he:e∈Xa z):Qn e.item=true:=by
 obtain⟨h1,h2⟩:=List.mem_filter.1 he;have hk:=Qa4 (Qbq.1 (hm e h1)).kind;have h3:e.kind=11∨e.kind=12∨e.kind=13:=by simpa [thB] using h2
 rcases hk with⟨h,_⟩ | ⟨h,_⟩ | ⟨h,_⟩ | ⟨_,_,h,_⟩ | ⟨_,_,h,_⟩ | ⟨_,_,h,_⟩ | ⟨h,_⟩
 · omega
 · omega
 · omega
 · exact h
 · exact h
 · exact h
 · omega
theorem Qvu {z:List Ev} (hm:∀ e∈z,Xn e=true) {e:Ev} (he:e∈Qb4 z):Qn e.person=true:=by
 obtain⟨h1,h2⟩:=List.mem_filter.1 he;have hk:=Qa4 (Qbq.1 (hm e h1)).kind;have h3:¬ (e.kind=11∨e.kind=12∨e.kind=13)∧¬ e.kind=14:=by simpa [peB,thB] using h2
 rcases hk with⟨_,h,_⟩ | ⟨_,h,_⟩ | ⟨_,h,_⟩ | ⟨h,_⟩ | ⟨h,_⟩ | ⟨h,_⟩ | ⟨h,_⟩
 · exact h
 · exact h
 · exact h
 · omega
 · omega
 · omega
 · omega
theorem Qqy {z:List Ev} (hm:∀ e∈z,Xn e=true) {e:Ev} (he:e∈z.filter wpB):Qn e.person=true∧Qn e.item=true:=by
 obtain⟨h1,h2⟩:=List.mem_filter.1 he
 exact Qdz (hm e h1) (by simpa [wpB] using h2)
def ItB (i:It):Prop:=i.maker.size<1000∧i.tags.size<1000∧(0≤i.price∧i.price≤1099511627776)∧(0≤i.stock∧i.stock≤1099511627776)∧0≤i.born∧i.born≤1099511627776
theorem Qvd (name:ByteArray):ItB { Qc6 with name:=name }:=by
 have h:(⟨#[]⟩:ByteArray).size=0:=rfl;unfold ItB Qc6;simp only[h];omega
theorem Xer {s:St} {e:Ev} (h:ItB s.item) (he:Xn e=true) (hk:e.kind=11∨e.kind=12∨e.kind=13):ItB (Qb9 s e).item:=by
 have hc:=Qa4 (Qbq.1 he).kind;have ha:=(Qbq.1 he).at_;obtain⟨h1,h2,h3,h4,h5⟩:=h;have hr:=Qmh e.text;have ht:=Qfl he;unfold Qb9
 split
 · next k =>
   have hl:Qcc e.text=true∧0≤e.val∧e.val≤1048576:=by
    rcases hc with⟨h,_⟩ | ⟨h,_⟩ | ⟨h,_⟩ | ⟨_,_,_,h⟩ | ⟨h,_⟩ | ⟨h,_⟩ | ⟨h,_⟩
    · omega
    · omega
    · omega
    · exact h
    · omega
    · omega
    · omega
   have hn:Qn (Qb3 e.text)=true:=by
    have:=hl.1;unfold Qcc at this;simp only[Bool.and_eq_true] at this
    exact this.1.2
   have hs:=Qdv hn;refine⟨by show (Qb3 e.text).size<1000;omega,by show (Qau e.text).size<1000;omega,by show 0≤e.val∧e.val≤_;omega,h4,?_⟩;show 0≤(if s.born=true then s.item.born else e.at_)∧(if s.born=true then s.item.born else e.at_)≤_
   split
   · exact h5
   · exact ha
 · split
   · next k =>
     have hl:0≤e.val∧e.val≤1048576:=by
      rcases hc with⟨h,_⟩ | ⟨h,_⟩ | ⟨h,_⟩ | ⟨h,_⟩ | ⟨_,_,_,_,h⟩ | ⟨h,_⟩ | ⟨h,_⟩
      · omega
      · omega
      · omega
      · omega
      · exact h
      · omega
      · omega
     exact⟨h1,h2,h3,by show 0≤e.val∧e.val≤_;omega,h5⟩
   · exact⟨h1,h2,h3,h4,h5⟩
theorem Qy8:∀ cs:List Ev,(∀ e∈cs,Xn e=true∧(e.kind=11∨e.kind=12∨e.kind=13))→∀ name,∀ s∈Qw cs name,ItB s.item:=by
 refine Qu (fun _ name s hs=>by simp[Qw] at hs) fun l e ih h name s hs => ?_
 have ih:=ih (fun x hx=>h x (by simp[hx]));obtain⟨he,hk⟩:=h e (by simp);rw[Qba] at hs;unfold Qfa Qkl at hs
 split at hs
 · rcases List.mem_append.1 hs with hs | hs
   · exact ih _ s hs
   · rw[List.mem_singleton] at hs
     subst hs;unfold Qe7;refine Xer ?_ he hk
     cases hq:(Qw l e.item).getLast? with
     | none=>exact Qvd _
     | some s=>exact ih _ s (List.mem_of_getLast? hq)
 · exact ih name s hs
theorem Q94 {z:List Ev} (hm:∀ e∈z,Xn e=true) (name:ByteArray) (t:Int):ItB (X6 (Xa z) name t).1:=by
 have hb:=Qy8 (Xa z) (fun e he=>⟨hm e (List.mem_filter.1 he).1,by simpa [thB] using (List.mem_filter.1 he).2⟩) name;unfold X6
 split
 · next s hs =>
   split
   · exact Qvd ⟨#[]⟩
   · exact hb s (List.mem_of_getElem? hs)
 · exact Qvd ⟨#[]⟩
theorem Qsn (z:List Ev) (now:Int):(Qb5 z now).length≤z.length:=by
 unfold Qb5;have h1:=Qkz (((Xa z).map (·.item)).filter (Qcz (Xa z) now));have h2:=List.length_filter_le (Qcz (Xa z) now) ((Xa z).map (·.item));have h3:(Xa z).length≤z.length:=List.length_filter_le thB z;rw[List.length_map] at h2;omega
theorem Q26:∀ l:List Ev,(Qi7 l).length≤l.length∧∀ x∈Qi7 l,∃ e∈l,e.item=x.1:=by
 refine Qu ⟨by simp[Qi7],fun x hx=>by simp[Qi7] at hx⟩ fun l e ih => ?_
 rw[Qpe,List.length_append,List.length_singleton];unfold Qqg
 split
 · exact⟨by omega,fun x hx=>by obtain⟨u,hu,h⟩:=ih.2 x hx;exact⟨u,by simp[hu],h⟩⟩
 · have:=Qcp e.item (Q7 ((Qe (Qi7 l) e.item).getD []) e.at_ ((Qe ((Qe (Qi7 l) e.item).getD []) e.at_).getD 0+Qy e)) (Qi7 l)
   refine⟨by omega,fun x hx => ?_⟩;rcases X4 hx with h | hx
   · exact⟨e,by simp,by rw[h]⟩
   · obtain⟨u,hu,h⟩:=ih.2 x hx;exact⟨u,by simp[hu],h⟩
theorem Q79 (width:Int):∀ l:List Ev,(Qt7 width l).length≤l.length∧∀ x∈Qt7 width l,∃ e∈l,e.item=x.1.1:=by
 refine Qu ⟨by simp[Qt7],fun x hx=>by simp[Qt7] at hx⟩ fun l e ih => ?_
 rw[Qqf,List.length_append,List.length_singleton];unfold Qoa
 split
 · exact⟨by omega,fun x hx=>by obtain⟨u,hu,h⟩:=ih.2 x hx;exact⟨u,by simp[hu],h⟩⟩
 · have:=Qcp (e.item,e.at_/Xr width) ((Qe (Qt7 width l) (e.item,e.at_/Xr width)).getD 0+Qy e) (Qt7 width l)
   refine⟨by omega,fun x hx => ?_⟩;rcases X4 hx with h | hx
   · exact⟨e,by simp,by rw[h]⟩
   · obtain⟨u,hu,h⟩:=ih.2 x hx;exact⟨u,by simp[hu],h⟩
def Xcd (l:List Ev) (q:Sn):Prop:=(∃ e∈l,e.person=q.person)∧(∃ e∈l,e.at_=q.from_)∧(∃ e∈l,e.at_=q.to_)∧∀ i∈q.items,∃ e∈l,e.item=i
theorem Xbi {gap:Int} {l:List Ev} {acc:List Sn} {e:Ev} (he:e∈l) (h:∀ q∈acc,Xcd l q):∀ q∈Qa8 gap acc (adE e),Xcd l q:=by
 intro q hq;have hone:Xcd l ⟨(adE e).1,(adE e).2.1,(adE e).2.1,[(adE e).2.2]⟩:=⟨⟨e,he,rfl⟩,⟨e,he,rfl⟩,⟨e,he,rfl⟩,fun i hi=>⟨e,he,by rw[List.mem_singleton] at hi;rw[hi];rfl⟩⟩;unfold Qa8 at hq
 split at hq
 · next g hg =>
   have hgm:=h g (List.mem_of_getLast? hg)
   split at hq
   · rcases List.mem_append.1 hq with hq | hq
     · exact h q (List.dropLast_subset _ hq)
     · rw[List.mem_singleton] at hq
       subst hq;refine⟨⟨e,he,rfl⟩,hgm.2.1,⟨e,he,rfl⟩,fun i hi => ?_⟩;rcases Qib.1 hi with hi | hi
       · exact hgm.2.2.2 i hi
       · exact⟨e,he,by rw[hi];rfl⟩
   · rcases List.mem_append.1 hq with hq | hq
     · exact h q hq
     · rw[List.mem_singleton] at hq
       subst hq
       exact hone
 · rcases List.mem_append.1 hq with hq | hq
   · exact h q hq
   · rw[List.mem_singleton] at hq
     subst hq
     exact hone
theorem all_in (gap:Int) (l:List Ev):∀ L:List Ad3,(∀ a∈L,a∈l.map adE)→∀ q∈allL gap L,Xcd l q:=by
 refine Qu (fun _ q hq=>by simp[allL] at hq) fun L a ih h => ?_
 rw[Qht];obtain⟨e,he,rfl⟩:=List.mem_map.1 (h a (by simp))
 exact Xbi he (ih fun x hx=>h x (by simp[hx]))
theorem Xc6 (c:Cfg) (z:List Ev):∀ q∈Qk1 c z,Xcd (z.filter wpB) q:=by
 intro q hq;unfold Qk1 at hq;rw[← Q5t _ (Q3d _).1] at hq
 exact all_in _ _ _ (fun a ha=>(Qns _).1 ha) q hq
theorem Qpj (c:Cfg) (z:List Ev) {x:ByteArray} (h:x∈(Qk1 c z).flatMap (·.items)):x∈(z.filter wpB).map (·.item):=by
 obtain⟨q,hq,hx⟩:=List.mem_flatMap.1 h;obtain⟨e,he,rfl⟩:=(Xc6 c z q hq).2.2.2 x hx
 exact List.mem_map.2 ⟨e,he,rfl⟩
theorem Q53 {z:List Ev} {K:List ByteArray} (hn:K.Nodup) (h:∀ x∈K,x∈(z.filter wpB).map (·.item)):K.length≤z.length:=by
 have h1:=Qdh hn h;have h2:=List.length_filter_le wpB z;rw[List.length_map] at h1;omega
theorem Q3q (c:Cfg) (z:List Ev):(Qj1 (Qk1 c z)).length≤z.length:=Q53 (Qcm _) fun x hx=>by
 unfold Qj1 at hx
 exact Qpj c z (Xp.1 hx)
theorem Q70 (c:Cfg) (z:List Ev) (a:ByteArray):(Qdx (Qk1 c z) a).length≤z.length:=Q53 (Qcm _) fun x hx=>by
 unfold Qdx at hx
 exact Qpj c z (List.mem_filter.1 (Xp.1 hx)).1
theorem Q4k {c:Cfg} {z:List Ev} (hm:∀ e∈z,Xn e=true) {a x:ByteArray} (h:x∈Qdx (Qk1 c z) a):Qn x=true:=by
 unfold Qdx at h;obtain⟨e,he,rfl⟩:=List.mem_map.1 (Qpj c z (List.mem_filter.1 (Xp.1 h)).1)
 exact(Qqy hm he).2
open Go.Maps Go.Sort Go.Shelf
theorem Qnw (mb:Option Nat) (w:World):Cal Tryz.prog 384 [.map mb] w fun r w'=>r = .func (.func 412) #[] #[.pointer (some ⟨w.heap.size,0,none⟩)]∧w'.cell? ⟨w.heap.size,0,none⟩=some (.map mb)∧Ext w w' :=
 Qex Tryz.keys384 ⟨_,Tryz.func384,rfl,rfl⟩ mb w
theorem Qtc {w:World} {Bm b:Nat} {L:List (ByteArray×Value)} (hc:w.cell? ⟨Bm,0,none⟩=some (.map (some b))) (hm:MapAt w b Value.string L) (hk:∀ x∈L,x.1.size≤1000000) (hl:L.length≤1000000000) :
 Cal Tryz.prog 35 [.func (.func 412) #[] #[.pointer (some ⟨Bm,0,none⟩)]] w fun r w'=>∃ A c,r = .slice A (Xb (L.map (·.1))).length c∧Own Qav 1 9 w.heap.size w' A c (Xb (L.map (·.1)))∧Ext w w':=by
 obtain⟨N,Q,h1,h2,h3⟩:=Qf0 { Tryz.keys384 with } hc hm hk hl
 exact Qc5 Tryz.sorted35 Qtf (enters_of Tryz.func67 (by kernel_rfl) rfl) (enters_of Tryz.func412 (by kernel_rfl) rfl) ⟨_,Tryz.func35,rfl,rfl⟩ h2 h1 h3
theorem Qwh {w:World} {Bm:Nat} (hc:w.cell? ⟨Bm,0,none⟩=some (.map none)) :
 Cal Tryz.prog 35 [.func (.func 412) #[] #[.pointer (some ⟨Bm,0,none⟩)]] w fun r w'=>∃ A c,r = .slice A 0 c∧Own Qav 1 9 w.heap.size w' A c []∧Ext w w':=by
 have:=Qc5 Tryz.sorted35 Qtf (enters_of Tryz.func67 (by kernel_rfl) rfl) (enters_of Tryz.func412 (by kernel_rfl) rfl) ⟨_,Tryz.func35,rfl,rfl⟩ (l := []) (fun ss (h:ss = [])=>by rw[h];exact List.Perm.refl _) (Nat.zero_le _) (AnyZ.keys_gives_nil { Tryz.keys384 with } Fence.wide 2 trivial rfl Bm w (cell_lt hc) hc);simp only[Qe5,Qml,List.length_nil] at this
 exact this
theorem Q0l (w:World) (S:Nat→Prop) (p:Nat) (Ss:List Sn) (h:Qbz w S p Ss) (a:ByteArray) (hn:∀ x∈Qdx Ss a,x.size≤1000000) (hl:(Qdx Ss a).length≤1000000) :
 Cal Tryz.prog 353 [.pointer (some ⟨p,0,none⟩),.string a] w fun r w'=>∃ A c,r = .slice A (Qdx Ss a).length c∧SlT w' A (Qdx Ss a)∧(∀ a,A=some a→w.heap.size≤a.block)∧Ext w w':=by
 obtain⟨t,sh,hp,⟨sg,ct,b1,b2,hL,hI⟩,_⟩:=h;refine Fi Tryz.func353 rfl _ rfl rfl (Hh ?_);refine⟨_,hp.one rfl,Gg ?_⟩;refine⟨_,hL.head.one rfl,Gg ?_⟩;rcases hL.ct.look Qal Qtt (Qo Xc) (e:=ty79) ty79_ok rfl a with⟨hno,hrd⟩ | ⟨bt,m,Sk,hsome,hrd,hIv,_,_⟩
 · have h0:=hI.near0 hno
   rw[h0];refine⟨_,hrd .same Qm,Gg ?_⟩;refine(Qnw none w).mono ?_;rintro _ w1 ⟨rfl,hc1,hx1⟩;refine Gg ?_;refine(Qwh hc1).mono ?_;rintro _ w2 ⟨A2,c2,rfl,ho2,hx2⟩;refine Gg ?_
   exact⟨A2,c2,rfl,ho2.sl Xi,fun a ha=>Nat.le_trans hx1.size (ho2.block ha).1,hx1.trans hx2⟩
 · have hm:=hIv.2
   have hkn:m.Pairwise (fun x y=>x.1≠y.1):=by
    have:=hm.keys;unfold Xm at this;rw[List.pairwise_map] at this
    exact this
   have hit:=hI.near hsome hkn;have hk1:(Xm vi m).map (·.1)=m.map (·.1):=by unfold Xm;rw[List.map_map];rfl
   have hsl:m.length≤1000000:=by
    have:=congrArg List.length hit;rw[Qc4,List.length_map] at this;omega
   have hk:∀ x∈Xm vi m,x.1.size≤1000000:=fun x hx=>by
    have h1:x.1∈(Xm vi m).map (·.1):=List.mem_map.2 ⟨x,hx,rfl⟩;rw[hk1,← Qgc,hit] at h1
    exact hn _ h1
   refine⟨_,hrd .same Qm,Gg ?_⟩;refine(Qnw (some bt) w).mono ?_;rintro _ w1 ⟨rfl,hc1,hx1⟩;refine Gg ?_;refine(Qtc hc1 (hm.ext hx1) hk (by unfold Xm;rw[List.length_map];omega)).mono ?_;rintro _ w2 ⟨A2,c2,rfl,ho2,hx2⟩;rw[hk1,hit] at ho2 ⊢;refine Gg ?_
   exact⟨A2,c2,rfl,ho2.sl Xi,fun a ha=>Nat.le_trans hx1.size (ho2.block ha).1,hx1.trans hx2⟩
end Go.Proofs.YtohkipkjleldpaaGreatDoor
