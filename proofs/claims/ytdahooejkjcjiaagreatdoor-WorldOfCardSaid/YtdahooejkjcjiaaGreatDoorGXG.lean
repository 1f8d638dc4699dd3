/- Several texts in one: Rf5, Rg1, Rg2, Rg3, Rg4, Rg5, Rg6. -/
import Derived.Test.YtdahooejkjcjiaaGreatDoorHRf4
import Derived.Test.YtdahooejkjcjiaaGreatDoorGM
import Derived.Test.YtdahooejkjcjiaaGreatDoorGXB
import Derived.Test.YtdahooejkjcjiaaGreatDoorGXC
set_option linter.unusedVariables false
set_option linter.unusedSimpArgs false
namespace Go.Proofs.YtdahooejkjcjiaaGreatDoor
open Go.Se Go.RowKit
theorem Q8e:∀ z:List Ev,(∀ e∈z,Xn e=true)→∀ r∈Qhj z,Xn r.1=true∧r.2.length≤8:=by
 refine Xf (fun _ r hr=>by simp[Qhj,Q1s] at hr) fun z e ih hm r hr => ?_
 rw[Qel] at hr;rcases List.mem_append.1 hr with hr | hr
 · exact ih (fun x hx=>hm x (by simp[hx])) r hr
 · split at hr
   · rw[List.mem_singleton] at hr
     subst hr;refine⟨hm e (by simp),?_⟩;show (Qn5 (Qs z) e).length≤8
     unfold Qn5
     split
     · simp
     · exact(Qwk e.item _ fun y hy=>Qd6 (fun x hx=>hm x (by simp[hx])) y (List.mem_filter.1 hy).1).2.2
   · simp at hr
theorem Qjm {L:List Ct} (h:(L.map (·.1)).Nodup):L.Nodup :=
 (List.pairwise_map.1 h).imp fun hne e=>hne (by rw[e])
theorem Q3h {f:ByteArray→Int} {L M:List Ct} (h:Qp9 f L) (k:Qp9 f M):∀ x∈L,x∈M:=fun x hx=>by
 obtain⟨h1,h2⟩:=h.mem x hx;obtain⟨y,hy,he⟩:=List.mem_map.1 (k.all x.1 (by omega));have h3:=(k.mem y hy).1;have h4:y=x:=Prod.ext he (by rw[h3,he,← h1])
 rwa [← h4]
theorem Qy4 {f:ByteArray→Int} {L M:List Ct} (h:Qp9 f L) (hs:Srt Qfk L) (k:Qp9 f M):L=Qdr M :=
 Qr4 (Qfd (Qjm h.nodup) (Qjm k.nodup) (Q3h h k) (Q3h k h)) hs
theorem Q8l {z:List Ev} (hr:Rise z) (hm:∀ e∈z,Xn e=true) (hz:z.length<1000) (width half now:Int) (person:ByteArray):Qp9 (Qsl half now (rowsOf (Qhj z) person)) (Q6j half now (rowsOf (Qo width z).rs person)):=by
 have hrs:=Qgb width z hr hm;have hrl:=Qzw width z;have hl2:(rowsOf (Qo width z).rs person).length≤(Qo width z).rs.length:=List.length_filter_le _ _;have hg:=fun t=>Q59 half now t (rowsOf (Qo width z).rs person) (fun r hr=>⟨(hrs r (List.mem_filter.1 hr).1).1,(hrs r (List.mem_filter.1 hr).1).2.1⟩) (by omega)
 have hs:=fun t=>Q8p width half now person t z hr hm
 have hk:=Qu2 half now (rowsOf (Qo width z).rs person);refine⟨Qas (hk.sublist List.filter_sublist),fun x hx => ?_,fun t ht => ?_⟩
 · obtain⟨h1,h2⟩:=List.mem_filter.1 hx
   have h2:0<x.2:=by simpa using h2
   have h3:=Qd1 hk (show (x.1,x.2)∈_ from h1);have h4:=(hg x.1).1;rw[h3,hs x.1] at h4
   exact⟨h4,h2⟩
 · have h4:=(hg t).1
   rw[hs t] at h4
   cases hq:Qe (Qyc half now (rowsOf (Qo width z).rs person)) t with
   | none=>rw[hq] at h4;simp only[Option.getD_none] at h4;omega
   | some v =>
     rw[hq] at h4;simp only[Option.getD_some] at h4
     exact List.mem_map.2 ⟨(t,v),List.mem_filter.2 ⟨Qbs hq,by simp only[decide_eq_true_eq];omega⟩,rfl⟩
theorem Qv4:∀ l:List Ev,(Qf6 l).Pairwise (fun x y=>x.1≠y.1):=by
 refine Xf (by simp[Qf6]) fun l e ih => ?_
 rw[Qmr];unfold Qpr
 split
 · exact ih
 · exact Qbm ih
theorem Xb6 {z:List Ev} (hm:∀ e∈z,Xn e=true) (hz:z.length<1000) (half now:Int):Qp9 (fun k=>Qop (z.filter wpB) half k now) (Qcw (Qf6 (z.filter wpB)) half now):=by
 have hc:=fun k=>Qmp hm hz half k now
 have hk:=Qas (Qv4 (z.filter wpB));refine⟨?_,fun x hx => ?_,fun t ht => ?_⟩
 · unfold Qcw
   have h1:((((Qf6 (z.filter wpB)).map (·.1)).map fun k=>((k,Qae (Qf6 (z.filter wpB)) half k now):Ct)).map (·.1)).Nodup:=by
    rw[List.map_map];have:((fun x:Ct=>x.1) ∘ fun k=>((k,Qae (Qf6 (z.filter wpB)) half k now):Ct))=id:=rfl;rw[this,List.map_id]
    exact hk
   exact h1.sublist (List.filter_sublist.map _)
 · unfold Qcw at hx
   obtain⟨h1,h2⟩:=List.mem_filter.1 hx;obtain⟨k,_,rfl⟩:=List.mem_map.1 h1
   exact⟨(hc k).1,by simpa using h2⟩
 · have ht:0<Qop (z.filter wpB) half t now:=ht
   rw[← (hc t).1] at ht;unfold Qcw;refine List.mem_map.2 ⟨(t,Qae (Qf6 (z.filter wpB)) half t now),List.mem_filter.2 ⟨List.mem_map.2 ⟨t,?_,rfl⟩,by simpa using ht⟩,rfl⟩;rw[Qjk]
   cases hq:Qe (Qf6 (z.filter wpB)) t with
   | some r=>rfl
   | none =>
     unfold Qae at ht;rw[hq] at ht
     exact absurd (show (0:Int)<0 from ht) (by decide)
theorem Q4z {z:List Ev} (hm:∀ e∈z,Xn e=true) (width lo hi:Int):Qbt (((z.filter wpB).map (·.item)).filter fun k=>decide (0<paS (Qg0 width (z.filter wpB)) k lo hi))=Qcj (Qg0 width (z.filter wpB)) lo hi:=by
 have hb:=(Qfh width z hm).ps;rw[(Qdb width z).2.1] at hb
 have:∀ x,x∈((z.filter wpB).map (·.item)).filter (fun k=>decide (0<paS (Qg0 width (z.filter wpB)) k lo hi))↔x∈Qcj (Qg0 width (z.filter wpB)) lo hi:=fun x=>by
  rw[Qte hb,List.mem_filter,decide_eq_true_eq];refine⟨fun h=>h.2,fun h=>⟨?_,h⟩⟩;have h2:=(Qte hb).2 h;unfold Qcj at h2;rw[X7] at h2;obtain⟨y,hy,rfl⟩:=List.mem_map.1 h2;obtain⟨e,he,hi⟩:=(Qrl width _).2 y (List.mem_filter.1 hy).1
  exact List.mem_map.2 ⟨e,he,hi⟩
 refine(Qkw this).trans ?_;unfold Qcj
 exact Qud _
theorem Q7q {cs:List Ev} (h:Rise cs) (t:Int) (name:ByteArray):Qfj cs t name=(Qje name (cs.filter (thQ name t))).listed:=by
 unfold Qfj;rw[Qi6 h];simp only;unfold Qje
 cases cs.filter (thQ name t) with
 | nil=>rfl
 | cons a l=>simp
theorem Q1k (z:List Ev):Qbt ((Qhj z).map fun r=>r.1.person)=Qtw z:=by
 unfold Qtw;rw[← Q5k,List.map_map];rfl
theorem Qma:Qbt [] = []:=List.eq_nil_of_length_eq_zero (Nat.le_zero.1 (Qgn []))
theorem Qm9 {α:Type} (f:α→ByteArray) (P:ByteArray→Bool) (l:List α) (k:Nat) (h:k<l.length):Qbt (((l.take (k+1)).map f).filter P)=if P (f l[k])=true then Qe2 bLt (Qbt (((l.take k).map f).filter P)) (f l[k]) else Qbt (((l.take k).map f).filter P):=by
 rw[Xi l k h,List.map_append,List.filter_append,List.map_cons,List.map_nil]
 by_cases hq:P (f l[k])=true
 · rw[if_pos hq,List.filter_cons_of_pos hq,List.filter_nil,Qqz]
 · rw[if_neg hq,List.filter_cons_of_neg hq,List.filter_nil,List.append_nil]
theorem Qq2 {α:Type} (f:α→ByteArray) (P:ByteArray→Bool) (l:List α):(Qbt ((l.map f).filter P)).length≤l.length:=by
 have h1:=Qgn ((l.map f).filter P);have h2:=List.length_filter_le P (l.map f);rw[List.length_map] at h2;omega
theorem Qvs {α:Type} (p:α→Bool) (f:α→ByteArray) (l:List α):Xk (l.map fun x=>if p x=true then f x else⟨#[]⟩)=Xk ((l.filter p).map f):=by
 induction l with
 | nil=>rfl
 | cons x l ih =>
   rw[List.map_cons,List.filter_cons]
   cases h:p x with
   | true =>
     show (if true=true then f x else _)++Xk _=Xk ((x :: l.filter p).map f)
     rw[if_pos rfl,ih];rfl
   | false =>
     show (if false=true then f x else _)++Xk _=Xk ((l.filter p).map f)
     rw[if_neg (by decide),Qsr,ih]
theorem Qwv {S:List Sn} {i:Nat} {a:ByteArray} (hi:i<(Qab S).length) (ha:(Qab S)[i]=a):(Qdk S a).filter (fun b=>bLt a b)=((Qab S).drop (i+1)).filter (fun b=>decide (0<Qa7 S a b)):=by
 have hs:SG bLt (Qab S):=Qb8 _;have hn:SG bLt (Qdk S a):=Qb8 _;refine Qjv Qmd (List.Pairwise.sublist List.filter_sublist hn) (List.Pairwise.sublist List.filter_sublist (List.Pairwise.sublist (List.drop_sublist _ _) hs)) fun x => ?_
 have hsp:Qab S=(Qab S).take i++a :: (Qab S).drop (i+1):=by
  rw[← ha,List.getElem_cons_drop,List.take_append_drop]
 have hp:SG bLt ((Qab S).take i++a :: (Qab S).drop (i+1)):=by rw[← hsp];exact hs
 obtain⟨_,h2,h3⟩:=List.pairwise_append.1 hp;have h2:=(List.pairwise_cons.1 h2).1
 have hin:x∈Qab S↔x∈(Qab S).take i∨x=a∨x∈(Qab S).drop (i+1):=by
  conv=>lhs;rw[hsp]
  rw[List.mem_append,List.mem_cons]
 have hmem:x∈Qdk S a↔a≠x∧0<Qa7 S a x:=by unfold Qdk;rw[X7,Ql7]
 rw[List.mem_filter,List.mem_filter,hmem,decide_eq_true_eq];constructor
 · rintro ⟨⟨_,h4⟩,h5⟩
   refine⟨?_,h4⟩;have h6:x∈Qab S:=X7.2 (Q4u h4);rcases hin.1 h6 with h | h | h
   · have h7:=h3 x h a (by simp)
     have h8:=Qav h5 h7;rw[X5] at h8;cases h8
   · rw[h,X5] at h5;cases h5
   · exact h
 · rintro ⟨h4,h5⟩
   have h6:=h2 x h4;refine⟨⟨fun e => ?_,h5⟩,h6⟩;rw[← e,X5] at h6;cases h6
def Qiy (S:List Sn) (a b:ByteArray):ByteArray:=Qck [Qj7,a,b,nB (Qa7 S a b)]
theorem Q4y {S:List Sn} {i:Nat} {a:ByteArray} (hi:i<(Qab S).length) (ha:(Qab S)[i]=a):Qb7 S a=Xk ((((Qab S).drop (i+1)).filter (fun b=>decide (0<Qa7 S a b))).map (Qiy S a)):=by
 rw[← Qwv hi ha]
 exact Qvs (fun b=>bLt a b) (Qiy S a) (Qdk S a)
theorem Qhq {s:ByteArray} (h:1≤s.size):Xt s=s:=by
 unfold Xt;have:s≠⟨#[]⟩:=fun e=>by rw[e] at h;exact absurd h (by decide)
 rw[decide_eq_false this];rfl
theorem Qd4 {s:ByteArray} (h:Qm s=true):Xt s=s:=Qhq (Xr h).1
theorem Xb3 (n:Int):1≤(nB n).size:=by
 unfold nB Qqq;rw[Qdo]
 by_cases h:n.toNat<10
 · rw[Lib.decDigits_one h];simp
 · rw[Ql0 (by omega)];simp
theorem Qns (n:Int):Xt (nB n)=nB n:=Qhq (Xb3 n)
theorem Qff {s:ByteArray} {x:UInt8} {l:List UInt8} (h:s=⟨(x :: l).toArray⟩):Xt s=s:=Qhq (by rw[h];show 1≤(x :: l).toArray.size;simp)
def Qsj (head:ByteArray) (x:Ct):ByteArray:=head++spB++x.1++(spB++nB x.2)++nlB
theorem Q77 {x:Ct} (h:Qm x.1=true):Qoi x=Qsj Qdj x:=by
 unfold Qoi Qck Qca Qsj;simp only[List.map_cons,List.map_nil,Xk,Qd4 h,Qns,Qff (s:=Qdj) rfl,ByteArray.append_assoc,X8]
theorem Q2j {person:ByteArray} {x:Ct} (hp:Qm person=true) (h:Qm x.1=true):Qf5 person x=Qsj (Qe6++spB++person) x:=by
 unfold Qf5 Qck Qca Qsj;simp only[List.map_cons,List.map_nil,Xk,Qd4 h,Qd4 hp,Qns,Qff (s:=Qe6) rfl,ByteArray.append_assoc,X8]
theorem Q62 (c:Cfg):Q2t c=Qif++(spB++nB c.half)++(spB++nB c.width)++(spB++nB c.gap)++(spB++nB c.span)++(spB++nB c.floor)++(spB++nB c.crowd)++nlB:=by
 unfold Q2t Qck Qca;simp only[List.map_cons,List.map_nil,Xk,Qns,Qff (s:=Qif) rfl,ByteArray.append_assoc,X8]
theorem Q90 {e:Ev} (h:1≤(Qfu e).size):evD e=Qhv++spB++Qfu e++nlB:=by
 unfold evD Qck Qca;simp only[List.map_cons,List.map_nil,Xk,Qhq h,Qff (s:=Qhv) rfl,ByteArray.append_assoc,X8]
theorem Xa7 {z:List Ev} {now:Int} {name:ByteArray} (h:Qm name=true):thD z now name=Qhw++spB++name++spB++Xt (X3 (Qs z) name now).1.maker++spB++Xt (X3 (Qs z) name now).1.tags++(spB++nB (X3 (Qs z) name now).1.price)++(spB++nB (X3 (Qs z) name now).1.stock)++(spB++nB (X3 (Qs z) name now).1.born)++nlB:=by
 unfold thD Qck Qca;simp only[List.map_cons,List.map_nil,Xk,Qd4 h,Qns,Qff (s:=Qhw) rfl,ByteArray.append_assoc,X8]
theorem Q40 {z:List Ev} {c:Cfg} {key:ByteArray} (h:Qm key=true):Qdl z c key=Qll++spB++key++(spB++nB (paS (Qo c.width z).ps key (0/Qw c.width) ((1099511627776+c.width)/Qw c.width)))++nlB:=by
 unfold Qdl Qck Qca;simp only[List.map_cons,List.map_nil,Xk,Qd4 h,Qns,Qff (s:=Qll) rfl,ByteArray.append_assoc,X8]
theorem Xav {q:Sn} (h:Qm q.person=true) (hj:1≤(jnB q.items).size):snD q=Qd7++spB++q.person++(spB++nB q.from_)++(spB++nB q.to_)++spB++jnB q.items++nlB:=by
 unfold snD Qck Qca;simp only[List.map_cons,List.map_nil,Xk,Qd4 h,Qns,Qhq hj,Qff (s:=Qd7) rfl,ByteArray.append_assoc,X8]
theorem Q4v {S:List Sn} {a b:ByteArray} (ha:Qm a=true) (hb:Qm b=true):Qiy S a b=Qj7++spB++a++spB++b++(spB++nB (Qa7 S a b))++nlB:=by
 unfold Qiy Qck Qca;simp only[List.map_cons,List.map_nil,Xk,Qd4 ha,Qd4 hb,Qns,Qff (s:=Qj7) rfl,ByteArray.append_assoc,X8]
theorem Xac (l:List ByteArray) (x:ByteArray):jnB (l ++ [x])=if l = [] then x else jnB l++⟨#[44]⟩++x:=by
 unfold jnB;rw[List.map_append,List.map_cons,List.map_nil]
 cases l with
 | nil=>rw[if_pos rfl];apply ByteArray.ext;simp[Lib.join]
 | cons y l =>
   rw[if_neg (by simp)]
   apply ByteArray.ext
   rw[ByteArray.data_append,ByteArray.data_append,List.map_cons,List.cons_append,Lib.join_cons,Lib.join_cons];unfold Lib.joinTail
   simp
theorem Q94 (e:Ev) (h:Qm e.src=true):1≤(Qfu e).size:=by
 have:=(Xr h).1;unfold Qfu;simp only[ByteArray.size_append];omega
set_option maxHeartbeats 1000000 in
theorem Qxi (l:List ByteArray) (s:ByteArray) (A:Option Addr) (c:Nat) (w:World) (hs:SlT w A l) (hl:l.length<1000000) (hcap:l.length≤c) :
 Cal Tryz.prog 144 [.slice A l.length c,.string s] w fun r w'=>∃ A' c',r = .slice A' (Qe2 bLt l s).length c'∧(Qe2 bLt l s).length≤c'∧SlT w' A' (Qe2 bLt l s)∧(A'=A∨∀ a,A'=some a→w.heap.size≤a.block∧a.block<w'.heap.size∧a.spot=none)∧Ext w w':=by
 refine Fi Tryz.func144 rfl _ rfl rfl (Hh ?_)
 refine Qd Qa (fun(k:Nat) w'=>k≤l.length∧w'=w∧∀ x∈l.take k,bLt x s=true)
  (fun k => [(0,.slice A l.length c),(1,.string s),(5,.int .i64 k)]) (fun k=>l.length-k) 0 ⟨by omega,rfl,by simp⟩ Rr ?_
 rintro k w1 ⟨hk,hw1,hall⟩;replace hw1:=hw1.symm;subst hw1
 obtain⟨a1,x1,hk1⟩:∃ a1 x1,k<l.length→A=some a1∧l[k]? = some x1∧w.cell? (a1.add (k*1))=some (.string x1):=by
  by_cases hh:k<l.length
  · obtain⟨a1,h1,h2⟩:=hs.get hh
    exact⟨a1,l[k],fun _=>⟨h1,List.getElem?_eq_getElem hh,Qu h2⟩⟩
  · exact⟨⟨0,0,none⟩,s,fun h=>absurd h hh⟩
 have hd:∀ {p:Nat},decide ((p:Int)<(l.length:Int))=true→p<l.length:=fun h=>by simpa using h
 conv=>whnf
 refine⟨a1,fun hg=>⟨(hk1 (hd hg)).1,by omega,by have:=hd hg;omega⟩,Hh ?_⟩;refine⟨.string x1,fun hg=>(hk1 (hd hg)).2.2,Hh ?_⟩;constructor
 · intro hc
   have hc:(decide ((k:Int)<(l.length:Int))&&bLt x1 s)=true:=hc;rw[Bool.and_eq_true] at hc;have hlt:=hd hc.1;have htk:=Xi l k hlt;have hxe:l[k]=x1:=by have:=(hk1 hlt).2.1;rw[List.getElem?_eq_getElem hlt] at this;simpa using this
   conv=>whnf
   refine⟨_,wrap_succ (by omega),Hh ?_⟩;refine⟨k+1,by omega,⟨by omega,rfl,fun y hy => ?_⟩,Rr⟩;rw[htk,hxe] at hy;rcases List.mem_append.1 hy with hy | hy
   · exact hall y hy
   · simp at hy;subst hy;exact hc.2
 · intro hc
   have hc:(decide ((k:Int)<(l.length:Int))&&bLt x1 s)=false:=hc
   have hend:k=l.length∨∃ x,l[k]? = some x∧bLt x s=false:=by
    by_cases hh:k<l.length
    · refine .inr ⟨x1,(hk1 hh).2.1,?_⟩
      have:decide ((k:Int)<(l.length:Int))=true:=by simpa using hh
      rw[this] at hc
      simpa using hc
    · exact .inl (by omega)
   obtain⟨t1,t2⟩:=Qcf (p:=fun x=>bLt x s) hk hall hend
   conv=>whnf
   refine⟨a1,fun hg=>⟨(hk1 (hd hg)).1,by omega,by have:=hd hg;omega⟩,Hh ?_⟩;refine⟨.string x1,fun hg=>(hk1 (hd hg)).2.2,Hh ?_⟩;constructor
   · intro hq
     have hq:(decide ((k:Int)<(l.length:Int))&&decide (x1=s))=true:=hq;rw[Bool.and_eq_true,decide_eq_true_eq (p:=x1=s)] at hq;have hin:Qe2 bLt l s=l:=Qm2 t2 (by rw[(hk1 (hd hq.1)).2.1,hq.2]);rw[hin]
     conv=>whnf
     exact⟨A,c,rfl,hcap,hs,.inl rfl,Ext.refl _⟩
   · intro hq
     have hq:(decide ((k:Int)<(l.length:Int))&&decide (x1=s))=false:=hq
     have hne:l[k]? ≠ some s:=fun e=>by
      have hlt:k<l.length:=(List.getElem?_eq_some_iff.1 e).1;have h1:=(hk1 hlt).2.1;rw[e] at h1;have h2:s=x1:=by simpa using h1
      have h3:decide ((k:Int)<(l.length:Int))=true:=by simpa using hlt
      rw[h3,h2] at hq
      simp at hq
     rw[Qjd t1 t2 hne];clear hk1 hc hq hend t1 t2 hall hne;have hsk:=X6 (Qgo hs k) 0 c (by rw[List.length_take];omega);have hsd:=X6 hs k c hcap;rw[List.drop_zero] at hsk;have hkm:k=(l.take k).length:=by rw[List.length_take];omega
     have hdl:l.length-k=(l.drop k).length:=by rw[List.length_drop]
     have htot:(l.take k).length+(l.drop k).length=l.length:=by rw[List.length_take,List.length_drop];omega
     generalize l.take k=T at hsk hkm htot ⊢;generalize l.drop k=D at hsd hdl htot ⊢
     conv=>whnf
     refine Qdc (.mods (fun k=>w.heap.size≤k)) (Pl.seq [1,2,3,5,8,9,10] (Pl.two 0 (Pl.seq [] (Pl.two 4 (Pl.seq [6,7,11,12] Pl.done) 6 (Pl.seq [4,7,11,12] Pl.done))) 6 (Pl.seq [0,4,7,11,12] Pl.done))) (by intro h;cases h) Qa mixed (by kernel_rfl) (Hh ?_);have hx3:=(Ext.refl w).drew;generalize w.drew=w3 at hx3 ⊢;refine⟨⟨by omega,by omega,by omega,by omega⟩,Hh ?_⟩;refine⟨⟨by omega,by omega,by omega,by omega⟩,Hh ?_⟩;have hE:=hx3;refine⟨?_,?_⟩
     · intro b6 w6 hn6
       have o6:=(Xb).made (base:=w.heap.size) hn6 hE.size;have hE:=hE.trans hn6.ext;refine⟨Mod.of_ext hn6.ext,Hh ?_⟩;refine⟨?_,?_⟩
       · refine Qi Xb (l := []) (news:=T) rfl o6 (hkm) ((hsk).ext hE) (by simp;omega) hE.size fun A7 c7 w7 hown7 hg7 hA7 => ?_
         have hE:=Qh hE hg7 (Qr o6);refine⟨Qp hg7 (Qr o6),Hh ?_⟩;intro b8 w8 hn8;have h8:=(Xb).new1 (x:=s) hn8;have hown7:=hown7.ext hn8.ext;have hE:=hE.trans hn8.ext;refine⟨Mod.of_ext hn8.ext,Hh ?_⟩;refine Qi Xb (l:=T) (news := [s]) rfl hown7 rfl h8 (by simp;omega) hE.size fun A9 c9 w9 hown9 hg9 hA9 => ?_
         have hE:=Qh hE hg9 (Qr hown7);refine⟨Qp hg9 (Qr hown7),Hh ?_⟩;generalize hT1:T ++ [s]=T1 at hown9 ⊢;have hT1l:T1.length=T.length+1:=by rw[← hT1];simp
         refine Qi Xb (l:=T1) (news:=D) rfl hown9 hdl (hsd.ext hE) (by omega) hE.size fun A10 c10 w10 hown10 hg10 hA10 => ?_
         have hE:=Qh hE hg10 (Qr hown9);have hfin:T++s :: D=T1++D:=by rw[← hT1];simp
         rw[hfin];generalize T1++D=T2 at hown10 ⊢;refine⟨Qp hg10 (Qr hown9),Hh ?_⟩
         exact⟨A10,c10,rfl,hown10.le,hown10.sl Xb.sz,.inr fun a ha=>⟨(hown10.block ha).1,(hown10.block ha).2,Qgl hown10 ha⟩,hE⟩
       · intro b8 w8 hn8
         have h8:=(Xb).new1 (x:=s) hn8;have o6:=o6.ext hn8.ext;have hE:=hE.trans hn8.ext;refine⟨Mod.of_ext hn8.ext,Hh ?_⟩;refine Qi Xb (l := []) (news:=T) rfl o6 (hkm) ((hsk).ext hE) (by simp;omega) hE.size fun A7 c7 w7 hown7 hg7 hA7 => ?_
         have h8:=Qbx h8 (w1:=w7) (fun a' ha'=>by
          obtain rfl:(⟨b8,0,none⟩:Addr)=a':=by simpa using ha'
          exact hg7.block b8 (by rw[hn8.block];have:=hn6.size;have:=hn8.size;omega) (fun e'=>by
           have h68:b8=b6:=by simpa using e'
           have:=hn6.size;have:=hn8.size;rw[hn6.block,hn8.block] at h68;omega))
         have hE:=Qh hE hg7 (Qr o6);refine⟨Qp hg7 (Qr o6),Hh ?_⟩;refine Qi Xb (l:=T) (news := [s]) rfl hown7 rfl h8 (by simp;omega) hE.size fun A9 c9 w9 hown9 hg9 hA9 => ?_
         have hE:=Qh hE hg9 (Qr hown7);refine⟨Qp hg9 (Qr hown7),Hh ?_⟩;generalize hT1:T ++ [s]=T1 at hown9 ⊢;have hT1l:T1.length=T.length+1:=by rw[← hT1];simp
         refine Qi Xb (l:=T1) (news:=D) rfl hown9 hdl (hsd.ext hE) (by omega) hE.size fun A10 c10 w10 hown10 hg10 hA10 => ?_
         have hE:=Qh hE hg10 (Qr hown9);have hfin:T++s :: D=T1++D:=by rw[← hT1];simp
         rw[hfin];generalize T1++D=T2 at hown10 ⊢;refine⟨Qp hg10 (Qr hown9),Hh ?_⟩
         exact⟨A10,c10,rfl,hown10.le,hown10.sl Xb.sz,.inr fun a ha=>⟨(hown10.block ha).1,(hown10.block ha).2,Qgl hown10 ha⟩,hE⟩
     · intro b8 w8 hn8
       have h8:=(Xb).new1 (x:=s) hn8;have hE:=hE.trans hn8.ext;refine⟨Mod.of_ext hn8.ext,Hh ?_⟩;intro b6 w6 hn6;have o6:=(Xb).made (base:=w.heap.size) hn6 hE.size;have hE:=hE.trans hn6.ext;have h8:=h8.ext hn6.ext;refine⟨Mod.of_ext hn6.ext,Hh ?_⟩;refine Qi Xb (l := []) (news:=T) rfl o6 (hkm) ((hsk).ext hE) (by simp;omega) hE.size fun A7 c7 w7 hown7 hg7 hA7 => ?_
       have h8:=Qbx h8 (w1:=w7) (fun a' ha'=>by
        obtain rfl:(⟨b8,0,none⟩:Addr)=a':=by simpa using ha'
        exact hg7.block b8 (by rw[hn8.block];have:=hn6.size;have:=hn8.size;omega) (fun e'=>by
         have h68:b8=b6:=by simpa using e'
         have:=hn6.size;have:=hn8.size;rw[hn6.block,hn8.block] at h68;omega))
       have hE:=Qh hE hg7 (Qr o6);refine⟨Qp hg7 (Qr o6),Hh ?_⟩;refine Qi Xb (l:=T) (news := [s]) rfl hown7 rfl h8 (by simp;omega) hE.size fun A9 c9 w9 hown9 hg9 hA9 => ?_
       have hE:=Qh hE hg9 (Qr hown7);refine⟨Qp hg9 (Qr hown7),Hh ?_⟩;generalize hT1:T ++ [s]=T1 at hown9 ⊢;have hT1l:T1.length=T.length+1:=by rw[← hT1];simp
       refine Qi Xb (l:=T1) (news:=D) rfl hown9 hdl (hsd.ext hE) (by omega) hE.size fun A10 c10 w10 hown10 hg10 hA10 => ?_
       have hE:=Qh hE hg10 (Qr hown9);have hfin:T++s :: D=T1++D:=by rw[← hT1];simp
       rw[hfin];generalize T1++D=T2 at hown10 ⊢;refine⟨Qp hg10 (Qr hown9),Hh ?_⟩
       exact⟨A10,c10,rfl,hown10.le,hown10.sl Xb.sz,.inr fun a ha=>⟨(hown10.block ha).1,(hown10.block ha).2,Qgl hown10 ha⟩,hE⟩
def Qea (cs:List Ev) (t:Int) (l:List Ev):List ByteArray:=Qbt ((l.map (·.item)).filter fun x=>(Qje x (cs.filter (thQ x t))).listed)
theorem Qtm (cs:List Ev) (t:Int) (l:List Ev) (k:Nat) (h:k<l.length):Qea cs t (l.take (k+1))=if(Qje l[k].item (cs.filter (thQ l[k].item t))).listed=true then Qe2 bLt (Qea cs t (l.take k)) l[k].item else Qea cs t (l.take k):=by
 exact Qm9 (fun x:Ev=>x.item) (fun x=>(Qje x (cs.filter (thQ x t))).listed) l k h
theorem Qwt (cs:List Ev) (t:Int) (l:List Ev):(Qea cs t l).length≤l.length:=by
 unfold Qea;have h1:=Qgn ((l.map (·.item)).filter fun x=>(Qje x (cs.filter (thQ x t))).listed);have h2:=List.length_filter_le (fun x=>(Qje x (cs.filter (thQ x t))).listed) (l.map (·.item));rw[List.length_map] at h2;omega
set_option maxHeartbeats 2000000 in
theorem Qrr (cs:List Ev) (t:Int) (A:Option Addr) (c:Nat) (w:World) (hs:SlE w A cs) (hl:cs.length<100000) (hk:∀ e∈cs,thB e=true) (hm:∀ e∈cs,Xn e=true) :
 Cal Tryz.prog 87 [.slice A cs.length c,.int .i64 t] w fun r w'=>∃ A' c',r = .slice A' (Qea cs t cs).length c'∧SlT w' A' (Qea cs t cs)∧Ext w w':=by
 refine Fi Tryz.func87 rfl _ rfl rfl (Hh ?_);have h0:Qea cs t (cs.take 0) = []:=Qma
 refine Qd Qa (fun(q:Nat×Option Addr×Nat×List ByteArray) w'=>q.1≤cs.length∧q.2.2.2=Qea cs t (cs.take q.1)∧SlT w' q.2.1 q.2.2.2∧q.2.2.2.length≤q.2.2.1∧Ext w w')
  (fun | (k,B,d,T) => [(0,.slice A cs.length c),(1,.int .i64 t),(5,.slice B T.length d),(6,.int .i64 (k:Nat))]) (fun q=>cs.length-q.1) (0,none,0,[]) ⟨Nat.zero_le _,h0.symm,Sl.nil,Nat.zero_le _,Ext.refl _⟩ Rr ?_
 clear h0;rintro ⟨k,B,d,T⟩ w1 ⟨hk1,hT,hsT,hd,hx1⟩;simp only at hk1 hT hsT hd;have hTl:=Qwt cs t (cs.take k);rw[← hT,List.length_take] at hTl
 conv=>whnf
 constructor
 · intro hlt
   have hlt:k<cs.length:=by simpa using hlt
   obtain⟨a,rfl,hc⟩:=(hs.ext hx1).get hlt;have hst:=Qtm cs t cs k hlt;rw[← hT] at hst;have hev:=List.getElem?_eq_getElem hlt;generalize cs[k]=e at hc hst hev;refine Gg ?_;refine⟨a,Ix,Gg ?_⟩;refine⟨.string e.item,cells_at hc (k:=5) rfl,Gg ?_⟩;refine(Qjs cs e.item t (some a) c w1 (hs.ext hx1) (by omega) hk hm).mono ?_;rintro _ w2 ⟨rfl,hx2⟩;generalize Qje e.item (cs.filter (thQ e.item t))=it at hst ⊢;refine Gg ?_;intro b3 w3 hn3;refine Gg ?_;refine Qg Qa (e:=ty135) rfl hn3.At rfl rfl rfl (by simp[Qq,itC,Value.oneCell']) fun w4 h4 ho4 => ?_
   have h4:At w4 b3 135 (itC it):=h4;have hx4:Ext w2 w4:=ho4.ext hn3.ext (by rw[hn3.block];exact Nat.le_refl _);clear ho4 hn3;replace hsT:=(hsT.ext hx2).ext hx4;replace hx1:=(hx1.trans hx2).trans hx4;refine Gg ?_;refine⟨.bool it.listed,h4.one rfl,Gg ?_⟩;constructor
   · intro hq
     have hq:it.listed=true:=hq;rw[if_pos hq] at hst;obtain⟨a',hA',hc'⟩:=(hs.ext hx1).get hlt;obtain rfl:a=a':=by simpa using hA'
     have hc':Xl w4 (a.add (k*8)) (evC e):=by
      have he:cs[k]=e:=by rw[List.getElem?_eq_getElem hlt] at hev;simpa using hev
      rw[← he];exact hc'
     refine Gg ?_;refine⟨a,Ix,Gg ?_⟩;refine⟨.string e.item,cells_at hc' (k:=5) rfl,Gg ?_⟩;refine(Qxi T e.item B d w4 hsT (by omega) hd).mono ?_;rintro _ w5 ⟨B5,d5,rfl,hd5,hs5,_,hx5⟩;rw[← hst] at hd5 hs5 ⊢;refine Gg ?_;refine⟨_,wrap_succ (by omega),Gg ?_⟩
     exact⟨(k+1,B5,d5,Qea cs t (cs.take (k+1))),by simp only;omega,⟨by simp only;omega,rfl,hs5,hd5,hx1.trans hx5⟩,Rr⟩
   · intro hq
     have hq:¬ it.listed=true:=by
      have hq:it.listed=false:=hq;rw[hq];decide
     rw[if_neg hq] at hst;refine Gg ?_;refine⟨_,wrap_succ (by omega),Gg ?_⟩
     exact⟨(k+1,B,d,T),by simp only;omega,⟨by simp only;omega,hst.symm,hsT,hd,hx1⟩,Rr⟩
 · intro hge
   have hge:cs.length≤k:=by simpa using hge
   rw[List.take_of_length_le hge] at hT;subst hT;refine Gg ?_
   exact⟨B,d,rfl,hsT,hx1⟩
theorem Q79 (l:List ByteArray) (s:ByteArray):Qsk (Qbt l) s=Qbt (l ++ [s]) :=
 Qjv Qmd (Q78 (Qb8 l)) (Qb8 _) fun x=>by rw[put_mem,X7,X7,List.mem_append,List.mem_singleton]
set_option maxHeartbeats 2000000 in
theorem Qrq (T:List SnH) (Q:List Sn) (A:Option Addr) (c:Nat) (w:World) (n0:Nat) (hs:Sl seC 4 w A T) (hq:Qar w n0 (rowB A) T Q) (hl:T.length≤1000) (hil:∀ q∈Q,q.items.length<100) :
 Cal Tryz.prog 97 [.slice A T.length c] w fun r w'=>∃ A' c',r = .slice A' (Qbt (Q.flatMap (·.items))).length c'∧SlT w' A' (Qbt (Q.flatMap (·.items)))∧Ext w w':=by
 have hlen:=hq.len;refine Fi Tryz.func97 rfl _ rfl rfl (Hh ?_);intro b1 w1 hn1;refine Gg ?_;have o1:SlT w1 (some ⟨b1,0,none⟩) []:=Sl.nil
 have hfl:∀ i,i≤Q.length→((Q.take i).flatMap (·.items)).length≤i*100:=fun i=>by
  induction i with
  | zero=>intro _;simp
  | succ i ih =>
    intro hi;have h1:=ih (by omega);have h2:=hil Q[i] (List.getElem_mem (by omega));rw[List.take_succ_eq_append_getElem (by omega),List.flatMap_append,List.length_append];simp only[List.flatMap_cons,List.flatMap_nil,List.append_nil];omega
 refine Qd Qa (fun(q:Nat×Option Addr×Nat×List ByteArray) w'=>q.1≤T.length∧q.2.2.2=Qbt ((Q.take q.1).flatMap (·.items))∧SlT w' q.2.1 q.2.2.2∧q.2.2.2.length≤q.2.2.1∧Ext w w')
  (fun | (i,B,d,U) => [(0,.slice A T.length c),(3,.slice B U.length d),(4,.int .i64 (i:Nat))]) (fun q=>T.length-q.1) (0,some ⟨b1,0,none⟩,0,[]) ⟨Nat.zero_le _,Qma.symm,o1,Nat.zero_le _,hn1.ext⟩ Rr ?_
 clear o1 hn1;rintro ⟨i,B,d,U⟩ w2 ⟨hi,hU,hsU,hd,hx2⟩;simp only at hi hU hsU hd
 conv=>whnf
 constructor
 · intro hlt
   have hlt:i<T.length:=by simpa using hlt
   obtain⟨a2,hA,hc0⟩:=hs.get hlt;subst hA;have hlq:i<Q.length:=by omega
   have hsn:=hq.at_ i T[i] Q[i] (List.getElem?_eq_getElem hlt) (List.getElem?_eq_getElem hlq)
   have htk:(Q.take (i+1)).flatMap (·.items)=(Q.take i).flatMap (·.items)++Q[i].items:=by
    rw[List.take_succ_eq_append_getElem hlq,List.flatMap_append];simp only[List.flatMap_cons,List.flatMap_nil,List.append_nil]
   have hql:=hil Q[i] (List.getElem_mem hlq);have hf0:=hfl i (by omega);generalize Q[i]=q at hsn htk hql;generalize T[i]=dd at hc0 hsn;obtain⟨_,_,_,h4,h5,_,_⟩:=hsn;obtain⟨d1,d2,d3,dA,dn,dc⟩:=dd;simp only at h4 h5;subst h4;generalize (Q.take i).flatMap (·.items)=M at hU htk hf0;refine Gg ?_
   refine Qd Qa (fun(x:Nat×Option Addr×Nat×List ByteArray) w'=>x.1≤q.items.length∧x.2.2.2=Qbt (M++q.items.take x.1)∧SlT w' x.2.1 x.2.2.2∧x.2.2.2.length≤x.2.2.1∧Ext w w')
    (fun | (k,B,d,U) => [(0,.slice (some a2) T.length c),(3,.slice B U.length d),(4,.int .i64 (i:Nat)),(5,.int .i64 (k:Nat))]) (fun x=>q.items.length-x.1) (0,B,d,U) ⟨Nat.zero_le _,by simp only[List.take_zero,List.append_nil];exact hU,hsU,hd,hx2⟩ Rr ?_
   clear hU hsU hd hx2;rintro ⟨k,B,d,U⟩ w3 ⟨hk,hU,hsU,hd,hx3⟩;simp only at hk hU hsU hd
   have hUl:U.length≤200000:=by
    have:=Qgn (M++q.items.take k);rw[← hU,List.length_append,List.length_take] at this;omega
   have hc3:=hx3.cells hc0;have h53:=h5.ext hx3
   conv=>whnf
   refine⟨a2,Ix,Hh ?_⟩;refine⟨.slice dA q.items.length dc,cells_at hc3 (k:=3) rfl,Hh ?_⟩;constructor
   · intro hlt2
     have hlt2:k<q.items.length:=by simpa using hlt2
     obtain⟨a4,rfl,hc4⟩:=h53.get hlt2;have htk2:=Xi q.items k hlt2;generalize q.items[k]=x at hc4 htk2;refine Gg ?_;refine⟨a2,Ix,Gg ?_⟩;refine⟨.slice (some a4) q.items.length dc,cells_at hc3 (k:=3) rfl,Gg ?_⟩;refine⟨a4,Ix,Gg ?_⟩;refine⟨.string x,Qu hc4,Gg ?_⟩;have hset:Qsk U x=Qbt (M++q.items.take (k+1)):=by rw[hU,Q79,htk2,List.append_assoc]
     refine(Qt9 U x B d w3 hsU (by omega) hd).mono ?_;rintro _ w5 ⟨B5,d5,rfl,hd5,hs5,hx5⟩;rw[hset] at hd5 hs5 ⊢;refine Gg ?_;refine⟨_,wrap_succ (by omega),Gg ?_⟩
     exact⟨(k+1,B5,d5,Qbt (M++q.items.take (k+1))),by simp only;omega,⟨by simp only;omega,rfl,hs5,hd5,hx3.trans hx5⟩,Rr⟩
   · intro hge
     have hge:q.items.length≤k:=by simpa using hge
     rw[List.take_of_length_le hge,← htk] at hU;refine Gg ?_;refine⟨_,wrap_succ (by omega),Gg ?_⟩
     exact⟨(i+1,B,d,U),by simp only;omega,⟨by simp only;omega,hU,hsU,hd,hx3⟩,Rr⟩
 · intro hge
   have hge:T.length≤i:=by simpa using hge
   rw[List.take_of_length_le (by omega)] at hU;subst hU;refine Gg ?_
   exact⟨B,d,rfl,hsU,hx2⟩
set_option maxHeartbeats 1000000 in
theorem Qor (D:List (Ev×SV)) (R:List Row) (A:Option Addr) (c:Nat) (w:World) (hs:Sl Qdz 9 w A D) (hT:Qa1 w (TgR w A) D R) (hl:D.length<100000) :
 Cal Tryz.prog 100 [.slice A D.length c] w fun r w'=>∃ A' c',r = .slice A' (Qbt (R.map fun r=>r.1.person)).length c'∧SlT w' A' (Qbt (R.map fun r=>r.1.person))∧Ext w w':=by
 have hlen:=hT.len;have hev:∀ i (hi:i<D.length) (hi2:i<R.length),D[i].1=R[i].1:=fun i hi hi2=>(hT.ev i _ _ (List.getElem?_eq_getElem hi) (List.getElem?_eq_getElem hi2)).1
 refine Fi Tryz.func100 rfl _ rfl rfl (Hh ?_);intro b1 w1 hn1;refine Gg ?_
 refine Qd Qa (fun(q:Nat×Option Addr×Nat×List ByteArray) w'=>q.1≤D.length∧SlT w' q.2.1 q.2.2.2∧q.2.2.2.Nodup∧(∀ x,x∈q.2.2.2↔x∈(R.take q.1).map fun r=>r.1.person)∧q.2.2.2.length≤q.1∧Srt bLt q.2.2.2∧Ext w w')
  (fun | (i,B,d,U) => [(0,.slice A D.length c),(3,.slice B U.length d),(4,.int .i64 (i:Nat))]) (fun q=>D.length-q.1) (0,some ⟨b1,0,none⟩,0,[]) ⟨Nat.zero_le _,Sl.nil,List.nodup_nil,by simp,Nat.le_refl _,List.Pairwise.nil,hn1.ext⟩ Rr ?_
 clear hn1;rintro ⟨i,B,d,U⟩ w2 ⟨hi,hsU,hnU,hmU,hlU,hoU,hx2⟩;simp only at hi hsU hnU hmU hlU hoU
 conv=>whnf
 constructor
 · intro hlt
   have hlt:i<D.length:=by simpa using hlt
   have hlr:i<R.length:=by omega
   obtain⟨a2,hA,hc⟩:=(hs.ext hx2).get hlt;subst hA;have he:=hev i hlt hlr;have htk:=Xi R i hlr;generalize D[i]=dd at hc he;generalize R[i]=r at he htk;refine Gg ?_;refine⟨a2,Ix,Gg ?_⟩;refine⟨.string dd.1.person,cells_at hc (k:=4) rfl,Gg ?_⟩;refine(Qno U dd.1.person B d w2 hsU (by omega) hnU).mono ?_;rintro _ w3 ⟨B3,d3,U3,rfl,hs3,hn3,hm3,hl3,ho3,hx3⟩;refine Gg ?_;refine⟨_,wrap_succ (by omega),Gg ?_⟩;refine⟨(i+1,B3,d3,U3),by simp only;omega,⟨by simp only;omega,hs3,hn3,fun x => ?_,by simp only;omega,ho3 hoU,hx2.trans hx3⟩,Rr⟩;simp only;rw[hm3,hmU,htk,List.map_append,List.mem_append,List.map_cons,List.map_nil,List.mem_singleton,he]
 · intro hge
   have hge:D.length≤i:=by simpa using hge
   rw[List.take_of_length_le (by omega)] at hmU
   have hU:U=Qbt (R.map fun r=>r.1.person):=by
    rw[← Qhn hnU hmU]
    exact Qc4 (List.Perm.refl _) hoU
   subst hU;refine Gg ?_
   exact⟨B,d,rfl,hsU,hx2⟩
def Qoq (half now:Int) (L:List A11) (k:ByteArray):Bool := !decide (Qe9 half now k L=0)
def Qgv (half now:Int) (L l:List A11):List ByteArray:=Qbt ((l.map (·.1)).filter (Qoq half now L))
theorem C11.ext' {w w1:World} {p:Nat} {half:Int} {L:List A11} (h:C11 w p half L) (hx:Ext w w1):C11 w1 p half L:=h.ext hx
set_option maxHeartbeats 4000000 in
theorem Qt4 (w:World) (p:Nat) (half:Int) (L:List A11) (h:C11 w p half L) (hok:∀ x∈L,Qp6 x) (hl:L.length<1000) (hh:1≤half∧half≤1099511627776) (now:Int) (hn:0≤now∧now≤1099511627776) :
 Cal Tryz.prog 148 [.pointer (some ⟨p,0,none⟩),.int .i64 now] w fun r w'=>∃ A c,r = .slice A (Qgv half now L L).length c∧SlT w' A (Qgv half now L L)∧Ext w w':=by
 obtain⟨A,c,hp,hsl,hA⟩:=id h;refine Fi Tryz.func148 rfl _ rfl rfl (Hh ?_);intro b1 w1 hn1;refine Gg ?_;have o1:SlT w1 (some ⟨b1,0,none⟩) []:=Sl.nil
 refine Qd Qa (fun(q:Nat×Option Addr×Nat×List ByteArray) w'=>q.1≤L.length∧q.2.2.2=Qbt (((L.take q.1).map (·.1)).filter (Qoq half now L))∧SlT w' q.2.1 q.2.2.2∧q.2.2.2.length≤q.2.2.1∧Ext w w')
  (fun | (i,B,d,T) => [(0,.pointer (some ⟨p,0,none⟩)),(1,.int .i64 now),(5,.slice B T.length d),(6,.int .i64 (i:Nat))]) (fun q=>L.length-q.1) (0,some ⟨b1,0,none⟩,0,[]) ⟨Nat.zero_le _,Qma.symm,o1,Nat.zero_le _,hn1.ext⟩ Rr ?_
 clear o1 hn1;rintro ⟨i,B,d,T⟩ w2 ⟨hi,hT,hsT,hd,hx2⟩;simp only at hi hT hsT hd;have hTl:=Qq2 (fun x:A11=>x.1) (Qoq half now L) (L.take i);rw[← hT,List.length_take] at hTl;have hp2:=hp.ext hx2;have h2:=h.ext hx2
 conv=>whnf
 refine⟨.slice A L.length c,hp2.one rfl,Hh ?_⟩;constructor
 · intro hlt
   have hlt:i<L.length:=by simpa using hlt
   obtain⟨a,hAa,hc⟩:=(hsl.ext hx2).get hlt;subst hAa;have hst:=Qm9 (fun x:A11=>x.1) (Qoq half now L) L i hlt;rw[← hT] at hst;generalize L[i]=x at hc hst;obtain⟨key,xt,xn⟩:=x;simp only at hst;refine Gg ?_;refine⟨.slice (some a) L.length c,hp2.one rfl,Gg ?_⟩;refine⟨a,Ix,Gg ?_⟩;refine⟨.string key,cells_at hc (k:=0) rfl,Gg ?_⟩
   refine Qd Qa (fun(k:Nat) w'=>k≤T.length∧w'=w2∧∀ x∈T.take k,bLt x key=true)
    (fun k => [(0,.pointer (some ⟨p,0,none⟩)),(1,.int .i64 now),(5,.slice B T.length d),(6,.int .i64 (i:Nat)),(7,.string key),(8,.int .i64 (k:Nat))]) (fun k=>T.length-k) 0 ⟨by omega,rfl,by simp⟩ Rr ?_
   rintro k w3 ⟨hk,hw3,hall⟩;replace hw3:=hw3.symm;subst hw3
   obtain⟨a1,x1,hk1⟩:∃ a1 x1,k<T.length→B=some a1∧T[k]? = some x1∧w2.cell? (a1.add (k*1))=some (.string x1):=by
    by_cases hh:k<T.length
    · obtain⟨a1,h1,h2⟩:=hsT.get hh
      exact⟨a1,T[k],fun _=>⟨h1,List.getElem?_eq_getElem hh,Qu h2⟩⟩
    · exact⟨⟨0,0,none⟩,key,fun h=>absurd h hh⟩
   have hdd:∀ {p:Nat},decide ((p:Int)<(T.length:Int))=true→p<T.length:=fun h=>by simpa using h
   conv=>whnf
   refine⟨a1,fun hg=>⟨(hk1 (hdd hg)).1,by omega,by have:=hdd hg;omega⟩,Hh ?_⟩;refine⟨.string x1,fun hg=>(hk1 (hdd hg)).2.2,Hh ?_⟩;constructor
   · intro hc
     have hc:(decide ((k:Int)<(T.length:Int))&&bLt x1 key)=true:=hc;rw[Bool.and_eq_true] at hc;have hlt2:=hdd hc.1;have htk:=Xi T k hlt2;have hxe:T[k]=x1:=by have:=(hk1 hlt2).2.1;rw[List.getElem?_eq_getElem hlt2] at this;simpa using this
     conv=>whnf
     refine⟨_,wrap_succ (by omega),Hh ?_⟩;refine⟨k+1,by omega,⟨by omega,rfl,fun y hy => ?_⟩,Rr⟩;rw[htk,hxe] at hy;rcases List.mem_append.1 hy with hy | hy
     · exact hall y hy
     · simp at hy;subst hy;exact hc.2
   intro hcc;have hcc:(decide ((k:Int)<(T.length:Int))&&bLt x1 key)=false:=hcc
   have hend:k=T.length∨∃ x,T[k]? = some x∧bLt x key=false:=by
    by_cases hh:k<T.length
    · refine .inr ⟨x1,(hk1 hh).2.1,?_⟩
      have:decide ((k:Int)<(T.length:Int))=true:=by simpa using hh
      rw[this] at hcc
      simpa using hcc
    · exact .inl (by omega)
   obtain⟨t1,t2⟩:=Qcf (p:=fun x=>bLt x key) hk hall hend;refine Gg ?_;refine⟨a1,fun hg=>⟨(hk1 (hdd hg)).1,by omega,by have:=hdd hg;omega⟩,Gg ?_⟩;refine⟨.string x1,fun hg=>(hk1 (hdd hg)).2.2,Gg ?_⟩;refine⟨Unit,fun _ => .int .i64 (Qe9 half now key L),fun _ w'=>Ext w2 w',(),fun hg=>(Qkt w2 p half L h2 hok hl hh key now hn).mono fun r w' h=>⟨(),h.1,h.2⟩,?_⟩;intro _ w4 h4
   have hx4:Ext w2 w4:=by
    rcases h4 with⟨_,h⟩ | ⟨_,h⟩
    · exact h
    · rw[h];exact Ext.refl _
   clear h4;replace hsT:=hsT.ext hx4;replace hx2:=hx2.trans hx4;refine Gg ?_;constructor
   · intro hq
     have hq:((decide ((k:Int)<(T.length:Int))&&decide (x1=key))||decide (Qe9 half now key L=0))=true:=hq
     have hsame:Qbt (((L.take (i+1)).map (·.1)).filter (Qoq half now L))=T:=by
      rw[hst]
      split
      · next hp0 =>
        rw[Bool.or_eq_true] at hq;rcases hq with hq | hq
        · rw[Bool.and_eq_true,decide_eq_true_eq (p:=x1=key)] at hq
          exact Qm2 t2 (by rw[(hk1 (hdd hq.1)).2.1,hq.2])
        · unfold Qoq at hp0
          rw[hq] at hp0;cases hp0
      · rfl
     refine Gg ?_;refine⟨_,wrap_succ (by omega),Gg ?_⟩
     exact⟨(i+1,B,d,T),by simp only;omega,⟨by simp only;omega,hsame.symm,hsT,hd,hx2⟩,Rr⟩
   · intro hq
     have hq:((decide ((k:Int)<(T.length:Int))&&decide (x1=key))||decide (Qe9 half now key L=0))=false:=hq;rw[Bool.or_eq_false_iff] at hq;obtain⟨hq,hq2⟩:=hq;have hp0:Qoq half now L key=true:=by unfold Qoq;rw[hq2];rfl
     rw[if_pos hp0] at hst
     have hne:T[k]? ≠ some key:=fun e=>by
      have hlt:k<T.length:=(List.getElem?_eq_some_iff.1 e).1;have h1:=(hk1 hlt).2.1;rw[e] at h1;have h2:key=x1:=by simpa using h1
      have h3:decide ((k:Int)<(T.length:Int))=true:=by simpa using hlt
      rw[h3,h2] at hq
      simp at hq
     rw[Qjd t1 t2 hne] at hst;clear hk1 hcc hq hq2 hend t1 t2 hall hne hp0;have hsk:=X6 (Qgo hsT k) 0 d (by rw[List.length_take];omega);have hsd:=X6 hsT k d hd;rw[List.drop_zero] at hsk;have hkm:k=(T.take k).length:=by rw[List.length_take];omega
     have hdl:T.length-k=(T.drop k).length:=by rw[List.length_drop]
     have htot:(T.take k).length+(T.drop k).length=T.length:=by rw[List.length_take,List.length_drop];omega
     generalize T.take k=U at hsk hkm htot hst;generalize T.drop k=V at hsd hdl htot hst;refine Gg ?_;intro b5 w5 hn5;refine Gg ?_;have o5:=Xb.made (base:=w4.heap.size) hn5 (Nat.le_refl _);refine⟨⟨by omega,by omega,by omega,by omega⟩,Gg ?_⟩;refine Qi Xb (l := []) (news:=U) rfl o5 hkm (hsk.ext hn5.ext) (by simp;omega) hn5.ext.size fun A6 c6 w6 hown6 hg6 hA6 => ?_
     have hx6:=Qh hn5.ext hg6 (Qr o5);replace hown6:Own Qbg 1 9 w4.heap.size w6 A6 c6 U:=hown6;refine Gg ?_;intro b7 w7 hn7;refine Gg ?_;refine Qi Xb (l:=U) (news := [key]) rfl (hown6.ext hn7.ext) rfl (Xb.new1 (x:=key) hn7) (by simp;omega) (hx6.trans hn7.ext).size fun A8 c8 w8 hown8 hg8 hA8 => ?_
     have hx8:=Qh (hx6.trans hn7.ext) hg8 (Qr (hown6.ext hn7.ext));have hT1l:(U ++ [key]).length=U.length+1:=by simp
     have hfin:U++key :: V=(U ++ [key])++V:=by simp
     rw[hfin] at hst;generalize U ++ [key]=T1 at hown8 hT1l hst ⊢;refine Gg ?_;refine⟨⟨by omega,by omega,by omega,by omega⟩,Gg ?_⟩;refine Qi Xb (l:=T1) (news:=V) rfl hown8 hdl (hsd.ext hx8) (by omega) hx8.size fun A9 c9 w9 hown9 hg9 hA9 => ?_
     have hx9:=Qh hx8 hg9 (Qr hown8);generalize T1++V=T2 at hown9 hst ⊢;refine Gg ?_;refine⟨_,wrap_succ (by omega),Gg ?_⟩
     exact⟨(i+1,A9,c9,T2),by simp only;omega,⟨by simp only;omega,hst.symm,hown9.sl Xb.sz,hown9.le,hx2.trans hx9⟩,Rr⟩
 · intro hge
   have hge:L.length≤i:=by simpa using hge
   rw[List.take_of_length_le hge] at hT;have hT:T=Qgv half now L L:=hT;subst hT;refine Gg ?_
   exact⟨B,d,rfl,hsT,hx2⟩
theorem Xa8 {O:List Ct} {s:Ct} {m:Nat} (hm:m≤O.length) (hs:Srt Qfk O) (hk:∀ u∈O,bLt u.1 s.1=true) (h1:m=0∨∃ h:m-1<O.length,¬ O[m-1].2<s.2) (h2:∀ j (hj:j<O.length),m≤j→O[j].2<s.2):Srt Qfk (O.take m++s :: O.drop m):=by
 refine Qht Qzh hm (fun u hu => ?_) (fun y hy => ?_) hs
 · obtain⟨i,hi,rfl⟩:=List.mem_take_iff_getElem.1 hu
   have hlt:i<O.length:=by omega
   rw[Ql5];refine⟨fun h => ?_,fun _=>Q24.asymm _ _ (hk _ (List.getElem_mem hlt))⟩;rcases h1 with h1 | ⟨h1,h3⟩
   · omega
   · have hle:¬ O[i].2<O[m-1].2:=by
      rcases Nat.lt_or_ge i (m-1) with h4 | h4
      · have:=List.pairwise_iff_getElem.1 hs i (m-1) hlt h1 h4
        rw[Ql5] at this;exact this.1
      · have h5:i=m-1:=by omega
        subst h5;omega
     omega
 · obtain⟨h,rfl⟩:=List.getElem?_eq_some_iff.1 hy
   rw[Qq8];exact .inl (h2 m h (Nat.le_refl _))
set_option maxHeartbeats 4000000 in
theorem Qxk (w:World) (p:Nat) (half:Int) (L:List A11) (h:C11 w p half L) (hok:∀ x∈L,Qp6 x) (hl:L.length<1000) (hh:1≤half∧half≤1099511627776) (now:Int) (hn:0≤now∧now≤1099511627776) (n:Int) (hn0:1000≤n) :
 Cal Tryz.prog 92 [.pointer (some ⟨p,0,none⟩),.int .i64 now,.int .i64 n] w fun r w'=>∃ A c O,r = .slice A O.length c∧Sl Qc6 2 w' A O∧O.Perm ((Qgv half now L L).map fun k=>(k,Qe9 half now k L))∧Srt Qfk O∧Ext w w':=by
 refine Fi Tryz.func92 rfl _ rfl rfl (Hh ?_);refine(Qt4 w p half L h hok hl hh now hn).mono ?_;rintro _ w1 ⟨A1,c1,rfl,hsK,hx1⟩;have hKl:=Qq2 (fun x:A11=>x.1) (Qoq half now L) L;have hKs:SG bLt (Qgv half now L L):=Qb8 _;replace hKl:(Qgv half now L L).length≤L.length:=hKl;generalize Qgv half now L L=K at hsK hKl hKs ⊢;refine Gg ?_;intro b2 w2 hn2;refine Gg ?_;have o2:=Qde.made (base:=w1.heap.size) hn2 (Nat.le_refl _)
 refine Qd Qa (fun(q:Nat×Option Addr×Nat×List Ct) w'=>q.1≤K.length∧q.2.2.2.Perm ((K.take q.1).map fun k=>(k,Qe9 half now k L))∧Srt Qfk q.2.2.2∧Sl Qc6 2 w' q.2.1 q.2.2.2∧q.2.2.2.length≤q.2.2.1∧Ext w1 w')
  (fun | (i,B,d,O) => [(0,.pointer (some ⟨p,0,none⟩)),(1,.int .i64 now),(2,.int .i64 n),(7,.slice A1 K.length c1),(8,.slice B O.length d),(9,.int .i64 (i:Nat))]) (fun q=>K.length-q.1) (0,some ⟨b2,0,none⟩,0,[]) ⟨Nat.zero_le _,List.Perm.refl _,List.Pairwise.nil,Sl.nil,Nat.zero_le _,hn2.ext⟩ Rr ?_
 clear o2 hn2;rintro ⟨i,B,d,O⟩ w3 ⟨hi,hP,hS,hsO,hd,hx3⟩;simp only at hi hP hS hsO hd
 have hOl:O.length≤K.length:=by
  rw[hP.length_eq,List.length_map,List.length_take];omega
 conv=>whnf
 constructor
 · intro hlt
   have hlt:i<K.length:=by simpa using hlt
   obtain⟨a,rfl,hc⟩:=(hsK.ext hx3).get hlt;have htk:=Xi K i hlt
   have hkeys:∀ u∈O,bLt u.1 K[i]=true:=fun u hu=>by
    obtain⟨k,hk,rfl⟩:=List.mem_map.1 (hP.mem_iff.1 hu);obtain⟨j,hj,rfl⟩:=List.mem_take_iff_getElem.1 hk
    exact List.pairwise_iff_getElem.1 hKs j i (by omega) hlt (by omega)
   generalize K[i]=key at hc htk hkeys;have h3:=h.ext (hx1.trans hx3);obtain⟨s,hs⟩:∃ s:Ct,s=(key,Qe9 half now key L):=⟨_,rfl⟩;refine Gg ?_
   refine Qhl (ι:=Nat) (fun j => [(0,.pointer (some ⟨p,0,none⟩)),(1,.int .i64 now),(2,.int .i64 n),(7,.slice (some a) K.length c1),(8,.slice B O.length d),(9,.int .i64 (i:Nat)),(10,.pointer (some ⟨j,0,none⟩))])
    (fun j w'=>Ext w3 w'∧At w' j 102 (Qc6 s)) ?_ ?_
   · refine Qdc (.mods (fun k=>w3.heap.size≤k)) (Pl.seq [0,1,2,3,4,5,6,7,8,9] (Pl.two 10 (Pl.seq [11,12,13] Pl.done) 12 (Pl.seq [10,11,13] Pl.done))) (by intro h;cases h) Qa mixed (by kernel_rfl) (Hh ?_)
     have ha6:¬ (w3.heap.size≤(a.add (i*1)).block):=by have:=cell_lt (Qu hc);exact Nat.not_le.2 this
     replace hc:Xl w3.drew (a.add (i*1)) (Qbg key):=hc;have h4:=h3.ext (Ext.refl w3).drew;have hx4:=(Ext.refl w3).drew;generalize w3.drew=w4 at hc h4 hx4 ⊢;refine⟨a,Ix,Hh ?_⟩;refine⟨.string key,⟨Qu hc,ha6⟩,Hh ?_⟩;refine⟨a,Ix,Hh ?_⟩;refine⟨.string key,⟨Qu hc,ha6⟩,Hh ?_⟩;refine⟨?_,?_⟩
     · refine(Qkt w4 p half L h4 hok hl hh key now hn).mono ?_
       rintro _ w5 ⟨rfl,hx5⟩;refine⟨Mod.of_ext hx5,Hh ?_⟩;intro b6 w6 hn6;have e6:=hn6.block;refine⟨Mod.of_ext hn6.ext,Hh ?_⟩;have q4:=hx4.size;have q5:=hx5.size;refine Qg Qa (e:=ty102) rfl hn6.At rfl rfl rfl (by simp[Qq,Value.oneCell']) fun w7 h7 ho7 => ?_
       refine⟨Qn ho7 (by omega),Hh ?_⟩
       exact⟨b6,⟨ho7.ext ((hx4.trans hx5).trans hn6.ext) (by omega),by rw[hs];exact h7⟩,Rr⟩
     · intro b6 w6 hn6
       have e6:=hn6.block;refine⟨Mod.of_ext hn6.ext,Hh ?_⟩;refine(Qkt w6 p half L (h4.ext hn6.ext) hok hl hh key now hn).mono ?_;rintro _ w5 ⟨rfl,hx5⟩;refine⟨Mod.of_ext hx5,Hh ?_⟩;have q4:=hx4.size;have q5:=hx5.size;refine Qg Qa (e:=ty102) rfl (hn6.At.ext hx5) rfl rfl rfl (by simp[Qq,Value.oneCell']) fun w7 h7 ho7 => ?_
       refine⟨Qn ho7 (by omega),Hh ?_⟩
       exact⟨b6,⟨ho7.ext ((hx4.trans hn6.ext).trans hx5) (by omega),by rw[hs];exact h7⟩,Rr⟩
   rintro j10 w4 ⟨hx4,h10⟩;have hs1:s.1=key:=by rw[hs]
   have hkm:((K.take (i+1)).map fun k=>((k,Qe9 half now k L):Ct))=((K.take i).map fun k=>((k,Qe9 half now k L):Ct)) ++ [s]:=by rw[htk,List.map_append,hs];rfl
   rw[← hs1] at hkeys;clear hs hc h3 htk;replace hsO:=hsO.ext hx4;refine Gg ?_
   refine Qd Qa (fun(k:Nat) w'=>k≤O.length∧Ext w4 w'∧∀ j (hj:j<O.length),k≤j→O[j].2<s.2)
    (fun k => [(0,.pointer (some ⟨p,0,none⟩)),(1,.int .i64 now),(2,.int .i64 n),(7,.slice (some a) K.length c1),(8,.slice B O.length d),(9,.int .i64 (i:Nat)),(10,.pointer (some ⟨j10,0,none⟩)),(11,.int .i64 (k:Nat))]) (fun k=>k) O.length ⟨Nat.le_refl _,Ext.refl _,fun j hj hk=>by omega⟩ Rr ?_
   rintro k w5 ⟨hk,hx5,hall⟩
   obtain⟨a1,y1,hk1⟩:∃ a1 y1,0<k→B=some a1∧O[k-1]? = some y1∧Xl w5 (a1.add ((k-1)*2)) (Qc6 y1):=by
    by_cases h0:0<k
    · have hh:k-1<O.length:=by omega
      obtain⟨a1,h1,h2⟩:=(hsO.ext hx5).get hh
      exact⟨a1,O[k-1],fun _=>⟨h1,List.getElem?_eq_getElem hh,h2⟩⟩
    · exact⟨⟨0,0,none⟩,s,fun h=>absurd h h0⟩
   have hdd:decide ((0:Int)<(k:Int))=true→0<k:=fun h=>by simpa using h
   have h105:=h10.ext hx5;refine Gg ?_;refine Dr .same [0,1,2,3,4,5,6,7,8,9,10,11,12] [] (Hh ?_);have hxd:Ext w5 w5.drew:=(Ext.refl w5).drew;replace hk1:0<k→B=some a1∧O[k-1]? = some y1∧Xl w5.drew (a1.add ((k-1)*2)) (Qc6 y1):=hk1;replace h105:=h105.ext hxd;replace hx5:=hx5.trans hxd;generalize w5.drew=w5 at hk1 h105 hx5 ⊢;refine⟨((k-1:Nat):Int),fun hg=>wrap_eq (by have:=hdd hg;omega) ⟨by omega,by omega⟩,Hh ?_⟩;refine⟨a1,fun hg=>⟨(hk1 (hdd hg)).1,by omega,by have:=hdd hg;omega⟩,Hh ?_⟩;refine⟨.int .i64 y1.2,fun hg=>cells_at (hk1 (hdd hg)).2.2 (k:=1) rfl,Hh ?_⟩;refine⟨.int .i64 s.2,fun _=>h105.one rfl,Gg ?_⟩;constructor
   · intro hq
     have hq:(decide ((0:Int)<(k:Int))&&decide (y1.2<s.2))=true:=hq;rw[Bool.and_eq_true,decide_eq_true_eq (p:=y1.2<s.2)] at hq;have h0:=hdd hq.1;refine Gg ?_;refine⟨((k-1:Nat):Int),wrap_eq (by omega) ⟨by omega,by omega⟩,Gg ?_⟩;refine⟨k-1,by omega,⟨by omega,hx5,fun j hj hjk => ?_⟩,Rr⟩
     by_cases e:j=k-1
     · subst e
       have:=(hk1 h0).2.1;rw[List.getElem?_eq_getElem hj] at this;simp only[Option.some.injEq] at this;rw[this];exact hq.2
     · exact hall j hj (by omega)
   intro hq;have hq:(decide ((0:Int)<(k:Int))&&decide (y1.2<s.2))=false:=hq
   have hle:k=0∨∃ h:k-1<O.length,¬ O[k-1].2<s.2:=by
    by_cases h0:k=0
    · exact .inl h0
    · have hlt2:k-1<O.length:=by omega
      refine .inr ⟨hlt2,?_⟩;have h1:=(hk1 (by omega)).2.1;rw[List.getElem?_eq_getElem hlt2] at h1;simp only[Option.some.injEq] at h1;rw[h1];have:decide ((0:Int)<(k:Int))=true:=by simp;omega
      rw[this] at hq
      simpa using hq
   have hnS:=Xa8 hk hS hkeys hle hall
   have hnP:(O.take k++s :: O.drop k).Perm ((K.take (i+1)).map fun k=>((k,Qe9 half now k L):Ct)):=by
    rw[hkm];have h1:(O.take k++s :: O.drop k).Perm (s :: (O.take k++O.drop k)):=List.perm_middle;rw[List.take_append_drop] at h1
    exact h1.trans ((hP.cons s).trans (List.perm_append_comm (l₁ := [s])))
   replace hsO:=hsO.ext hx5;have hsk:=X6 (Qgo hsO k) 0 d (by rw[List.length_take];omega);have hsd:=X6 hsO k d hd;rw[List.drop_zero] at hsk;have hkm:k=(O.take k).length:=by rw[List.length_take];omega
   have hdl:O.length-k=(O.drop k).length:=by rw[List.length_drop]
   have htot:(O.take k).length+(O.drop k).length=O.length:=by rw[List.length_take,List.length_drop];omega
   generalize O.take k=U at hsk hkm htot hnS hnP;generalize O.drop k=V at hsd hdl htot hnS hnP;clear hle hk1 hq hall hS hP hkeys;refine Gg ?_
   refine Qhl (ι:=Option Addr×Nat) (fun j => [(0,.pointer (some ⟨p,0,none⟩)),(1,.int .i64 now),(2,.int .i64 n),(7,.slice (some a) K.length c1),(8,.slice B O.length d),(9,.int .i64 (i:Nat)),(11,.int .i64 (k:Nat)),(12,.slice j.1 (U ++ [s]).length j.2)])
    (fun j w'=>Ext w5 w'∧Own Qc6 2 102 w5.heap.size w' j.1 j.2 (U ++ [s])) ?_ ?_
   · refine Qdc (.mods (fun k=>w5.heap.size≤k)) (Pl.seq [1,2,3,5] (Pl.two 0 (Pl.seq [] (Pl.two 4 (Pl.seq [6,7,8] Pl.done) 6 (Pl.seq [4,7,8] Pl.done))) 6 (Pl.seq [0,4,7,8] Pl.done))) (by intro h;cases h) Qa mixed (by kernel_rfl) (Hh ?_)
     have hbl:¬ (w5.heap.size≤j10):=Nat.not_le.2 h105.lt;replace h105:At w5.drew j10 102 (Qc6 s):=h105;replace hsk:=hsk.ext (Ext.refl w5).drew;have hx10:=(Ext.refl w5).drew;generalize w5.drew=w10 at h105 hsk hx10 ⊢;refine⟨⟨by omega,by omega,by omega,by omega⟩,Hh ?_⟩;refine⟨Qc6 s,⟨rfl,h105.all,hbl⟩,Hh ?_⟩;refine⟨?_,?_⟩
     · intro b6 w6 hn6
       have o6:=(Qde).made (base:=w5.heap.size) hn6 (hx10).size;refine⟨Mod.of_ext hn6.ext,Hh ?_⟩;refine⟨?_,?_⟩
       · refine Qi Qde (l := []) (news:=U) rfl (o6) (hkm) ((hsk).ext hn6.ext) (by simp;omega) (Nat.le_trans (hx10).size hn6.ext.size) fun A7 c7 w7 hown7 hg7 hA7 => ?_
         refine⟨Qp hg7 (Qr o6),Hh ?_⟩;intro b8 w8 hn8;refine⟨Mod.of_ext hn8.ext,Hh ?_⟩;refine Qi Qde (l:=U) (news := [s]) rfl (hown7.ext hn8.ext) rfl ((Qde).new1 hn8) (by simp;omega) (Nat.le_trans (Nat.le_trans (Nat.le_trans (hx10).size hn6.ext.size) hg7.size) hn8.ext.size) fun A9 c9 w9 hown9 hg9 hA9 => ?_
         refine⟨Qp hg9 (Qr hown7),Hh ?_⟩
         exact⟨(A9,c9),⟨Qh ((Qh ((hx10).trans hn6.ext) hg7 (Qr o6)).trans hn8.ext) hg9 (Qr hown7),hown9⟩,Rr⟩
       · intro b8 w8 hn8
         refine⟨Mod.of_ext hn8.ext,Hh ?_⟩;refine Qi Qde (l := []) (news:=U) rfl (o6.ext hn8.ext) (hkm) (((hsk).ext hn6.ext).ext hn8.ext) (by simp;omega) (Nat.le_trans (Nat.le_trans (hx10).size hn6.ext.size) hn8.ext.size) fun A7 c7 w7 hown7 hg7 hA7 => ?_
         refine⟨Qp hg7 (Qr o6),Hh ?_⟩
         have h8:=Qbx ((Qde).new1 hn8) (w1:=w7) (fun a' ha'=>by
          obtain rfl:(⟨b8,0,none⟩:Addr)=a':=by simpa using ha'
          exact hg7.block b8 (by rw[hn8.block];have:=hn6.size;have:=hn8.size;omega) (fun e'=>by
           have h68:b8=b6:=by simpa using e'
           have:=hn6.size;have:=hn8.size;rw[hn6.block,hn8.block] at h68;omega))
         refine Qi Qde (l:=U) (news := [s]) rfl (hown7) rfl (h8) (by simp;omega) (Nat.le_trans (Nat.le_trans (Nat.le_trans (hx10).size hn6.ext.size) hn8.ext.size) hg7.size) fun A9 c9 w9 hown9 hg9 hA9 => ?_
         refine⟨Qp hg9 (Qr hown7),Hh ?_⟩
         exact⟨(A9,c9),⟨Qh (Qh (((hx10).trans hn6.ext).trans hn8.ext) hg7 (Qr o6)) hg9 (Qr hown7),hown9⟩,Rr⟩
     · intro b8 w8 hn8
       refine⟨Mod.of_ext hn8.ext,Hh ?_⟩;intro b6 w6 hn6;have o6:=(Qde).made (base:=w5.heap.size) hn6 (Nat.le_trans (hx10).size hn8.ext.size);refine⟨Mod.of_ext hn6.ext,Hh ?_⟩;refine Qi Qde (l := []) (news:=U) rfl (o6) (hkm) (((hsk).ext hn8.ext).ext hn6.ext) (by simp;omega) (Nat.le_trans (Nat.le_trans (hx10).size hn8.ext.size) hn6.ext.size) fun A7 c7 w7 hown7 hg7 hA7 => ?_
       refine⟨Qp hg7 (Qr o6),Hh ?_⟩
       have h8:=Qbx (((Qde).new1 hn8).ext hn6.ext) (w1:=w7) (fun a' ha'=>by
        obtain rfl:(⟨b8,0,none⟩:Addr)=a':=by simpa using ha'
        exact hg7.block b8 (by rw[hn8.block];have:=hn6.size;have:=hn8.size;omega) (fun e'=>by
         have h68:b8=b6:=by simpa using e'
         have:=hn6.size;have:=hn8.size;rw[hn6.block,hn8.block] at h68;omega))
       refine Qi Qde (l:=U) (news := [s]) rfl (hown7) rfl (h8) (by simp;omega) (Nat.le_trans (Nat.le_trans (Nat.le_trans (hx10).size hn8.ext.size) hn6.ext.size) hg7.size) fun A9 c9 w9 hown9 hg9 hA9 => ?_
       refine⟨Qp hg9 (Qr hown7),Hh ?_⟩
       exact⟨(A9,c9),⟨Qh (Qh (((hx10).trans hn8.ext).trans hn6.ext) hg7 (Qr o6)) hg9 (Qr hown7),hown9⟩,Rr⟩
   · rintro ⟨A10,c10⟩ w10 ⟨hx10,hown10⟩
     simp only at hown10;generalize hT1:U ++ [s]=L1 at hown10;have hL1:L1.length=U.length+1:=by rw[← hT1];simp
     have z9:=hx10.size;refine Gg ?_;refine⟨⟨by omega,by omega,by omega,by omega⟩,Gg ?_⟩;refine Qi Qde (l:=L1) (news:=V) rfl hown10 hdl (hsd.ext hx10) (by omega) z9 fun A11 c11 w11 hown11 hg11 hA11 => ?_
     have hfin:U++s :: V=L1++V:=by rw[← hT1];simp
     rw[hfin] at hnS hnP;generalize L1++V=F1 at hown11 hnS hnP ⊢;have hx11:=Qh hx10 hg11 (Qr hown10);refine Gg ?_;refine⟨_,wrap_succ (by omega),Gg ?_⟩
     exact⟨(i+1,A11,c11,F1),by simp only;omega,⟨by simp only;omega,hnP,hnS,hown11.sl Qde.sz,hown11.le,((hx3.trans hx4).trans hx5).trans hx11⟩,Rr⟩
 · intro hge
   have hge:K.length≤i:=by simpa using hge
   rw[List.take_of_length_le hge] at hP;refine Gg ?_;constructor
   · intro hq
     have hq:n<0:=by simpa using hq
     omega
   intro _;refine Gg ?_;constructor
   · intro hq
     have hq:n<(O.length:Int):=by simpa using hq
     omega
   intro _;refine Gg ?_
   exact⟨B,d,O,rfl,hsO,hP,hS,hx1.trans hx3⟩
def Q89 (lo hi:Int) (L:List S9) (k:ByteArray):Bool:=decide (0<pa9 L k lo hi)
def Q31 (lo hi:Int) (L l:List S9):List ByteArray:=Qbt ((l.map (·.1)).filter (Q89 lo hi L))
set_option maxHeartbeats 4000000 in
theorem Qxf (w:World) (p:Nat) (width:Int) (L:List S9) (h:P9 w p width L) (hw:1≤width∧width≤1099511627776) (hok:∀ x∈L,0≤x.2.2∧x.2.2≤1048576) (hl:L.length<1000) (a b:Int) (ha:-4398046511104≤a∧a≤4398046511104) (hb:-4398046511104≤b∧b≤4398046511104) :
 Cal Tryz.prog 94 [.pointer (some ⟨p,0,none⟩),.int .i64 a,.int .i64 b] w fun r w'=>∃ A c,r = .slice A (Q31 (a/width) (b/width) L L).length c∧SlT w' A (Q31 (a/width) (b/width) L L)∧Ext w w':=by
 obtain⟨A,c,hp,hsl,hA⟩:=id h;refine Fi Tryz.func94 rfl _ rfl rfl (Hh ?_)
 refine Qd Qa (fun(q:Nat×Option Addr×Nat×List ByteArray) w'=>q.1≤L.length∧q.2.2.2=Qbt (((L.take q.1).map (·.1)).filter (Q89 (a/width) (b/width) L))∧SlT w' q.2.1 q.2.2.2∧q.2.2.2.length≤q.2.2.1∧Ext w w')
  (fun | (i,B,d,T) => [(0,.pointer (some ⟨p,0,none⟩)),(1,.int .i64 a),(2,.int .i64 b),(7,.slice B T.length d),(8,.int .i64 (i:Nat))]) (fun q=>L.length-q.1) (0,none,0,[]) ⟨Nat.zero_le _,Qma.symm,Sl.nil,Nat.zero_le _,Ext.refl _⟩ Rr ?_
 rintro ⟨i,B,d,T⟩ w2 ⟨hi,hT,hsT,hd,hx2⟩;simp only at hi hT hsT hd;have hTl:=Qq2 (fun x:S9=>x.1) (Q89 (a/width) (b/width) L) (L.take i);rw[← hT,List.length_take] at hTl;have hp2:=hp.ext hx2;have h2:=h.ext hx2
 conv=>whnf
 refine⟨.slice A L.length c,hp2.one rfl,Hh ?_⟩;constructor
 · intro hlt
   have hlt:i<L.length:=by simpa using hlt
   obtain⟨aL,hAa,hc⟩:=(hsl.ext hx2).get hlt;subst hAa;have hst:=Qm9 (fun x:S9=>x.1) (Q89 (a/width) (b/width) L) L i hlt;rw[← hT] at hst;generalize L[i]=x at hc hst;obtain⟨key,xt,xn⟩:=x;simp only at hst;refine Gg ?_;refine⟨.slice (some aL) L.length c,hp2.one rfl,Gg ?_⟩;refine⟨aL,Ix,Gg ?_⟩;refine⟨.string key,cells_at hc (k:=0) rfl,Gg ?_⟩
   refine Qd Qa (fun(k:Nat) w'=>k≤T.length∧w'=w2∧∀ x∈T.take k,bLt x key=true)
    (fun k => [(0,.pointer (some ⟨p,0,none⟩)),(1,.int .i64 a),(2,.int .i64 b),(7,.slice B T.length d),(8,.int .i64 (i:Nat)),(9,.string key),(10,.int .i64 (k:Nat))]) (fun k=>T.length-k) 0 ⟨by omega,rfl,by simp⟩ Rr ?_
   rintro k w3 ⟨hk,hw3,hall⟩;replace hw3:=hw3.symm;subst hw3
   obtain⟨a1,x1,hk1⟩:∃ a1 x1,k<T.length→B=some a1∧T[k]? = some x1∧∀ w',Ext w2 w'→w'.cell? (a1.add (k*1))=some (.string x1):=by
    by_cases hh:k<T.length
    · obtain⟨a1,h1,h2⟩:=hsT.get hh
      exact⟨a1,T[k],fun _=>⟨h1,List.getElem?_eq_getElem hh,fun w' hx=>Qu (hx.cells h2)⟩⟩
    · exact⟨⟨0,0,none⟩,key,fun h=>absurd h hh⟩
   have hdd:∀ {p:Nat},decide ((p:Int)<(T.length:Int))=true→p<T.length:=fun h=>by simpa using h
   conv=>whnf
   refine⟨a1,fun hg=>⟨(hk1 (hdd hg)).1,by omega,by have:=hdd hg;omega⟩,Hh ?_⟩;refine⟨.string x1,fun hg=>(hk1 (hdd hg)).2.2 _ (Ext.refl _),Hh ?_⟩;constructor
   · intro hc
     have hc:(decide ((k:Int)<(T.length:Int))&&bLt x1 key)=true:=hc;rw[Bool.and_eq_true] at hc;have hlt2:=hdd hc.1;have htk:=Xi T k hlt2;have hxe:T[k]=x1:=by have:=(hk1 hlt2).2.1;rw[List.getElem?_eq_getElem hlt2] at this;simpa using this
     conv=>whnf
     refine⟨_,wrap_succ (by omega),Hh ?_⟩;refine⟨k+1,by omega,⟨by omega,rfl,fun y hy => ?_⟩,Rr⟩;rw[htk,hxe] at hy;rcases List.mem_append.1 hy with hy | hy
     · exact hall y hy
     · simp at hy;subst hy;exact hc.2
   intro hcc;have hcc:(decide ((k:Int)<(T.length:Int))&&bLt x1 key)=false:=hcc
   have hend:k=T.length∨∃ x,T[k]? = some x∧bLt x key=false:=by
    by_cases hh:k<T.length
    · refine .inr ⟨x1,(hk1 hh).2.1,?_⟩
      have:decide ((k:Int)<(T.length:Int))=true:=by simpa using hh
      rw[this] at hcc
      simpa using hcc
    · exact .inl (by omega)
   obtain⟨t1,t2⟩:=Qcf (p:=fun x=>bLt x key) hk hall hend;refine Gg ?_;refine(Qpu w2 p width L h2 hw hok (by omega) key a b ha hb).mono ?_;rintro _ w4 ⟨rfl,hx4⟩;replace hsT:=hsT.ext hx4;replace hx2:=hx2.trans hx4
   have hkn:∀ {q:Bool},(q && !decide ((k:Int)=(T.length:Int)))=true→k<T.length:=fun h=>by
    rw[Bool.and_eq_true,Bool.not_eq_true',decide_eq_false_iff_not] at h;omega
   refine Gg ?_;refine⟨a1,fun hg _=>⟨(hk1 (by have:=hg;simp at this;omega)).1,by omega,by have:=hg;simp at this;omega⟩,Gg ?_⟩;refine⟨.string x1,fun hg _=>(hk1 (by have:=hg;simp at this;omega)).2.2 _ hx4,Gg ?_⟩;constructor
   · intro hq
     have hq:(decide (0<pa9 L key (a/width) (b/width))&&(decide ((k:Int)=(T.length:Int)) || !decide (x1=key)))=true:=hq;rw[Bool.and_eq_true,Bool.or_eq_true,Bool.not_eq_true',decide_eq_false_iff_not (p:=x1=key),decide_eq_true_eq (p:=(k:Int)=(T.length:Int))] at hq;obtain⟨hp0,hq⟩:=hq;have hp0:Q89 (a/width) (b/width) L key=true:=hp0;rw[if_pos hp0] at hst
     have hne:T[k]? ≠ some key:=fun e=>by
      have hlt:k<T.length:=(List.getElem?_eq_some_iff.1 e).1;have h1:=(hk1 hlt).2.1;rw[e] at h1;have h2:key=x1:=by simpa using h1
      rcases hq with hq | hq
      · omega
      · exact hq h2.symm
     rw[Qjd t1 t2 hne] at hst;clear hk1 hcc hq hend t1 t2 hall hne hp0 hkn;have hsk:=X6 (Qgo hsT k) 0 d (by rw[List.length_take];omega);have hsd:=X6 hsT k d hd;rw[List.drop_zero] at hsk;have hkm:k=(T.take k).length:=by rw[List.length_take];omega
     have hdl:T.length-k=(T.drop k).length:=by rw[List.length_drop]
     have htot:(T.take k).length+(T.drop k).length=T.length:=by rw[List.length_take,List.length_drop];omega
     generalize T.take k=U at hsk hkm htot hst;generalize T.drop k=V at hsd hdl htot hst;generalize hT9:Qbt (((L.take (i+1)).map fun x=>x.1).filter (Q89 (a/width) (b/width) L))=T9 at hst;refine Gg ?_
     refine Qhl (ι:=Option Addr×Nat) (fun j => [(0,.pointer (some ⟨p,0,none⟩)),(1,.int .i64 a),(2,.int .i64 b),(7,.slice j.1 T9.length j.2),(8,.int .i64 (i:Nat))])
      (fun j w'=>Ext w4 w'∧SlT w' j.1 T9∧T9.length≤j.2) ?_ ?_
     · refine Qdc (.mods (fun k=>w4.heap.size≤k)) (Pl.seq [1,2,3,5,8,9,10] (Pl.two 0 (Pl.seq [] (Pl.two 4 (Pl.seq [6,7,11,12] Pl.done) 6 (Pl.seq [4,7,11,12] Pl.done))) 6 (Pl.seq [0,4,7,11,12] Pl.done))) (by intro h;cases h) Qa mixed (by kernel_rfl) (Hh ?_)
       have hx3:=(Ext.refl w4).drew;generalize w4.drew=w5 at hx3 ⊢;refine⟨⟨by omega,by omega,by omega,by omega⟩,Hh ?_⟩;refine⟨⟨by omega,by omega,by omega,by omega⟩,Hh ?_⟩;have hE:=hx3;refine⟨?_,?_⟩
       · intro b6 w6 hn6
         have o6:=(Xb).made (base:=w4.heap.size) hn6 hE.size;have hE:=hE.trans hn6.ext;refine⟨Mod.of_ext hn6.ext,Hh ?_⟩;refine⟨?_,?_⟩
         · refine Qi Xb (l := []) (news:=U) rfl o6 (hkm) ((hsk).ext hE) (by simp;omega) hE.size fun A7 c7 w7 hown7 hg7 hA7 => ?_
           have hE:=Qh hE hg7 (Qr o6);refine⟨Qp hg7 (Qr o6),Hh ?_⟩;intro b8 w8 hn8;have h8:=(Xb).new1 (x:=key) hn8;have hown7:=hown7.ext hn8.ext;have hE:=hE.trans hn8.ext;refine⟨Mod.of_ext hn8.ext,Hh ?_⟩;refine Qi Xb (l:=U) (news := [key]) rfl hown7 rfl h8 (by simp;omega) hE.size fun A9 c9 w9 hown9 hg9 hA9 => ?_
           have hE:=Qh hE hg9 (Qr hown7);refine⟨Qp hg9 (Qr hown7),Hh ?_⟩;generalize hT1:U ++ [key]=T1 at hown9 ⊢;have hT1l:T1.length=U.length+1:=by rw[← hT1];simp
           refine Qi Xb (l:=T1) (news:=V) rfl hown9 hdl (hsd.ext hE) (by omega) hE.size fun A10 c10 w10 hown10 hg10 hA10 => ?_
           have hE:=Qh hE hg10 (Qr hown9);have hfin:T1++V=T9:=by rw[hst,← hT1];simp
           rw[hfin] at hown10 ⊢;refine⟨Qp hg10 (Qr hown9),Hh ?_⟩
           exact⟨(A10,c10),⟨hE,hown10.sl Xb.sz,hown10.le⟩,Rr⟩
         · intro b8 w8 hn8
           have h8:=(Xb).new1 (x:=key) hn8;have o6:=o6.ext hn8.ext;have hE:=hE.trans hn8.ext;refine⟨Mod.of_ext hn8.ext,Hh ?_⟩;refine Qi Xb (l := []) (news:=U) rfl o6 (hkm) ((hsk).ext hE) (by simp;omega) hE.size fun A7 c7 w7 hown7 hg7 hA7 => ?_
           have h8:=Qbx h8 (w1:=w7) (fun a' ha'=>by
            obtain rfl:(⟨b8,0,none⟩:Addr)=a':=by simpa using ha'
            exact hg7.block b8 (by rw[hn8.block];have:=hn6.size;have:=hn8.size;omega) (fun e'=>by
             have h68:b8=b6:=by simpa using e'
             have:=hn6.size;have:=hn8.size;rw[hn6.block,hn8.block] at h68;omega))
           have hE:=Qh hE hg7 (Qr o6);refine⟨Qp hg7 (Qr o6),Hh ?_⟩;refine Qi Xb (l:=U) (news := [key]) rfl hown7 rfl h8 (by simp;omega) hE.size fun A9 c9 w9 hown9 hg9 hA9 => ?_
           have hE:=Qh hE hg9 (Qr hown7);refine⟨Qp hg9 (Qr hown7),Hh ?_⟩;generalize hT1:U ++ [key]=T1 at hown9 ⊢;have hT1l:T1.length=U.length+1:=by rw[← hT1];simp
           refine Qi Xb (l:=T1) (news:=V) rfl hown9 hdl (hsd.ext hE) (by omega) hE.size fun A10 c10 w10 hown10 hg10 hA10 => ?_
           have hE:=Qh hE hg10 (Qr hown9);have hfin:T1++V=T9:=by rw[hst,← hT1];simp
           rw[hfin] at hown10 ⊢;refine⟨Qp hg10 (Qr hown9),Hh ?_⟩
           exact⟨(A10,c10),⟨hE,hown10.sl Xb.sz,hown10.le⟩,Rr⟩
       · intro b8 w8 hn8
         have h8:=(Xb).new1 (x:=key) hn8;have hE:=hE.trans hn8.ext;refine⟨Mod.of_ext hn8.ext,Hh ?_⟩;intro b6 w6 hn6;have o6:=(Xb).made (base:=w4.heap.size) hn6 hE.size;have hE:=hE.trans hn6.ext;have h8:=h8.ext hn6.ext;refine⟨Mod.of_ext hn6.ext,Hh ?_⟩;refine Qi Xb (l := []) (news:=U) rfl o6 (hkm) ((hsk).ext hE) (by simp;omega) hE.size fun A7 c7 w7 hown7 hg7 hA7 => ?_
         have h8:=Qbx h8 (w1:=w7) (fun a' ha'=>by
          obtain rfl:(⟨b8,0,none⟩:Addr)=a':=by simpa using ha'
          exact hg7.block b8 (by rw[hn8.block];have:=hn6.size;have:=hn8.size;omega) (fun e'=>by
           have h68:b8=b6:=by simpa using e'
           have:=hn6.size;have:=hn8.size;rw[hn6.block,hn8.block] at h68;omega))
         have hE:=Qh hE hg7 (Qr o6);refine⟨Qp hg7 (Qr o6),Hh ?_⟩;refine Qi Xb (l:=U) (news := [key]) rfl hown7 rfl h8 (by simp;omega) hE.size fun A9 c9 w9 hown9 hg9 hA9 => ?_
         have hE:=Qh hE hg9 (Qr hown7);refine⟨Qp hg9 (Qr hown7),Hh ?_⟩;generalize hT1:U ++ [key]=T1 at hown9 ⊢;have hT1l:T1.length=U.length+1:=by rw[← hT1];simp
         refine Qi Xb (l:=T1) (news:=V) rfl hown9 hdl (hsd.ext hE) (by omega) hE.size fun A10 c10 w10 hown10 hg10 hA10 => ?_
         have hE:=Qh hE hg10 (Qr hown9);have hfin:T1++V=T9:=by rw[hst,← hT1];simp
         rw[hfin] at hown10 ⊢;refine⟨Qp hg10 (Qr hown9),Hh ?_⟩
         exact⟨(A10,c10),⟨hE,hown10.sl Xb.sz,hown10.le⟩,Rr⟩
     rintro ⟨A10,c10⟩ w10 ⟨hx10,hs10,hd10⟩;simp only at hs10 hd10;refine Gg ?_;refine⟨_,wrap_succ (by omega),Gg ?_⟩
     exact⟨(i+1,A10,c10,T9),by simp only;omega,⟨by simp only;omega,hT9.symm,hs10,hd10,hx2.trans hx10⟩,Rr⟩
   · intro hq
     have hq:(decide (0<pa9 L key (a/width) (b/width))&&(decide ((k:Int)=(T.length:Int)) || !decide (x1=key)))=false:=hq
     have hsame:Qbt (((L.take (i+1)).map (·.1)).filter (Q89 (a/width) (b/width) L))=T:=by
      rw[hst]
      split
      · next hp0 =>
        have hp0:decide (0<pa9 L key (a/width) (b/width))=true:=hp0;rw[hp0,Bool.true_and,Bool.or_eq_false_iff,Bool.not_eq_false',decide_eq_true_eq,decide_eq_false_iff_not] at hq
        exact Qm2 t2 (by rw[(hk1 (by omega)).2.1,hq.2])
      · rfl
     refine Gg ?_;refine⟨_,wrap_succ (by omega),Gg ?_⟩
     exact⟨(i+1,B,d,T),by simp only;omega,⟨by simp only;omega,hsame.symm,hsT,hd,hx2⟩,Rr⟩
 · intro hge
   have hge:L.length≤i:=by simpa using hge
   rw[List.take_of_length_le hge] at hT;have hT:T=Q31 (a/width) (b/width) L L:=hT;subst hT;refine Gg ?_
   exact⟨B,d,rfl,hsT,hx2⟩
theorem Qa2:(⟨#[10]⟩:ByteArray).size=1:=rfl
theorem sz4 {a b:ByteArray} (ha:a.size≤1000000000000) (hb:b.size≤1000000000000):a.size+b.size≤9223372036854775807:=by omega
theorem Qaj (n:Int) (w:World) (h0:0≤n) (h1:n≤9223372036854775807):Cal Tryz.prog 84 [.int .i64 n] w fun r w'=>r = .string (spB++nB n)∧Ext w w':=by
 obtain⟨m,rfl⟩:=Int.eq_ofNat_of_zero_le h0;have hsz:=Qao h1;refine Fi Tryz.func84 rfl _ rfl rfl (Hh ?_);refine(Qgc m w (by omega)).mono ?_;rintro _ w1 ⟨rfl,hx⟩;have hsz:(Qqq m).size≤21:=hsz
 conv=>whnf
 refine⟨sz4 (by have:=Ql;omega) (by omega),Hh ?_⟩
 exact⟨rfl,hx⟩
theorem Qlf (s:ByteArray) (w:World):Cal Tryz.prog 89 [.string s] w fun r w'=>r = .string (Xt s)∧w'=w:=by
 refine Fi Tryz.func89 rfl _ rfl rfl (Hh ?_);constructor
 · intro h
   have h:s=⟨#[]⟩:=by simpa using h
   conv=>whnf
   exact⟨by subst h;rfl,rfl⟩
 · intro h
   have h:¬ s=⟨#[]⟩:=by simpa using h
   conv=>whnf
   exact⟨by unfold Xt;rw[decide_eq_false h];rfl,rfl⟩
theorem Xbs (s head:ByteArray) (x:Ct):s++head++⟨#[32]⟩++x.1++(spB++nB x.2)++⟨#[10]⟩=s++Qsj head x:=by
 unfold Qsj;show s++head++spB++x.1++(spB++nB x.2)++nlB=_
 simp only[ByteArray.append_assoc]
theorem Qs0 (head:ByteArray) (x:Ct):(Qsj head x).size=head.size+1+x.1.size+(1+(nB x.2).size)+1:=by
 unfold Qsj;simp only[ByteArray.size_append]
 rfl
set_option maxHeartbeats 1000000 in
theorem Qle (head:ByteArray) (l:List Ct) (A:Option Addr) (c:Nat) (w:World) (hs:Sl Qc6 2 w A l) (hh:head.size≤1000) (hl:l.length≤10000) (hb:∀ x∈l,x.1.size≤100∧0≤x.2∧x.2≤9223372036854775807) :
 Cal Tryz.prog 90 [.string head,.slice A l.length c] w fun r w'=>r = .string (Xk (l.map (Qsj head)))∧Ext w w':=by
 have hsp:spB.size=1:=rfl;have hnl:nlB.size=1:=rfl
 have htot:(Xk (l.map (Qsj head))).size≤20000000:=by
  have:=Qbb (K:=2000) (Qsj head) l fun x hx=>by
   rw[Qs0];have h1:=hb x hx;have h2:=Qao h1.2.2;omega
  omega
 refine Fi Tryz.func90 rfl _ rfl rfl (Hh ?_)
 refine Qd Qa (fun(i:Nat) w'=>i≤l.length∧Ext w w')
  (fun i => [(0,.string head),(1,.slice A l.length c),(5,.string (Xk ((l.take i).map (Qsj head)))),(6,.int .i64 (i:Nat))]) (fun i=>l.length-i) 0 ⟨Nat.zero_le _,Ext.refl _⟩ Rr ?_
 rintro i w1 ⟨hi,hx1⟩
 conv=>whnf
 constructor
 · intro hlt
   have hlt:i<l.length:=by simpa using hlt
   obtain⟨a,rfl,hc⟩:=(hs.ext hx1).get hlt;have htk:=Xj (Qsj head) l i hlt;have hpt:=Qah (Qsj head) l (i+1);have hbi:=hb l[i] (List.getElem_mem hlt);rw[htk,ByteArray.size_append,Qs0] at hpt;generalize l[i]=x at hc htk hpt hbi;have hnb:=Qao hbi.2.2;generalize Xk ((l.take i).map (Qsj head))=s at htk hpt;refine Gg ?_;refine Dr .ext [0,1,2,3,4,5,6,7,8,9,10,11,12,13,14,15,16,17,18] [] (Hh ?_);replace hx1:=hx1.drew;replace hc:=(Ext.refl w1).drew.cells hc;generalize w1.drew=w1 at hx1 hc ⊢;refine⟨sz4 (by first | omega | (simp only[ByteArray.size_append,Ql,Qa2,hsp,hnl];omega)) (by first | omega | (simp only[ByteArray.size_append,Ql,Qa2,hsp,hnl];omega)),Hh ?_⟩;refine⟨sz4 (by first | omega | (simp only[ByteArray.size_append,Ql,Qa2,hsp,hnl];omega)) (by first | omega | (simp only[ByteArray.size_append,Ql,Qa2,hsp,hnl];omega)),Hh ?_⟩;refine⟨a,Ix,Hh ?_⟩;refine⟨.string x.1,cells_at hc (k:=0) rfl,Hh ?_⟩;refine⟨sz4 (by first | omega | (simp only[ByteArray.size_append,Ql,Qa2,hsp,hnl];omega)) (by first | omega | (simp only[ByteArray.size_append,Ql,Qa2,hsp,hnl];omega)),Hh ?_⟩;refine⟨a,Ix,Hh ?_⟩;refine⟨.int .i64 x.2,cells_at hc (k:=1) rfl,Hh ?_⟩;refine(Qaj (x.2) w1 (by omega) (by omega)).mono ?_;rintro _ w2 ⟨rfl,hx2⟩;refine⟨hx2,Hh ?_⟩;refine⟨sz4 (by first | omega | (simp only[ByteArray.size_append,Ql,Qa2,hsp,hnl];omega)) (by first | omega | (simp only[ByteArray.size_append,Ql,Qa2,hsp,hnl];omega)),Hh ?_⟩;refine⟨sz4 (by first | omega | (simp only[ByteArray.size_append,Ql,Qa2,hsp,hnl];omega)) (by first | omega | (simp only[ByteArray.size_append,Ql,Qa2,hsp,hnl];omega)),Hh ?_⟩;rw[Xbs,← htk];refine Gg ?_;refine⟨_,wrap_succ (by omega),Gg ?_⟩
   exact⟨i+1,by omega,⟨by omega,hx1.trans hx2⟩,Rr⟩
 · intro hge
   have hge:l.length≤i:=by simpa using hge
   rw[List.take_of_length_le hge];refine Gg ?_
   exact⟨rfl,hx1⟩
theorem Q9c (s:ByteArray) {e:Ev} (h:1≤(Qfu e).size):s++⟨#[101,118,101,110,116,32]⟩++Qfu e++⟨#[10]⟩=s++evD e:=by
 have ewEventB:(⟨#[101,118,101,110,116,32]⟩:ByteArray)=Qhv++spB:=by apply ByteArray.ext;rw[ByteArray.data_append];rfl
 rw[Q90 h];rw[ewEventB];show s++(Qhv++spB)++Qfu e++nlB=_
 simp only[ByteArray.append_assoc]
theorem Q9f (s:ByteArray) {z:List Ev} {now:Int} {name:ByteArray} (h:Qm name=true):s++⟨#[116,104,105,110,103,32]⟩++name++⟨#[32]⟩++Xt (X3 (Qs z) name now).1.maker++⟨#[32]⟩++Xt (X3 (Qs z) name now).1.tags++(spB++nB (X3 (Qs z) name now).1.price)++(spB++nB (X3 (Qs z) name now).1.stock)++(spB++nB (X3 (Qs z) name now).1.born)++⟨#[10]⟩=s++thD z now name:=by
 have ewThingB:(⟨#[116,104,105,110,103,32]⟩:ByteArray)=Qhw++spB:=by apply ByteArray.ext;rw[ByteArray.data_append];rfl
 rw[Xa7 h];generalize (X3 (Qs z) name now).1=it;rw[ewThingB];show s++(Qhw++spB)++name++spB++Xt it.maker++spB++Xt it.tags++(spB++nB it.price)++(spB++nB it.stock)++(spB++nB it.born)++nlB=_
 simp only[ByteArray.append_assoc]
theorem Qzv (s:ByteArray) {z:List Ev} {c:Cfg} {key:ByteArray} (h:Qm key=true):s++⟨#[112,97,110,101,32]⟩++key++(spB++nB (paS (Qo c.width z).ps key (0/Qw c.width) ((1099511627776+c.width)/Qw c.width)))++⟨#[10]⟩=s++Qdl z c key:=by
 have ewPaneB:(⟨#[112,97,110,101,32]⟩:ByteArray)=Qll++spB:=by apply ByteArray.ext;rw[ByteArray.data_append];rfl
 rw[Q40 h];generalize paS (Qo c.width z).ps key (0/Qw c.width) ((1099511627776+c.width)/Qw c.width)=n;rw[ewPaneB];show s++(Qll++spB)++key++(spB++nB n)++nlB=_
 simp only[ByteArray.append_assoc]
theorem Q9e (s:ByteArray) {q:Sn} (h:Qm q.person=true) (hj:1≤(jnB q.items).size):s++⟨#[115,101,115,115,105,111,110,32]⟩++q.person++(spB++nB q.from_)++(spB++nB q.to_)++⟨#[32]⟩++jnB q.items++⟨#[10]⟩=s++snD q:=by
 have ewSessionB:(⟨#[115,101,115,115,105,111,110,32]⟩:ByteArray)=Qd7++spB:=by apply ByteArray.ext;rw[ByteArray.data_append];rfl
 rw[Xav h hj];rw[ewSessionB];show s++(Qd7++spB)++q.person++(spB++nB q.from_)++(spB++nB q.to_)++spB++jnB q.items++nlB=_
 simp only[ByteArray.append_assoc]
theorem Qzt (s:ByteArray) {S:List Sn} {a b:ByteArray} (ha:Qm a=true) (hb:Qm b=true):s++⟨#[112,97,105,114,32]⟩++a++⟨#[32]⟩++b++(spB++nB (Qa7 S a b))++⟨#[10]⟩=s++Qiy S a b:=by
 have ewPairB:(⟨#[112,97,105,114,32]⟩:ByteArray)=Qj7++spB:=by apply ByteArray.ext;rw[ByteArray.data_append];rfl
 rw[Q4v ha hb];generalize (Qa7 S a b:Int)=n;rw[ewPairB];show s++(Qj7++spB)++a++spB++b++(spB++nB n)++nlB=_
 simp only[ByteArray.append_assoc]
theorem Qxj (person:ByteArray):(⟨#[116,97,115,116,101,32]⟩:ByteArray)++person=Qe6++spB++person:=by
 have e:(⟨#[116,97,115,116,101,32]⟩:ByteArray)=Qe6++spB:=by apply ByteArray.ext;rw[ByteArray.data_append];rfl
 rw[e]
theorem Q49 (c:Cfg):(⟨#[99,111,110,102,105,103]⟩:ByteArray)++(spB++nB c.half)++(spB++nB c.width)++(spB++nB c.gap)++(spB++nB c.span)++(spB++nB c.floor)++(spB++nB c.crowd)++⟨#[10]⟩=Q2t c:=(Q62 c).symm
theorem Xah {e:Ev} (h:Xn e=true):Qm e.src=true:=(Qb6.1 h).src
theorem Q5w {c:Cfg} {z:List Ev} (hm:∀ e∈z,Xn e=true) {q:Sn} (hq:q∈Qdg c z):∀ i∈q.items,Qm i=true:=(Qr1 hm hq).2.2.2
theorem Xax {c:Cfg} {z:List Ev} (hz:z.length<100) {q:Sn} (hq:q∈Qdg c z):q.items.length<100:=by
 unfold Qdg at hq;rw[← Qky _ (Qkh _).1] at hq;have h1:=Qj9 _ _ q hq;have h2:=Qfw (lt:=ahB) ((z.filter wpB).map adE);have h3:=List.length_filter_le wpB z;rw[List.length_map] at h2;omega
theorem Xaw {c:Cfg} {z:List Ev} (hz:z.length<1000) (hm:∀ e∈z,Xn e=true):(Qdg c z).length≤1000:=by
 have h:=(Q8y c z hm hz).len;omega
theorem Qwm (l:List ByteArray) (j:Nat) (h:j<l.length):jnB (l.take (j+1))=(if 0<j then jnB (l.take j)++⟨#[44]⟩ else jnB (l.take j))++l[j]:=by
 rw[Xi l j h,Xac]
 by_cases h0:0<j
 · rw[if_pos h0,if_neg fun e=>by
    have:=congrArg List.length e;rw[List.length_take,List.length_nil] at this;omega]
 · obtain rfl:j=0:=by omega
   rw[if_neg h0,List.take_zero,if_pos rfl]
   exact(Qsr _).symm
theorem Q3x (l:List ByteArray) (j:Nat):(jnB (l.take j)).size≤(jnB l).size:=by
 have hs:∀ m,(jnB (l.take j)).size≤(jnB (l.take (j+m))).size:=fun m=>by
  induction m with
  | zero=>exact Nat.le_refl _
  | succ m ih =>
    refine Nat.le_trans ih ?_;show _≤(jnB (l.take (j+m+1))).size
    by_cases hlt:j+m<l.length
    · rw[Qwm l (j+m) hlt,ByteArray.size_append]
      split
      · rw[ByteArray.size_append];omega
      · omega
    · rw[List.take_of_length_le (by omega),List.take_of_length_le (by omega)]
      exact Nat.le_refl _
 have:=hs l.length
 rwa [List.take_of_length_le (show l.length≤j+l.length by omega)] at this
theorem Xby {l:List ByteArray} (h:l ≠ []) (hn:∀ x∈l,Qm x=true):1≤(jnB l).size:=by
 cases l with
 | nil=>exact absurd rfl h
 | cons x l =>
   have h1:=(Xr (hn x (by simp))).1;have h2:=Qwm (x :: l) 0 (by simp);have h3:=Q3x (x :: l) 1;rw[h2,ByteArray.size_append] at h3;have h4:((x :: l)[0]).size=x.size:=rfl;omega
theorem Qon {α:Type} (N:List α) {k j:Nat} (hk:k≤j) (h:j<N.length):(N.take (j+1)).drop k=(N.take j).drop k ++ [N[j]]:=by
 rw[Xi N j h,List.drop_append]
 congr 1
 have:k-(N.take j).length=0:=by rw[List.length_take];omega
 rw[this];rfl
theorem Qmv {α:Type} {p:α→Bool} {l:List α} {y:α} (h:p y=true):(l ++ [y]).filter p=l.filter p ++ [y]:=by rw[List.filter_append,List.filter_cons_of_pos h,List.filter_nil]
theorem Qmu {α:Type} {p:α→Bool} {l:List α} {y:α} (h:¬ p y=true):(l ++ [y]).filter p=l.filter p:=by rw[List.filter_append,List.filter_cons_of_neg h,List.filter_nil,List.append_nil]
theorem Q60 {α:Type} (f:α→ByteArray) {l m:List α} (h:l.Sublist m):(Xk (l.map f)).size≤(Xk (m.map f)).size:=by
 induction h with
 | slnil=>exact Nat.le_refl _
 | cons a _ ih =>
   refine Nat.le_trans ih ?_;show _≤(f a++Xk _).size
   rw[ByteArray.size_append];omega
 | cons_cons a _ ih =>
   show (f a++Xk _).size≤(f a++Xk _).size
   rw[ByteArray.size_append,ByteArray.size_append];omega
theorem Q1i (Q:List Sn) (x:ByteArray) (N:List ByteArray) (k j:Nat):(Xk ((((N.take j).drop k).filter (fun b=>decide (0<Qa7 Q x b))).map (Qiy Q x))).size≤(Xk (((N.drop k).filter (fun b=>decide (0<Qa7 Q x b))).map (Qiy Q x))).size :=
 Q60 _ (((List.take_sublist j N).drop k).filter _)
theorem Q4i {z:List Ev} (hr:Rise z) (now:Int):Qea (Qs z) now (Qs z)=Qc2 z now:=by
 unfold Qea Qc2
 congr 1
 exact List.filter_congr fun x _=>(Q7q (Qie hr) now x).symm
theorem Qu0 {z:List Ev}:∀ e∈Qs z,thB e=true:=fun e he=>(List.mem_filter.1 he).2
theorem Qp0 {z:List Ev} (hm:∀ e∈z,Xn e=true):∀ e∈Qs z,Xn e=true:=fun e he=>hm e (List.mem_filter.1 he).1
theorem Q8h {z:List Ev} (hm:∀ e∈z,Xn e=true) (hz:z.length<1000) (half now:Int) {O:List Ct} (hp:O.Perm ((Qgv half now ((z.filter wpB).map Qln) ((z.filter wpB).map Qln)).map fun k=>(k,Qe9 half now k ((z.filter wpB).map Qln)))) (hs:Srt Qfk O):O=Qdr (Qcw (Qf6 (z.filter wpB)) half now):=by
 have hpe:∀ k,Qe9 half now k ((z.filter wpB).map Qln)=Qop (z.filter wpB) half k now:=fun k=>Q1l half now k _
 have hb:=fun k=>(Qmp hm hz half k now).2.1
 have hmem:∀ k,k∈Qgv half now ((z.filter wpB).map Qln) ((z.filter wpB).map Qln)↔k∈((z.filter wpB).map Qln).map (·.1)∧0<Qop (z.filter wpB) half k now:=fun k=>by
  unfold Qgv Qoq;rw[X7,List.mem_filter,hpe,Bool.not_eq_true',decide_eq_false_iff_not];have:=hb k;constructor
  · rintro ⟨h1,h2⟩;exact⟨h1,by omega⟩
  · rintro ⟨h1,h2⟩;exact⟨h1,by omega⟩
 refine Qy4 (Q3f (f:=fun k=>Qop (z.filter wpB) half k now) (tags:=Qgv half now ((z.filter wpB).map Qln) ((z.filter wpB).map Qln)) (Qf2 _) (fun t ht=>(hmem t).2 ⟨?_,ht⟩) ?_) hs (Xb6 hm hz half now)
 · refine Classical.byContradiction fun hn => ?_
   have ht:0<Qop (z.filter wpB) half t now:=ht
   have h0:((z.filter wpB).filter fun e=>decide (e.item=t)) = []:=by
    rw[List.filter_eq_nil_iff];intro e he;simp only[decide_eq_true_eq];intro h
    exact hn (List.mem_map.2 ⟨Qln e,List.mem_map.2 ⟨e,he,rfl⟩,h⟩)
   unfold Qop at ht;rw[h0] at ht
   simp at ht
 · refine hp.trans (List.Perm.of_eq ?_)
   generalize Qgv half now ((z.filter wpB).map Qln) ((z.filter wpB).map Qln)=K at hmem;have hf:K.filter (fun t=>decide (0<Qop (z.filter wpB) half t now))=K:=List.filter_eq_self.2 fun k hk=>by simpa using ((hmem k).1 hk).2
   show _=List.map (fun t=>(t,Qop (z.filter wpB) half t now)) (K.filter (fun t=>decide (0<Qop (z.filter wpB) half t now)))
   rw[hf]
   exact List.map_congr_left fun k _=>by rw[hpe]
theorem Q5m {z:List Ev} (width:Int) (hw:1≤width∧width≤1099511627776) (key:ByteArray) (lo hi:Int):pa9 ((z.filter wpB).map (s9E width)) key lo hi=paS (Qg0 width (z.filter wpB)) key lo hi:=by
 have h1:Qw width=width:=by unfold Qw;omega
 rw[Q9a _ _ _ _ _ fun e he=>(List.mem_filter.1 he).2,← Xap,h1]
theorem Q1u {z:List Ev} (hm:∀ e∈z,Xn e=true) (width:Int) (hw:1≤width∧width≤1099511627776) (lo hi:Int):Q31 lo hi ((z.filter wpB).map (s9E width)) ((z.filter wpB).map (s9E width))=Qcj (Qg0 width (z.filter wpB)) lo hi:=by
 rw[← Q4z hm width lo hi];unfold Q31;rw[List.map_map]
 congr 1
 refine List.filter_congr fun k _ => ?_
 unfold Q89;rw[Q5m width hw]
theorem Qx8 {z:List Ev} (hr:Rise z) (hm:∀ e∈z,Xn e=true) (hz:z.length<1000) (c:Cfg) (hc:1≤c.half∧c.half≤1099511627776) (now:Int) {person:ByteArray} (hp:Qm person=true) {L:List Ct} (hL:Qp9 (Qsl c.half now (rowsOf (Qhj z) person)) L) (hs:Srt Qfk L):Xk (L.map (Qsj (Qe6++spB++person)))=Qec z c now person∧L.length≤8000∧∀ x∈L,Qm x.1=true∧0<x.2∧x.2≤1099511627776:=by
 have hh:Qw c.half=c.half:=by unfold Qw;omega
 have hq:=Qy4 hL hs (Q8l hr hm hz c.width c.half now person);have hin:∀ x∈L,Qm x.1=true∧0<x.2∧x.2≤1099511627776:=fun x hx=>Qsa hr hm hz (Qf4.1 (hq ▸ hx))
 refine⟨?_,?_,hin⟩
 · unfold Qec
   rw[hh,← hq]
   congr 1
   exact List.map_congr_left fun x hx=>(Q2j hp (hin x hx).1).symm
 · rw[hq,Qhr]
   exact Qn6 hr hm hz c.width c.half now person
theorem Q45 {z:List Ev} (hm:∀ e∈z,Xn e=true) (hz:z.length<1000) (half now:Int):Xk ((Qdr (Qcw (Qf6 (z.filter wpB)) half now)).map (Qsj Qdj))=Xk ((Qdr (Qcw (Qf6 (z.filter wpB)) half now)).map Qoi):=by
 congr 1
 exact List.map_congr_left fun x hx=>(Q77 (Qsb hm hz (Qf4.1 hx)).1).symm
theorem Qz:(⟨#[101,118,101,110,116,32]⟩:ByteArray).size=6:=rfl
theorem Q9:(⟨#[116,104,105,110,103,32]⟩:ByteArray).size=6:=rfl
theorem Q3:(⟨#[112,97,110,101,32]⟩:ByteArray).size=5:=rfl
theorem Q7:(⟨#[115,101,115,115,105,111,110,32]⟩:ByteArray).size=8:=rfl
theorem Q5:(⟨#[112,97,105,114,32]⟩:ByteArray).size=5:=rfl
theorem Q8:(⟨#[116,97,115,116,101,32]⟩:ByteArray).size=6:=rfl
theorem Qy:(⟨#[99,111,110,102,105,103]⟩:ByteArray).size=6:=rfl
set_option maxHeartbeats 16000000 in
theorem Qt1 (c:Cfg) (hcf:Qii c=true) (z:List Ev) (A:Option Addr) (cap:Nat) (hcap:z.length≤cap) (now:Int) (w:World) (hs:SlE w A z) (hz:z.length<100) (hm:∀ e∈z,Xn e=true) (htx:∀ e∈z,e.text.size<1000000) (hr:Rise z) :
 Cal Tryz.prog 46 [Qsx c,.slice A z.length cap,.int .i64 now] w fun r w'=>r = .string (Q2u c z (Qgw now))∧Ext w w':=by
 have hsp:spB.size=1:=rfl;obtain⟨hc1,hc2,hc3,_,hc5,hc6,hc7⟩:=Qy1 hcf;have hnow:=Q4k now;have htot:=Qs7 hcf hr hm (by omega) (Qgw now);have hh:Qw c.half=c.half:=by unfold Qw;omega
 have hw2:Qw c.width=c.width:=by unfold Qw;omega
 have hgp:Qve c.gap=c.gap:=by unfold Qve;omega
 have hnD:Qgw now=min (max now 0) 1099511627776:=rfl;unfold Q2u at htot ⊢;simp only[ByteArray.size_append] at htot;refine Fi Tryz.func46 rfl _ rfl rfl (Hh ?_);intro b3 w1 hn1;conv=>whnf
 have h3:At w1 b3 23 (Qip c):=hn1.At;have hx:=hn1.ext;clear hn1;refine Xm Qa (ι:=Int) (fun q => [(1,.slice A z.length cap),(2,.int .i64 q),(3,.pointer (some ⟨b3,0,none⟩))]) (fun q w'=>q=max now 0∧w'=w1) ?_ ?_
 · (conv=>whnf)
   constructor
   · intro hq
     have hq:now<0:=by simpa using hq
     conv=>whnf
     exact⟨0,⟨by omega,rfl⟩,Rr⟩
   · intro hq
     have hq:¬ now<0:=by simpa using hq
     conv=>whnf
     exact⟨now,⟨by omega,rfl⟩,Rr⟩
 rintro q1 w2 ⟨hq1,hw2'⟩;subst hw2';refine Xm Qa (ι:=Int) (fun q => [(1,.slice A z.length cap),(2,.int .i64 q),(3,.pointer (some ⟨b3,0,none⟩))]) (fun q w'=>q=Qgw now∧w'=w2) ?_ ?_
 · (conv=>whnf)
   constructor
   · intro hq
     have hq:(1099511627776:Int)<q1:=by simpa using hq
     conv=>whnf
     exact⟨1099511627776,⟨by omega,rfl⟩,Rr⟩
   · intro hq
     have hq:¬ (1099511627776:Int)<q1:=by simpa using hq
     conv=>whnf
     exact⟨q1,⟨by omega,rfl⟩,Rr⟩
 rintro t w1 ⟨ht,hw1⟩;subst hw1;rw[← ht] at htot hnow ⊢;clear hnD hq1 ht;refine Gg ?_;refine Dr .ext [0,1,4,5,8,9,12,13,16,17,20,21,2,3,6,7,10,11,14,15,18,19,22,23,24,25] [] (Hh ?_);have hxd:Ext w1 w1.drew:=(Ext.refl w1).drew;replace hx:=hx.trans hxd;replace h3:=h3.ext hxd;clear hxd;generalize w1.drew=w4 at hx h3 ⊢;refine⟨.int .i64 c.half,h3.one rfl,Hh ?_⟩;refine⟨.int .i64 c.width,h3.one rfl,Hh ?_⟩;refine⟨.int .i64 c.gap,h3.one rfl,Hh ?_⟩;refine⟨.int .i64 c.span,h3.one rfl,Hh ?_⟩;refine⟨.int .i64 c.floor,h3.one rfl,Hh ?_⟩;refine⟨.int .i64 c.crowd,h3.one rfl,Hh ?_⟩;have hcs:=congrArg ByteArray.size (Q49 c);simp only[ByteArray.size_append,Ql,Qa2,hsp,Qz,Q9,Q3,Q7,Q5,Q8,Qy] at hcs;have hb1:=Qao (n:=c.half) (by omega);have hb2:=Qao (n:=c.width) (by omega);have hb3:=Qao (n:=c.gap) (by omega);have hb4:=Qao (n:=c.span) (by omega);have hb5:=Qao (n:=c.floor) (by omega);have hb6:=Qao (n:=c.crowd) (by omega);refine(Qaj (c.half) w4 (by omega) (by omega)).mono ?_;rintro _ w10 ⟨rfl,hx10⟩;refine⟨hx10,Hh ?_⟩;replace hx:=hx.trans hx10;replace h3:=h3.ext hx10;clear hx10;refine⟨sz4 (by first | omega | (simp only[ByteArray.size_append,Ql,Qa2,hsp,Qz,Q9,Q3,Q7,Q5,Q8,Qy];omega)) (by first | omega | (simp only[ByteArray.size_append,Ql,Qa2,hsp,Qz,Q9,Q3,Q7,Q5,Q8,Qy];omega)),Hh ?_⟩;refine(Qaj (c.width) w10 (by omega) (by omega)).mono ?_;rintro _ w11 ⟨rfl,hx11⟩;refine⟨hx11,Hh ?_⟩;replace hx:=hx.trans hx11;replace h3:=h3.ext hx11;clear hx11;refine⟨sz4 (by first | omega | (simp only[ByteArray.size_append,Ql,Qa2,hsp,Qz,Q9,Q3,Q7,Q5,Q8,Qy];omega)) (by first | omega | (simp only[ByteArray.size_append,Ql,Qa2,hsp,Qz,Q9,Q3,Q7,Q5,Q8,Qy];omega)),Hh ?_⟩;refine(Qaj (c.gap) w11 (by omega) (by omega)).mono ?_;rintro _ w12 ⟨rfl,hx12⟩;refine⟨hx12,Hh ?_⟩;replace hx:=hx.trans hx12;replace h3:=h3.ext hx12;clear hx12;refine⟨sz4 (by first | omega | (simp only[ByteArray.size_append,Ql,Qa2,hsp,Qz,Q9,Q3,Q7,Q5,Q8,Qy];omega)) (by first | omega | (simp only[ByteArray.size_append,Ql,Qa2,hsp,Qz,Q9,Q3,Q7,Q5,Q8,Qy];omega)),Hh ?_⟩;refine(Qaj (c.span) w12 (by omega) (by omega)).mono ?_;rintro _ w13 ⟨rfl,hx13⟩;refine⟨hx13,Hh ?_⟩;replace hx:=hx.trans hx13;replace h3:=h3.ext hx13;clear hx13;refine⟨sz4 (by first | omega | (simp only[ByteArray.size_append,Ql,Qa2,hsp,Qz,Q9,Q3,Q7,Q5,Q8,Qy];omega)) (by first | omega | (simp only[ByteArray.size_append,Ql,Qa2,hsp,Qz,Q9,Q3,Q7,Q5,Q8,Qy];omega)),Hh ?_⟩;refine(Qaj (c.floor) w13 (by omega) (by omega)).mono ?_;rintro _ w14 ⟨rfl,hx14⟩;refine⟨hx14,Hh ?_⟩;replace hx:=hx.trans hx14;replace h3:=h3.ext hx14;clear hx14;refine⟨sz4 (by first | omega | (simp only[ByteArray.size_append,Ql,Qa2,hsp,Qz,Q9,Q3,Q7,Q5,Q8,Qy];omega)) (by first | omega | (simp only[ByteArray.size_append,Ql,Qa2,hsp,Qz,Q9,Q3,Q7,Q5,Q8,Qy];omega)),Hh ?_⟩;refine(Qaj (c.crowd) w14 (by omega) (by omega)).mono ?_;rintro _ w15 ⟨rfl,hx15⟩;refine⟨hx15,Hh ?_⟩;replace hx:=hx.trans hx15;replace h3:=h3.ext hx15;clear hx15;refine⟨sz4 (by first | omega | (simp only[ByteArray.size_append,Ql,Qa2,hsp,Qz,Q9,Q3,Q7,Q5,Q8,Qy];omega)) (by first | omega | (simp only[ByteArray.size_append,Ql,Qa2,hsp,Qz,Q9,Q3,Q7,Q5,Q8,Qy];omega)),Hh ?_⟩;refine⟨sz4 (by first | omega | (simp only[ByteArray.size_append,Ql,Qa2,hsp,Qz,Q9,Q3,Q7,Q5,Q8,Qy];omega)) (by first | omega | (simp only[ByteArray.size_append,Ql,Qa2,hsp,Qz,Q9,Q3,Q7,Q5,Q8,Qy];omega)),Hh ?_⟩;rw[Q49];clear hb1 hb2 hb3 hb4 hb5 hb6 hcs;have hP:(Q2t c).size=(Q2t c).size:=rfl;generalize hS:Q2t c=S at htot ⊢;clear hP hS;have h0:S++Xk ((z.take 0).map evD)=S:=X8 S;refine Gg ?_
 refine Qd Qa (fun(k:Nat) w'=>k≤z.length∧Ext w15 w')
  (fun k => [(1,.slice A z.length cap),(2,.int .i64 t),(3,.pointer (some ⟨b3,0,none⟩)),(7,.string (S++Xk ((z.take k).map evD))),(8,.int .i64 (k:Nat))]) (fun k=>z.length-k) 0 ⟨Nat.zero_le _,Ext.refl _⟩ (by rw[h0];exact Rr) ?_
 clear h0;rintro k w16 ⟨hk,hx16⟩
 conv=>whnf
 constructor
 · intro hlt
   have hlt:k<z.length:=by simpa using hlt
   obtain⟨a,rfl,hc⟩:=(hs.ext (hx.trans hx16)).get hlt;have htk:=Xj evD z k hlt;have hpk:=Qah evD z (k+1);rw[htk,ByteArray.size_append] at hpk;have hme:=hm z[k] (List.getElem_mem hlt);have hte:=htx z[k] (List.getElem_mem hlt);generalize z[k]=e at hc htk hpk hme hte;have hfo:=Qkn hme hte;have hfp:=Q94 e (Xah hme);have hes:=congrArg ByteArray.size (Q9c S hfp);simp only[ByteArray.size_append,Ql,Qa2,hsp,Qz,Q9,Q3,Q7,Q5,Q8,Qy] at hes;generalize Xk ((z.take k).map evD)=u at htk hpk;refine Gg ?_;refine⟨sz4 (by first | omega | (simp only[ByteArray.size_append,Ql,Qa2,hsp,Qz,Q9,Q3,Q7,Q5,Q8,Qy];omega)) (by first | omega | (simp only[ByteArray.size_append,Ql,Qa2,hsp,Qz,Q9,Q3,Q7,Q5,Q8,Qy];omega)),Gg ?_⟩;refine⟨a,Ix,Gg ?_⟩;refine⟨evC e,⟨rfl,hc⟩,Gg ?_⟩;refine(Qhh e w16 hfo).mono ?_;rintro _ w17 ⟨rfl,hx17⟩;refine Gg ?_;refine⟨sz4 (by first | omega | (simp only[ByteArray.size_append,Ql,Qa2,hsp,Qz,Q9,Q3,Q7,Q5,Q8,Qy];omega)) (by first | omega | (simp only[ByteArray.size_append,Ql,Qa2,hsp,Qz,Q9,Q3,Q7,Q5,Q8,Qy];omega)),Gg ?_⟩;refine⟨sz4 (by first | omega | (simp only[ByteArray.size_append,Ql,Qa2,hsp,Qz,Q9,Q3,Q7,Q5,Q8,Qy];omega)) (by first | omega | (simp only[ByteArray.size_append,Ql,Qa2,hsp,Qz,Q9,Q3,Q7,Q5,Q8,Qy];omega)),Gg ?_⟩;rw[Q9c _ hfp,ByteArray.append_assoc,← htk];refine⟨_,wrap_succ (by omega),Gg ?_⟩
   exact⟨k+1,by omega,⟨by omega,hx16.trans hx17⟩,Rr⟩
 intro hge;have hge:z.length≤k:=by simpa using hge
 rw[List.take_of_length_le hge];replace hx:=hx.trans hx16;replace h3:=h3.ext hx16;clear hge hx16 hk;have hS1:(S++Xk (z.map evD)).size=S.size+(Xk (z.map evD)).size:=ByteArray.size_append;generalize S++Xk (z.map evD)=S1 at hS1 ⊢;refine Gg ?_;refine(Qlg z A cap w16 (hs.ext hx) (by omega)).mono ?_;rintro _ w17 ⟨A9,c9,rfl,hs9,hx17⟩;replace hx:=hx.trans hx17;replace h3:=h3.ext hx17;clear hx17;have htl:(Qs z).length≤z.length:=List.length_filter_le thB z;refine Gg ?_;refine(Qrr (Qs z) t A9 c9 w17 hs9 (by omega) Qu0 (Qp0 hm)).mono ?_;rw[Q4i hr];rintro _ w18 ⟨A10,c10,rfl,hs10,hx18⟩;replace hs9:=hs9.ext hx18;replace hx:=hx.trans hx18;replace h3:=h3.ext hx18;clear hx18;have hnl:=Qne z t
 have hnn:∀ x∈Qc2 z t,Qm x=true:=fun x hx=>by
  obtain⟨e,he,rfl⟩:=names_in hx
  exact Qk1 hm he
 have hT:=Qu0 (z:=z);have hTm:=Qp0 hm;have hTd:=fun x=>(Qi6 (Qie hr) x t)
 have hTb:=fun x=>Qvr hm x t
 generalize Qc2 z t=N at hs10 hnl hnn htot ⊢;have h0:S1++Xk ((N.take 0).map (thD z t))=S1:=X8 S1;refine Gg ?_
 refine Qd Qa (fun(k:Nat) w'=>k≤N.length∧Ext w18 w')
  (fun k => [(1,.slice A z.length cap),(2,.int .i64 t),(3,.pointer (some ⟨b3,0,none⟩)),(7,.string (S1++Xk ((N.take k).map (thD z t)))),(9,.slice A9 (Qs z).length c9),(10,.slice A10 N.length c10),(11,.int .i64 (k:Nat))]) (fun k=>N.length-k) 0 ⟨Nat.zero_le _,Ext.refl _⟩ (by rw[h0];exact Rr) ?_
 clear h0;rintro k w19 ⟨hk,hx19⟩
 conv=>whnf
 constructor
 · intro hlt
   have hlt:k<N.length:=by simpa using hlt
   obtain⟨a,rfl,hca⟩:=(hs10.ext hx19).get hlt;have htk:=Xj (thD z t) N k hlt;have hpk:=Qah (thD z t) N (k+1);rw[htk,ByteArray.size_append] at hpk;have hnk:=hnn N[k] (List.getElem_mem hlt);generalize hxk:N[k]=x at hca htk hpk hnk;have hib:=hTb x;have hes:=congrArg ByteArray.size (Q9f S1 (z:=z) (now:=t) hnk);have hle:=fun s=>Q9f s (z:=z) (now:=t) hnk
   have hd:=hTd x;generalize X3 (Qs z) x t=it at hib hes hle hd;simp only[ByteArray.size_append,Ql,Qa2,hsp,Qz,Q9,Q3,Q7,Q5,Q8,Qy] at hes;obtain⟨i1,i2,i3,i4,i5⟩:=hib;have hit:Qje x ((Qs z).filter (thQ x t))=it.1:=by rw[hd]
   have hb1:=Qao (n:=it.1.price) (by omega);have hb2:=Qao (n:=it.1.stock) (by omega);have hb3:=Qao (n:=it.1.born) (by omega);have hxn:=Xr hnk;generalize Xk ((N.take k).map (thD z t))=u at htk hpk;refine Gg ?_;refine⟨a,Ix,Gg ?_⟩;refine⟨.string x,Qu hca,Gg ?_⟩;refine(Qjs (Qs z) x t A9 c9 w19 (hs9.ext hx19) (by omega) hT hTm).mono ?_;rintro _ w20 ⟨rfl,hx20⟩;rw[hit];refine Gg ?_;intro b12 w21 hn21;refine Gg ?_;refine Qg Qa (e:=ty135) rfl hn21.At rfl rfl rfl (by simp[Qq,itC,Value.oneCell']) fun w22 h12 ho22 => ?_
   have h12:At w22 b12 135 (itC it.1):=h12;have hx22:Ext w20 w22:=ho22.ext hn21.ext (by rw[hn21.block];exact Nat.le_refl _);clear ho22 hn21;have hxa:=(hx19.trans hx20).trans hx22;replace hca:=(hs10.ext hxa).get hlt;refine Gg ?_;refine Dr .ext [0,1,2,3,4,5,6,7,8,9,13,14,17,18,21,22,25,26,10,11,12,15,16,19,20,23,24,27,28,29,30] [] (Hh ?_);obtain⟨a',ha',hcd⟩:=hca;obtain rfl:a=a':=by simpa using ha'
   have hxd:Ext w22 w22.drew:=(Ext.refl w22).drew;replace hxa:=hxa.trans hxd;replace h12:=h12.ext hxd;replace hcd:=hxd.cells hcd;rw[hxk] at hcd;generalize w22.drew=w23 at hxa h12 hcd ⊢;refine⟨sz4 (by first | omega | (simp only[ByteArray.size_append,Ql,Qa2,hsp,Qz,Q9,Q3,Q7,Q5,Q8,Qy];omega)) (by first | omega | (simp only[ByteArray.size_append,Ql,Qa2,hsp,Qz,Q9,Q3,Q7,Q5,Q8,Qy];omega)),Hh ?_⟩;refine⟨a,Ix,Hh ?_⟩;refine⟨.string x,Qu hcd,Hh ?_⟩;refine⟨sz4 (by first | omega | (simp only[ByteArray.size_append,Ql,Qa2,hsp,Qz,Q9,Q3,Q7,Q5,Q8,Qy];omega)) (by first | omega | (simp only[ByteArray.size_append,Ql,Qa2,hsp,Qz,Q9,Q3,Q7,Q5,Q8,Qy];omega)),Hh ?_⟩;refine⟨sz4 (by first | omega | (simp only[ByteArray.size_append,Ql,Qa2,hsp,Qz,Q9,Q3,Q7,Q5,Q8,Qy];omega)) (by first | omega | (simp only[ByteArray.size_append,Ql,Qa2,hsp,Qz,Q9,Q3,Q7,Q5,Q8,Qy];omega)),Hh ?_⟩;refine⟨.string it.1.maker,h12.one rfl,Hh ?_⟩;refine⟨.string it.1.tags,h12.one rfl,Hh ?_⟩;refine⟨.int .i64 it.1.price,h12.one rfl,Hh ?_⟩;refine⟨.int .i64 it.1.stock,h12.one rfl,Hh ?_⟩;refine⟨.int .i64 it.1.born,h12.one rfl,Hh ?_⟩;have hm1:=Qic it.1.maker;have hm2:=Qic it.1.tags;refine(Qlf it.1.maker w23).mono ?_;rintro _ _ ⟨rfl,rfl⟩;refine⟨Ext.refl _,Hh ?_⟩;refine⟨sz4 (by first | omega | (simp only[ByteArray.size_append,Ql,Qa2,hsp,Qz,Q9,Q3,Q7,Q5,Q8,Qy];omega)) (by first | omega | (simp only[ByteArray.size_append,Ql,Qa2,hsp,Qz,Q9,Q3,Q7,Q5,Q8,Qy];omega)),Hh ?_⟩;refine⟨sz4 (by first | omega | (simp only[ByteArray.size_append,Ql,Qa2,hsp,Qz,Q9,Q3,Q7,Q5,Q8,Qy];omega)) (by first | omega | (simp only[ByteArray.size_append,Ql,Qa2,hsp,Qz,Q9,Q3,Q7,Q5,Q8,Qy];omega)),Hh ?_⟩;refine(Qlf it.1.tags _).mono ?_;rintro _ _ ⟨rfl,rfl⟩;refine⟨Ext.refl _,Hh ?_⟩;refine⟨sz4 (by first | omega | (simp only[ByteArray.size_append,Ql,Qa2,hsp,Qz,Q9,Q3,Q7,Q5,Q8,Qy];omega)) (by first | omega | (simp only[ByteArray.size_append,Ql,Qa2,hsp,Qz,Q9,Q3,Q7,Q5,Q8,Qy];omega)),Hh ?_⟩;refine(Qaj (it.1.price) _ (by omega) (by omega)).mono ?_;rintro _ w24 ⟨rfl,hx24⟩;refine⟨hx24,Hh ?_⟩;replace hxa:=hxa.trans hx24;refine⟨sz4 (by first | omega | (simp only[ByteArray.size_append,Ql,Qa2,hsp,Qz,Q9,Q3,Q7,Q5,Q8,Qy];omega)) (by first | omega | (simp only[ByteArray.size_append,Ql,Qa2,hsp,Qz,Q9,Q3,Q7,Q5,Q8,Qy];omega)),Hh ?_⟩;refine(Qaj (it.1.stock) _ (by omega) (by omega)).mono ?_;rintro _ w25 ⟨rfl,hx25⟩;refine⟨hx25,Hh ?_⟩;replace hxa:=hxa.trans hx25;refine⟨sz4 (by first | omega | (simp only[ByteArray.size_append,Ql,Qa2,hsp,Qz,Q9,Q3,Q7,Q5,Q8,Qy];omega)) (by first | omega | (simp only[ByteArray.size_append,Ql,Qa2,hsp,Qz,Q9,Q3,Q7,Q5,Q8,Qy];omega)),Hh ?_⟩;refine(Qaj (it.1.born) _ (by omega) (by omega)).mono ?_;rintro _ w26 ⟨rfl,hx26⟩;refine⟨hx26,Hh ?_⟩;replace hxa:=hxa.trans hx26;refine⟨sz4 (by first | omega | (simp only[ByteArray.size_append,Ql,Qa2,hsp,Qz,Q9,Q3,Q7,Q5,Q8,Qy];omega)) (by first | omega | (simp only[ByteArray.size_append,Ql,Qa2,hsp,Qz,Q9,Q3,Q7,Q5,Q8,Qy];omega)),Hh ?_⟩;refine⟨sz4 (by first | omega | (simp only[ByteArray.size_append,Ql,Qa2,hsp,Qz,Q9,Q3,Q7,Q5,Q8,Qy];omega)) (by first | omega | (simp only[ByteArray.size_append,Ql,Qa2,hsp,Qz,Q9,Q3,Q7,Q5,Q8,Qy];omega)),Hh ?_⟩;rw[hle,ByteArray.append_assoc,← htk];refine Gg ?_;refine⟨_,wrap_succ (by omega),Gg ?_⟩
   exact⟨k+1,by omega,⟨by omega,hxa⟩,Rr⟩
 intro hge;have hge:N.length≤k:=by simpa using hge
 rw[List.take_of_length_le hge];replace hx:=hx.trans hx19;replace h3:=h3.ext hx19;clear hge hx19 hk hTd hTb hs10 hs9;have hS1:(S1++Xk (N.map (thD z t))).size=S1.size+(Xk (N.map (thD z t))).size:=ByteArray.size_append;generalize S1++Xk (N.map (thD z t))=S2 at hS1 ⊢;refine Gg ?_;refine⟨.int .i64 c.half,h3.one rfl,Gg ?_⟩;refine(Qrs z A cap c.half w19 (hs.ext hx) (by omega) hm).mono ?_;rintro _ w20 ⟨pp,rfl,hC,hx20⟩;refine Gg ?_;have hfl:=List.length_filter_le wpB z
 have hAok:∀ x∈(z.filter wpB).map Qln,Qp6 x:=fun x hx=>by
  obtain⟨e,he,rfl⟩:=List.mem_map.1 hx
  exact Q80 (hm e (List.mem_filter.1 he).1) (List.mem_filter.1 he).2
 refine(Qxk w20 pp c.half _ hC hAok (by rw[List.length_map];omega) hc1 t hnow 1048576 (by omega)).mono ?_;rintro _ w21 ⟨A21,c21,O,rfl,hsO,hO,hOs,hx21⟩;have hOe:=Q8h hm (by omega) c.half t hO hOs;have hin:∀ x∈O,Qm x.1=true∧0<x.2∧x.2≤1099511627776:=fun x hx=>Qsb hm (by omega) (Qf4.1 (hOe ▸ hx))
 have hOl:O.length≤z.length:=by rw[hOe,Qhr];exact Qsc z c.half t
 refine Gg ?_;refine(Qle Qdj O A21 c21 w21 hsO (by decide) (by omega) fun x hx=>⟨by have:=Xr (hin x hx).1;omega,by have:=hin x hx;omega,by have:=hin x hx;omega⟩).mono ?_;rintro _ w22 ⟨rfl,hx22⟩
 have hpl:Xk (O.map (Qsj Qdj))=Xk ((Qdr (Qcw (Qo c.width z).ds (Qw c.half) t)).map Qoi):=by
  rw[(Qdb c.width z).1,hh,hOe]
  exact Q45 hm (by omega) c.half t
 rw[hpl];clear hpl hin hOl hOe hO hOs hsO hC hAok;replace hx:=((hx.trans hx20).trans hx21).trans hx22;replace h3:=((h3.ext hx20).ext hx21).ext hx22;clear hx20 hx21 hx22;generalize Xk ((Qdr (Qcw (Qo c.width z).ds (Qw c.half) t)).map Qoi)=PP at htot ⊢;refine Gg ?_;refine⟨sz4 (by first | omega | (simp only[ByteArray.size_append,Ql,Qa2,hsp,Qz,Q9,Q3,Q7,Q5,Q8,Qy];omega)) (by first | omega | (simp only[ByteArray.size_append,Ql,Qa2,hsp,Qz,Q9,Q3,Q7,Q5,Q8,Qy];omega)),Gg ?_⟩;have hS1:(S2++PP).size=S2.size+(PP).size:=ByteArray.size_append;generalize S2++PP=S3 at hS1 ⊢;refine⟨.int .i64 c.width,h3.one rfl,Gg ?_⟩;refine(Qxe z A cap c.width hc2 w22 (hs.ext hx) (by omega) hm).mono ?_;rintro _ w23 ⟨p9,rfl,hP9,hx23⟩;replace hx:=hx.trans hx23;replace h3:=h3.ext hx23;clear hx23;refine Gg ?_;refine⟨.int .i64 c.width,h3.one rfl,Gg ?_⟩;refine⟨1099511627776+c.width,wrap_eq rfl ⟨by omega,by omega⟩,Gg ?_⟩
 have h9k:∀ x∈(z.filter wpB).map (s9E c.width),0≤x.2.2∧x.2.2≤1048576:=fun x hx=>by
  obtain⟨e,he,rfl⟩:=List.mem_map.1 hx;have:=Qdw (hm e (List.mem_filter.1 he).1);show 0≤Qv e∧Qv e≤1048576
  omega
 have h9l:((z.filter wpB).map (s9E c.width)).length<1000:=by rw[List.length_map];omega
 refine(Qxf w23 p9 c.width _ hP9 hc2 h9k h9l 0 (1099511627776+c.width) ⟨by omega,by omega⟩ ⟨by omega,by omega⟩).mono ?_;rw[Q1u hm c.width hc2];rintro _ w24 ⟨A24,c24,rfl,hs24,hx24⟩;have hps:=(Qdb c.width z).2.1;have hkw:Qcj (Qg0 c.width (z.filter wpB)) (0/c.width) ((1099511627776+c.width)/c.width)=Qcj (Qo c.width z).ps (0/Qw c.width) ((1099511627776+c.width)/Qw c.width):=by rw[hps,hw2]
 have hkn:∀ x∈Qcj (Qg0 c.width (z.filter wpB)) (0/c.width) ((1099511627776+c.width)/c.width),Qm x=true:=fun x hx=>Qq1 hm hx
 have hkl:=Qm8 z c.width (0/c.width) ((1099511627776+c.width)/c.width);have hpn:=fun key=>Qrj hm (by omega) c.width key (0/Qw c.width) ((1099511627776+c.width)/Qw c.width)
 rw[hkw] at hkn hkl hs24 ⊢;generalize Qcj (Qo c.width z).ps (0/Qw c.width) ((1099511627776+c.width)/Qw c.width)=N at hs24 hkn hkl htot ⊢;replace hP9:=hP9.ext hx24;replace hx:=hx.trans hx24;replace h3:=h3.ext hx24;clear hx24 hkw;have h0:S3++Xk ((N.take 0).map (Qdl z c))=S3:=X8 S3;refine Gg ?_
 refine Qd Qa (fun(k:Nat) w'=>k≤N.length∧Ext w24 w')
  (fun k => [(1,.slice A z.length cap),(2,.int .i64 t),(3,.pointer (some ⟨b3,0,none⟩)),(7,.string (S3++Xk ((N.take k).map (Qdl z c)))),(14,.pointer (some ⟨p9,0,none⟩)),(15,.slice A24 N.length c24),(16,.int .i64 (k:Nat))]) (fun k=>N.length-k) 0 ⟨Nat.zero_le _,Ext.refl _⟩ (by rw[h0];exact Rr) ?_
 clear h0;rintro k w25 ⟨hk,hx25⟩
 conv=>whnf
 constructor
 · intro hlt
   have hlt:k<N.length:=by simpa using hlt
   obtain⟨a,rfl,hca⟩:=(hs24.ext hx25).get hlt;have htk:=Xj (Qdl z c) N k hlt;have hpk:=Qah (Qdl z c) N (k+1);rw[htk,ByteArray.size_append] at hpk;have hnk:=hkn N[k] (List.getElem_mem hlt);generalize N[k]=x at hca htk hpk hnk;have hes:=congrArg ByteArray.size (Qzv S3 (z:=z) (c:=c) hnk);have hle:=fun s=>Qzv s (z:=z) (c:=c) hnk
   have hpa:pa9 ((z.filter wpB).map (s9E c.width)) x (0/c.width) ((1099511627776+c.width)/c.width)=paS (Qo c.width z).ps x (0/Qw c.width) ((1099511627776+c.width)/Qw c.width):=by rw[Q5m c.width hc2,hps,hw2]
   have hpx:=hpn x;rw[← hps] at hpx;generalize paS (Qo c.width z).ps x (0/Qw c.width) ((1099511627776+c.width)/Qw c.width)=n at hes hle hpa hpx;simp only[ByteArray.size_append,Ql,Qa2,hsp,Qz,Q9,Q3,Q7,Q5,Q8,Qy] at hes;have hb1:=Qao (n:=n) (by omega);have hxn:=Xr hnk;generalize Xk ((N.take k).map (Qdl z c))=u at htk hpk;refine Gg ?_;refine Dr .ext [0,1,2,3,4,5,6,7,8,9,10,11,12,13,14,15,16,17,18,19] [] (Hh ?_);have hxd:Ext w25 w25.drew:=(Ext.refl w25).drew;replace hx25:=hx25.trans hxd;replace hca:=hxd.cells hca;generalize w25.drew=w26 at hx25 hca ⊢;have h36:=h3.ext hx25;have h96:=hP9.ext hx25;refine⟨sz4 (by first | omega | (simp only[ByteArray.size_append,Ql,Qa2,hsp,Qz,Q9,Q3,Q7,Q5,Q8,Qy];omega)) (by first | omega | (simp only[ByteArray.size_append,Ql,Qa2,hsp,Qz,Q9,Q3,Q7,Q5,Q8,Qy];omega)),Hh ?_⟩;refine⟨a,Ix,Hh ?_⟩;refine⟨.string x,Qu hca,Hh ?_⟩;refine⟨sz4 (by first | omega | (simp only[ByteArray.size_append,Ql,Qa2,hsp,Qz,Q9,Q3,Q7,Q5,Q8,Qy];omega)) (by first | omega | (simp only[ByteArray.size_append,Ql,Qa2,hsp,Qz,Q9,Q3,Q7,Q5,Q8,Qy];omega)),Hh ?_⟩;refine⟨a,Ix,Hh ?_⟩;refine⟨.string x,Qu hca,Hh ?_⟩;refine⟨.int .i64 c.width,h36.one rfl,Hh ?_⟩;refine⟨1099511627776+c.width,wrap_eq rfl ⟨by omega,by omega⟩,Hh ?_⟩;refine(Qpu w26 p9 c.width _ h96 hc2 h9k (by omega) x 0 (1099511627776+c.width) ⟨by omega,by omega⟩ ⟨by omega,by omega⟩).mono ?_;rintro _ w27 ⟨rfl,hx27⟩;rw[hpa];refine⟨hx27,Hh ?_⟩;refine(Qaj (n) w27 (by omega) (by omega)).mono ?_;rintro _ w28 ⟨rfl,hx28⟩;refine⟨hx28,Hh ?_⟩;refine⟨sz4 (by first | omega | (simp only[ByteArray.size_append,Ql,Qa2,hsp,Qz,Q9,Q3,Q7,Q5,Q8,Qy];omega)) (by first | omega | (simp only[ByteArray.size_append,Ql,Qa2,hsp,Qz,Q9,Q3,Q7,Q5,Q8,Qy];omega)),Hh ?_⟩;refine⟨sz4 (by first | omega | (simp only[ByteArray.size_append,Ql,Qa2,hsp,Qz,Q9,Q3,Q7,Q5,Q8,Qy];omega)) (by first | omega | (simp only[ByteArray.size_append,Ql,Qa2,hsp,Qz,Q9,Q3,Q7,Q5,Q8,Qy];omega)),Hh ?_⟩;rw[hle,ByteArray.append_assoc,← htk];refine Gg ?_;refine⟨_,wrap_succ (by omega),Gg ?_⟩
   exact⟨k+1,by omega,⟨by omega,(hx25.trans hx27).trans hx28⟩,Rr⟩
 intro hge;have hge:N.length≤k:=by simpa using hge
 rw[List.take_of_length_le hge];replace hx:=hx.trans hx25;replace h3:=h3.ext hx25;clear hge hx25 hk hpn hs24 hP9 h9k h9l hkn hkl;have hS1:(S3++Xk (N.map (Qdl z c))).size=S3.size+(Xk (N.map (Qdl z c))).size:=ByteArray.size_append;generalize S3++Xk (N.map (Qdl z c))=S4 at hS1 ⊢;refine Gg ?_;refine⟨.int .i64 c.gap,h3.one rfl,Gg ?_⟩;refine(Qos z A cap c.gap hc5 w25 (hs.ext hx) (by omega) hm).mono ?_;have hsE:Qhp c.gap (Qid (z.filter wpB))=Qdg c z:=by unfold Qdg;rw[hgp]
 rw[hsE];rintro _ w26 ⟨A26,c26,T,rfl,hs26,hS26,hx26⟩;replace hx:=hx.trans hx26;replace h3:=h3.ext hx26;have hx26s:=hx26.size;clear hx26 hsE;have hQn:=fun q (hq:q∈Qdg c z)=>Qr1 hm hq
 have hQe:=Q9i c z;have hQi:=fun q (hq:q∈Qdg c z)=>Q5w hm hq
 have hQl:=fun q (hq:q∈Qdg c z)=>Xax hz hq
 have hQz:=Xaw (c:=c) (by omega) hm;have hin:=fun x (hx:x∈Qab (Qdg c z))=>Qkj hm hx
 have hil:=Qm5 c z;have hpr:=fun i a hi ha=>Q4y (S:=Qdg c z) (i:=i) (a:=a) hi ha
 have hpl:=fun a=>Qnj (Qdg c z) a
 generalize Qdg c z=Q at hS26 hQn hQe hQi hQl hQz hin hil hpr hpl htot ⊢;have hlen:=hS26.len;have h0:S4++Xk ((Q.take 0).map snD)=S4:=X8 S4;refine Gg ?_
 refine Qd Qa (fun(k:Nat) w'=>k≤T.length∧Ext w26 w')
  (fun k => [(1,.slice A z.length cap),(2,.int .i64 t),(3,.pointer (some ⟨b3,0,none⟩)),(7,.string (S4++Xk ((Q.take k).map snD))),(17,.slice A26 T.length c26),(18,.int .i64 (k:Nat))]) (fun k=>T.length-k) 0 ⟨Nat.zero_le _,Ext.refl _⟩ (by rw[h0];exact Rr) ?_
 clear h0;rintro k w27 ⟨hk,hx27⟩
 conv=>whnf
 constructor
 · intro hlt
   have hlt:k<T.length:=by simpa using hlt
   have hlq:k<Q.length:=by omega
   obtain⟨a,rfl,hca⟩:=(hs26.ext hx27).get hlt;have htk:=Xj snD Q k hlq;have hpk:=Qah snD Q (k+1);rw[htk,ByteArray.size_append] at hpk;have hsn:=(hS26.ext hx27).at_ k T[k] Q[k] (List.getElem?_eq_getElem hlt) (List.getElem?_eq_getElem hlq);have hqn:=hQn Q[k] (List.getElem_mem hlq);have hqe:=hQe Q[k] (List.getElem_mem hlq);have hqi:=hQi Q[k] (List.getElem_mem hlq);have hql:=hQl Q[k] (List.getElem_mem hlq);generalize Q[k]=q at hsn htk hpk hqn hqe hqi hql;generalize T[k]=dd at hca hsn;obtain⟨g1,g2,g3,g4,g5,_,_⟩:=hsn;obtain⟨d1,d2,d3,dA,dn,dc⟩:=dd;simp only at g1 g2 g3 g4 g5;subst g1 g2 g3 g4;have hjp:=Xby hqe hqi;have hes:=congrArg ByteArray.size (Q9e S4 hqn.1 hjp);simp only[ByteArray.size_append,Ql,Qa2,hsp,Qz,Q9,Q3,Q7,Q5,Q8,Qy] at hes;have hb1:=Qao (n:=q.from_) (by omega);have hb2:=Qao (n:=q.to_) (by omega);have hxn:=Xr hqn.1;have hle:=fun s=>Q9e s hqn.1 hjp
   generalize Xk ((Q.take k).map snD)=u at htk hpk;refine Gg ?_;refine⟨a,Ix,Gg ?_⟩;refine⟨seC (q.person,q.from_,q.to_,dA,q.items.length,dc),⟨rfl,hca⟩,Gg ?_⟩;intro b19 w28 hn28;refine Gg ?_;refine Qg Qa (e:=ty95) rfl hn28.At rfl rfl rfl (Qkv _) fun w29 h19 ho29 => ?_
   have h19:At w29 b19 95 (seC (q.person,q.from_,q.to_,dA,q.items.length,dc)):=h19;have hx29:Ext w27 w29:=ho29.ext hn28.ext (by rw[hn28.block];exact Nat.le_refl _);clear ho29 hn28;replace hx27:=hx27.trans hx29;replace g5:=g5.ext hx29;clear hx29;refine Gg ?_;refine Dr .ext [0,1,2,3,4,5,6,9,10,7,8,11,12,13,14] [] (Hh ?_);have hxd:Ext w29 w29.drew:=(Ext.refl w29).drew;replace hx27:=hx27.trans hxd;replace h19:=h19.ext hxd;replace g5:=g5.ext hxd;generalize w29.drew=w30 at hx27 h19 g5 ⊢;clear hxd;refine⟨sz4 (by first | omega | (simp only[ByteArray.size_append,Ql,Qa2,hsp,Qz,Q9,Q3,Q7,Q5,Q8,Qy];omega)) (by first | omega | (simp only[ByteArray.size_append,Ql,Qa2,hsp,Qz,Q9,Q3,Q7,Q5,Q8,Qy];omega)),Hh ?_⟩;refine⟨.string q.person,h19.one rfl,Hh ?_⟩;refine⟨sz4 (by first | omega | (simp only[ByteArray.size_append,Ql,Qa2,hsp,Qz,Q9,Q3,Q7,Q5,Q8,Qy];omega)) (by first | omega | (simp only[ByteArray.size_append,Ql,Qa2,hsp,Qz,Q9,Q3,Q7,Q5,Q8,Qy];omega)),Hh ?_⟩;refine⟨.int .i64 q.from_,h19.one rfl,Hh ?_⟩;refine⟨.int .i64 q.to_,h19.one rfl,Hh ?_⟩;refine(Qaj (q.from_) w30 (by omega) (by omega)).mono ?_;rintro _ w31 ⟨rfl,hx31⟩;refine⟨hx31,Hh ?_⟩;refine⟨sz4 (by first | omega | (simp only[ByteArray.size_append,Ql,Qa2,hsp,Qz,Q9,Q3,Q7,Q5,Q8,Qy];omega)) (by first | omega | (simp only[ByteArray.size_append,Ql,Qa2,hsp,Qz,Q9,Q3,Q7,Q5,Q8,Qy];omega)),Hh ?_⟩;refine(Qaj (q.to_) w31 (by omega) (by omega)).mono ?_;rintro _ w32 ⟨rfl,hx32⟩;refine⟨hx32,Hh ?_⟩;refine⟨sz4 (by first | omega | (simp only[ByteArray.size_append,Ql,Qa2,hsp,Qz,Q9,Q3,Q7,Q5,Q8,Qy];omega)) (by first | omega | (simp only[ByteArray.size_append,Ql,Qa2,hsp,Qz,Q9,Q3,Q7,Q5,Q8,Qy];omega)),Hh ?_⟩;refine⟨sz4 (by first | omega | (simp only[ByteArray.size_append,Ql,Qa2,hsp,Qz,Q9,Q3,Q7,Q5,Q8,Qy];omega)) (by first | omega | (simp only[ByteArray.size_append,Ql,Qa2,hsp,Qz,Q9,Q3,Q7,Q5,Q8,Qy];omega)),Hh ?_⟩;replace hx27:=(hx27.trans hx31).trans hx32;replace h19:=(h19.ext hx31).ext hx32;replace g5:=(g5.ext hx31).ext hx32;clear hx31 hx32;have hle2:=hle (S4++u);have hsz2:=congrArg ByteArray.size hle2;rw[ByteArray.size_append,ByteArray.size_append] at hsz2;have hsz3:(S4++u++snD q).size=S4.size+u.size+(snD q).size:=by rw[ByteArray.size_append,ByteArray.size_append]
   rw[hsz3] at hsz2;clear hle;generalize S4++u++⟨#[115,101,115,115,105,111,110,32]⟩++q.person++(spB++nB q.from_)++(spB++nB q.to_)++⟨#[32]⟩=hd at hle2 hsz2 ⊢;have h0:hd++jnB (q.items.take 0)=hd:=X8 hd;refine Gg ?_
   refine Qd Qa (fun(j:Nat) w'=>j≤q.items.length∧w'=w32)
    (fun j => [(1,.slice A z.length cap),(2,.int .i64 t),(3,.pointer (some ⟨b3,0,none⟩)),(7,.string (hd++jnB (q.items.take j))),(17,.slice (some a) T.length c26),(18,.int .i64 (k:Nat)),(19,.pointer (some ⟨b19,0,none⟩)),(20,.int .i64 (j:Nat))]) (fun j=>q.items.length-j) 0 ⟨Nat.zero_le _,rfl⟩ (by rw[h0];exact Rr) ?_
   clear h0;rintro j w33 ⟨hj,hw33⟩;subst hw33
   conv=>whnf
   refine⟨.slice dA q.items.length dc,h19.one rfl,Hh ?_⟩;constructor
   · intro hlt2
     have hlt2:j<q.items.length:=by simpa using hlt2
     obtain⟨a4,rfl,hc4⟩:=g5.get hlt2;have hjt:=Qwm q.items j hlt2;have hjs:=Q3x q.items (j+1);rw[hjt] at hjs;generalize q.items[j]=x at hc4 hjt hjs;generalize jnB (q.items.take j)=y at hjt hjs
     conv=>whnf
     refine Qb Qa (Hh ?_);refine Xm Qa (ι:=Unit) (fun _ => [(1,.slice A z.length cap),(2,.int .i64 t),(3,.pointer (some ⟨b3,0,none⟩)),(7,.string (hd++if 0<j then y++⟨#[44]⟩ else y)),(17,.slice (some a) T.length c26),(18,.int .i64 (k:Nat)),(19,.pointer (some ⟨b19,0,none⟩)),(20,.int .i64 (j:Nat))]) (fun _ w'=>w'=w33) ?_ ?_
     · (conv=>whnf)
       constructor
       · intro hq
         have hq:0<j:=by simpa using hq
         rw[if_pos hq] at hjs ⊢;simp only[ByteArray.size_append] at hjs
         conv=>whnf
         refine⟨sz4 (by simp only[ByteArray.size_append];omega) (by decide),Hh ?_⟩;rw[ByteArray.append_assoc]
         exact⟨(),rfl,Rr⟩
       · intro hq
         have hq:¬ 0<j:=by simpa using hq
         rw[if_neg hq]
         conv=>whnf
         exact⟨(),rfl,Rr⟩
     rintro _ w34 hw34;subst hw34;have hyj:(if 0<j then y++(⟨#[44]⟩:ByteArray) else y)++x=jnB (q.items.take (j+1)):=hjt.symm
     have hys:(if 0<j then y++(⟨#[44]⟩:ByteArray) else y).size+x.size≤(jnB q.items).size:=by
      rw[← ByteArray.size_append];exact hjs
     generalize (if 0<j then y++(⟨#[44]⟩:ByteArray) else y)=y2 at hyj hys ⊢;refine Gg ?_;refine⟨.slice (some a4) q.items.length dc,h19.one rfl,Gg ?_⟩;refine⟨a4,Ix,Gg ?_⟩;refine⟨.string x,Qu hc4,Gg ?_⟩;refine⟨sz4 (by simp only[ByteArray.size_append];omega) (by omega),Gg ?_⟩;rw[ByteArray.append_assoc,hyj];refine⟨_,wrap_succ (by omega),Gg ?_⟩
     exact⟨j+1,by omega,⟨by omega,rfl⟩,Rr⟩
   intro hge2;have hge2:q.items.length≤j:=by simpa using hge2
   rw[List.take_of_length_le hge2];refine Gg ?_;refine⟨sz4 (by simp only[ByteArray.size_append];omega) (by decide),Gg ?_⟩;rw[hle2,ByteArray.append_assoc,← htk];refine⟨_,wrap_succ (by omega),Gg ?_⟩
   exact⟨k+1,by omega,⟨by omega,hx27⟩,Rr⟩
 intro hge;have hge:T.length≤k:=by simpa using hge
 rw[List.take_of_length_le (by omega)];replace hx:=hx.trans hx27;replace h3:=h3.ext hx27;replace hs26:=hs26.ext hx27;replace hS26:=hS26.ext hx27;have s27:=hx27.size;clear hge hx27 hk hQe hQi hQn;have hS1:(S4++Xk (Q.map snD)).size=S4.size+(Xk (Q.map snD)).size:=ByteArray.size_append;generalize S4++Xk (Q.map snD)=S5 at hS1 ⊢;refine Gg ?_;refine(Qrq T Q A26 c26 w27 w25.heap.size hs26 hS26 (by omega) hQl).mono ?_;rintro _ w28 ⟨A28,c28,rfl,hs28,hx28⟩;rw[show Qbt (Q.flatMap (·.items))=Qab Q from rfl] at hs28 ⊢;replace hx:=hx.trans hx28;replace h3:=h3.ext hx28;replace hs26:=hs26.ext hx28;replace hS26:=hS26.ext hx28;clear hx28;generalize hN:Qab Q=N at hs28 hin hil hpr htot ⊢;have h0:S5++Xk ((N.take 0).map (Qb7 Q))=S5:=X8 S5;refine Gg ?_
 refine Qd Qa (fun(k:Nat) w'=>k≤N.length∧Ext w28 w')
  (fun k => [(1,.slice A z.length cap),(2,.int .i64 t),(3,.pointer (some ⟨b3,0,none⟩)),(7,.string (S5++Xk ((N.take k).map (Qb7 Q)))),(17,.slice A26 T.length c26),(21,.slice A28 N.length c28),(22,.int .i64 (k:Nat))]) (fun k=>N.length-k) 0 ⟨Nat.zero_le _,Ext.refl _⟩ (by rw[h0];exact Rr) ?_
 clear h0;rintro k w29 ⟨hk,hx29⟩
 conv=>whnf
 constructor
 · intro hlt
   have hlt:k<N.length:=by simpa using hlt
   obtain⟨a,rfl,hca⟩:=(hs28.ext hx29).get hlt;have htk:=Xj (Qb7 Q) N k hlt;have hpk:=Qah (Qb7 Q) N (k+1);rw[htk,ByteArray.size_append] at hpk;have hnk:=hin N[k] (List.getElem_mem hlt);have hpd:=hpr k N[k] hlt rfl;rw[hpd] at htk hpk;have hNk:∃ x,N[k]=x:=⟨_,rfl⟩;obtain⟨x,hNx⟩:=hNk;rw[hNx] at hca htk hpk hnk hpd;generalize Xk ((N.take k).map (Qb7 Q))=u at htk hpk;refine Gg ?_;refine⟨_,wrap_succ (by omega),Gg ?_⟩
   have h0:S5++u++Xk ((((N.take (k+1)).drop (k+1)).filter (fun b=>decide (0<Qa7 Q x b))).map (Qiy Q x))=S5++u:=by
    rw[List.drop_of_length_le (by rw[List.length_take];omega)]
    exact X8 _
   refine Qd Qa (fun(j:Nat) w'=>(k+1≤j∧j≤N.length)∧Ext w29 w')
    (fun j => [(1,.slice A z.length cap),(2,.int .i64 t),(3,.pointer (some ⟨b3,0,none⟩)),(7,.string (S5++u++Xk ((((N.take j).drop (k+1)).filter (fun b=>decide (0<Qa7 Q x b))).map (Qiy Q x)))),(17,.slice A26 T.length c26),(21,.slice (some a) N.length c28),(22,.int .i64 (k:Nat)),(23,.int .i64 (j:Nat))]) (fun j=>N.length-j) (k+1) ⟨⟨Nat.le_refl _,hlt⟩,Ext.refl _⟩ (by rw[h0];exact Rr) ?_
   clear h0;rintro j w30 ⟨⟨hj0,hj⟩,hx30⟩
   conv=>whnf
   constructor
   · intro hlt2
     have hlt2:j<N.length:=by simpa using hlt2
     have hdt:=Qon N hj0 hlt2;have hcb:=(((hs28.ext hx29).ext hx30).get hlt2);have hnj:=hin N[j] (List.getElem_mem hlt2);have hsub:=Q1i Q x N (k+1) (j+1);rw[hdt] at hsub;obtain⟨y,hNy⟩:∃ y,N[j]=y:=⟨_,rfl⟩;rw[hNy] at hcb hnj hsub hdt;have hdf:((N.take (j+1)).drop (k+1)).filter (fun b=>decide (0<Qa7 Q x b))=((N.take j).drop (k+1) ++ [y]).filter (fun b=>decide (0<Qa7 Q x b)):=by rw[hdt]
     have hplb:=hpl x y;have hes:=congrArg ByteArray.size (Qzt S5 (S:=Q) hnk hnj);simp only[ByteArray.size_append,Ql,Qa2,hsp,Qz,Q9,Q3,Q7,Q5,Q8,Qy] at hes;have hle:=fun s=>Qzt s (S:=Q) hnk hnj
     obtain⟨a',ha',hcb⟩:=hcb;obtain rfl:a=a':=by simpa using ha'
     have hcx:=hx30.cells hca;have hs0:=(hs26.ext hx29).ext hx30;have hS0:=(hS26.ext hx29).ext hx30;refine Gg ?_;refine Dr .same [0,1,2,3,4,5,6,7,8] [9,10] (Hh ?_);have hxd:Ext w30 w30.drew:=(Ext.refl w30).drew;replace hx30:=hx30.trans hxd;replace hcx:=hxd.cells hcx;replace hcb:=hxd.cells hcb;replace hs0:=hs0.ext hxd;replace hS0:=hS0.ext hxd;generalize w30.drew=w31 at hx30 hcx hcb hs0 hS0 ⊢;clear hxd;refine⟨a,Ix,Hh ?_⟩;refine⟨.string x,Qu hcx,Hh ?_⟩;refine⟨a,Ix,Hh ?_⟩;refine⟨.string y,Qu hcb,Hh ?_⟩;refine(Qrn T Q A26 c26 x y w31 w25.heap.size hs0 hS0 (by omega) (fun q hq=>by have:=hQl q hq;omega)).mono ?_;rintro _ w32 ⟨rfl,hw32⟩;subst hw32;refine Gg ?_;constructor
     · intro hq
       have hq:0<Qa7 Q x y:=by simpa using hq
       rw[Qmv (p:=fun b=>decide (0<Qa7 Q x b)) (l:=(N.take j).drop (k+1)) (y:=y) (by simpa using hq)] at hdf hsub;rw[List.map_append,Qga] at hsub;have hq1:Xk ([y].map (Qiy Q x))=Qiy Q x y:=X8 _;rw[hq1,ByteArray.size_append] at hsub;have hb1:=Qao (n:=((Qa7 Q x y:Nat):Int)) (by omega);have hxn:=Xr hnk;have hyn:=Xr hnj;have hdq:Xk ((((N.take (j+1)).drop (k+1)).filter (fun b=>decide (0<Qa7 Q x b))).map (Qiy Q x))=Xk ((((N.take j).drop (k+1)).filter (fun b=>decide (0<Qa7 Q x b))).map (Qiy Q x))++Qiy Q x y:=by rw[hdf,List.map_append,Qga,hq1]
       generalize Xk ((((N.take j).drop (k+1)).filter (fun b=>decide (0<Qa7 Q x b))).map (Qiy Q x))=v at hdq hsub;refine Gg ?_;refine Dr .ext [0,1,2,3,4,5,6,7,8,9,10,11,12,13,14,15,16,17] [] (Hh ?_);have hxd:Ext w32 w32.drew:=(Ext.refl w32).drew;replace hx30:=hx30.trans hxd;replace hcx:=hxd.cells hcx;replace hcb:=hxd.cells hcb;generalize w32.drew=w33 at hx30 hcx hcb ⊢;clear hxd;refine⟨sz4 (by first | omega | (simp only[ByteArray.size_append,Ql,Qa2,hsp,Qz,Q9,Q3,Q7,Q5,Q8,Qy];omega)) (by first | omega | (simp only[ByteArray.size_append,Ql,Qa2,hsp,Qz,Q9,Q3,Q7,Q5,Q8,Qy];omega)),Hh ?_⟩;refine⟨a,Ix,Hh ?_⟩;refine⟨.string x,Qu hcx,Hh ?_⟩;refine⟨sz4 (by first | omega | (simp only[ByteArray.size_append,Ql,Qa2,hsp,Qz,Q9,Q3,Q7,Q5,Q8,Qy];omega)) (by first | omega | (simp only[ByteArray.size_append,Ql,Qa2,hsp,Qz,Q9,Q3,Q7,Q5,Q8,Qy];omega)),Hh ?_⟩;refine⟨sz4 (by first | omega | (simp only[ByteArray.size_append,Ql,Qa2,hsp,Qz,Q9,Q3,Q7,Q5,Q8,Qy];omega)) (by first | omega | (simp only[ByteArray.size_append,Ql,Qa2,hsp,Qz,Q9,Q3,Q7,Q5,Q8,Qy];omega)),Hh ?_⟩;refine⟨a,Ix,Hh ?_⟩;refine⟨.string y,Qu hcb,Hh ?_⟩;refine⟨sz4 (by first | omega | (simp only[ByteArray.size_append,Ql,Qa2,hsp,Qz,Q9,Q3,Q7,Q5,Q8,Qy];omega)) (by first | omega | (simp only[ByteArray.size_append,Ql,Qa2,hsp,Qz,Q9,Q3,Q7,Q5,Q8,Qy];omega)),Hh ?_⟩;refine(Qaj (((Qa7 Q x y:Nat):Int)) w33 (by omega) (by omega)).mono ?_;rintro _ w34 ⟨rfl,hx34⟩;refine⟨hx34,Hh ?_⟩;refine⟨sz4 (by first | omega | (simp only[ByteArray.size_append,Ql,Qa2,hsp,Qz,Q9,Q3,Q7,Q5,Q8,Qy];omega)) (by first | omega | (simp only[ByteArray.size_append,Ql,Qa2,hsp,Qz,Q9,Q3,Q7,Q5,Q8,Qy];omega)),Hh ?_⟩;refine⟨sz4 (by first | omega | (simp only[ByteArray.size_append,Ql,Qa2,hsp,Qz,Q9,Q3,Q7,Q5,Q8,Qy];omega)) (by first | omega | (simp only[ByteArray.size_append,Ql,Qa2,hsp,Qz,Q9,Q3,Q7,Q5,Q8,Qy];omega)),Hh ?_⟩;rw[hle,ByteArray.append_assoc,← hdq];refine Gg ?_;refine⟨_,wrap_succ (by omega),Gg ?_⟩
       exact⟨j+1,by omega,⟨⟨by omega,by omega⟩,hx30.trans hx34⟩,Rr⟩
     · intro hq
       have hq:¬ 0<Qa7 Q x y:=by simpa using hq
       rw[Qmu (p:=fun b=>decide (0<Qa7 Q x b)) (l:=(N.take j).drop (k+1)) (y:=y) (by simpa using hq)] at hdf;refine Gg ?_;refine⟨_,wrap_succ (by omega),Gg ?_⟩
       exact⟨j+1,by omega,⟨⟨by omega,by omega⟩,hx30⟩,(by rw[hdf];exact Rr)⟩
   intro hge2;have hge2:N.length≤j:=by simpa using hge2
   rw[List.take_of_length_le hge2,ByteArray.append_assoc,← htk];refine Gg ?_;refine⟨_,wrap_succ (by omega),Gg ?_⟩
   exact⟨k+1,by omega,⟨by omega,hx29.trans hx30⟩,Rr⟩
 intro hge;have hge:N.length≤k:=by simpa using hge
 rw[List.take_of_length_le hge];replace hx:=hx.trans hx29;replace h3:=h3.ext hx29;clear hge hx29 hk hpr hpl hs28 hs26 hS26 hin hil;have hS1:(S5++Xk (N.map (Qb7 Q))).size=S5.size+(Xk (N.map (Qb7 Q))).size:=ByteArray.size_append;generalize S5++Xk (N.map (Qb7 Q))=S6 at hS1 ⊢;refine Gg ?_;refine(Q1w z A cap w29 (hs.ext hx) hcap (by omega) hm).mono ?_;rintro _ w30 ⟨A30,c30,Dd,rfl,hs30,hT30,hD30,hx30⟩;replace hx:=hx.trans hx30;replace h3:=h3.ext hx30;clear hx30;refine Gg ?_;refine(Qor Dd (Qhj z) A30 c30 w30 hs30 hT30 (by omega)).mono ?_;rw[Q1k];rintro _ w31 ⟨A31,c31,rfl,hs31,hx31⟩;replace hx:=hx.trans hx31;replace h3:=h3.ext hx31;replace hs30:=hs30.ext hx31;replace hT30:=hT30.extR hx31;clear hx31;have hpn:=fun x (hx:x∈Qtw z)=>Qrk hm hx
 have hpl:=Qw7 z;have hrk:=Q8e z hm;generalize Qtw z=N at hs31 hpn hpl htot ⊢;have h0:S6++Xk ((N.take 0).map (Qec z c t))=S6:=X8 S6;refine Gg ?_
 refine Qd Qa (fun(k:Nat) w'=>k≤N.length∧Ext w31 w')
  (fun k => [(2,.int .i64 t),(3,.pointer (some ⟨b3,0,none⟩)),(7,.string (S6++Xk ((N.take k).map (Qec z c t)))),(25,.slice A30 Dd.length c30),(26,.slice A31 N.length c31),(27,.int .i64 (k:Nat))]) (fun k=>N.length-k) 0 ⟨Nat.zero_le _,Ext.refl _⟩ (by rw[h0];exact Rr) ?_
 clear h0;rintro k w32 ⟨hk,hx32⟩
 conv=>whnf
 constructor
 · intro hlt
   have hlt:k<N.length:=by simpa using hlt
   obtain⟨a,rfl,hca⟩:=(hs31.ext hx32).get hlt;have htk:=Xj (Qec z c t) N k hlt;have hpk:=Qah (Qec z c t) N (k+1);rw[htk,ByteArray.size_append] at hpk;have hnk:=hpn N[k] (List.getElem_mem hlt);generalize N[k]=x at hca htk hpk hnk;have hxn:=Xr hnk;have hs0:=hs30.ext hx32;have hT0:=hT30.extR hx32;have h30:=h3.ext hx32;generalize Xk ((N.take k).map (Qec z c t))=u at htk hpk;refine Gg ?_;refine Dr .ext [0,1,2,3,4,5,6,7,8,9,10,11,12,13,14,15,16,17] [] (Hh ?_);have hxd:Ext w32 w32.drew:=(Ext.refl w32).drew;replace hx32:=hx32.trans hxd;replace hca:=hxd.cells hca;replace hs0:=hs0.ext hxd;replace hT0:=hT0.extR hxd;replace h30:=h30.ext hxd;generalize w32.drew=w33 at hx32 hca hs0 hT0 h30 ⊢;refine⟨a,Ix,Hh ?_⟩;refine⟨.string x,Qu hca,Hh ?_⟩;refine⟨sz4 (by first | omega | (simp only[ByteArray.size_append,Ql,Qa2,hsp,Qz,Q9,Q3,Q7,Q5,Q8,Qy];omega)) (by first | omega | (simp only[ByteArray.size_append,Ql,Qa2,hsp,Qz,Q9,Q3,Q7,Q5,Q8,Qy];omega)),Hh ?_⟩;refine⟨.int .i64 c.half,h30.one rfl,Hh ?_⟩;refine⟨a,Ix,Hh ?_⟩;refine⟨.string x,Qu hca,Hh ?_⟩;refine(Qrt Dd (Qhj z) c.half t x A30 c30 w33 hs0 hT0 (by omega) hrk hc1 hnow).mono ?_;rintro _ w34 ⟨A34,c34,L,rfl,hs34,hCL,_,hLo,hx34⟩;obtain⟨hte,hLl,hLn⟩:=Qx8 hr hm (by omega) c hc1 t hnk hCL hLo;refine⟨hx34,Hh ?_⟩;rw[Qxj x];refine(Qle (Qe6++spB++x) L A34 c34 w34 hs34 (by have:Qe6.size=5:=rfl;rw[ByteArray.size_append,ByteArray.size_append];omega) (by omega) fun y hy=>⟨by have:=Xr (hLn y hy).1;omega,by have:=hLn y hy;omega,by have:=hLn y hy;omega⟩).mono ?_;rintro _ w35 ⟨rfl,hx35⟩;rw[hte];refine⟨hx35,Hh ?_⟩;refine⟨sz4 (by first | omega | (simp only[ByteArray.size_append,Ql,Qa2,hsp,Qz,Q9,Q3,Q7,Q5,Q8,Qy];omega)) (by first | omega | (simp only[ByteArray.size_append,Ql,Qa2,hsp,Qz,Q9,Q3,Q7,Q5,Q8,Qy];omega)),Hh ?_⟩;rw[ByteArray.append_assoc,← htk];refine Gg ?_;refine⟨_,wrap_succ (by omega),Gg ?_⟩
   exact⟨k+1,by omega,⟨by omega,(hx32.trans hx34).trans hx35⟩,Rr⟩
 intro hge;have hge:N.length≤k:=by simpa using hge
 rw[List.take_of_length_le hge];refine Gg ?_
 exact⟨rfl,hx.trans hx32⟩
end Go.Proofs.YtdahooejkjcjiaaGreatDoor
