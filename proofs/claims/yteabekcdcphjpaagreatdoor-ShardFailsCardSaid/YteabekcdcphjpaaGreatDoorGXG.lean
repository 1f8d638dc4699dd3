/- Several texts in one: Rf5, Rg1, Rg2, Rg3, Rg4, Rg5, Rg6. -/
import Derived.Test.YteabekcdcphjpaaGreatDoorHRf4
import Derived.Test.YteabekcdcphjpaaGreatDoorGM
import Derived.Test.YteabekcdcphjpaaGreatDoorGXB
import Derived.Test.YteabekcdcphjpaaGreatDoorGXC
set_option linter.unusedVariables false
set_option linter.unusedSimpArgs false
namespace Go.Proofs.YteabekcdcphjpaaGreatDoor
open Go.Se Go.RowKit
theorem Q8p:∀ z:List Ev,(∀ e∈z,Xp e=true)->∀ r∈Qha z,Xp r.1=true/\r.2.length<=8:=by
 refine Xf (fun _ r hr=>by simp[Qha,Q15] at hr) fun z e ih hm r hr => ?_
 rw[Qej] at hr;rcases List.mem_append.1 hr with hr | hr
 . exact ih (fun x hx=>hm x (by simp[hx])) r hr
 . split at hr
   . rw[List.mem_singleton] at hr
     subst hr;refine⟨hm e (by simp),?_⟩;show (Qoj (Qu z) e).length<=8
     unfold Qoj
     split
     . simp
     . exact(Qwq e.item _ fun y hy=>Qd2 (fun x hx=>hm x (by simp[hx])) y (List.mem_filter.1 hy).1).2.2
   . simp at hr
theorem Qjj {L:List Ct} (h:(L.map (·.1)).Nodup):L.Nodup :=
 (List.pairwise_map.1 h).imp fun hne e=>hne (by rw[e])
theorem Q3t {f:ByteArray->Int} {L M:List Ct} (h:Qqi f L) (k:Qqi f M):∀ x∈L,x∈M:=fun x hx=>by
 obtain⟨h1,h2⟩:=h.mem x hx;obtain⟨y,hy,he⟩:=List.mem_map.1 (k.all x.1 (by omega));have h3:=(k.mem y hy).1;have h4:y=x:=Prod.ext he (by rw[h3,he,<- h1])
 rwa [<- h4]
theorem Qza {f:ByteArray->Int} {L M:List Ct} (h:Qqi f L) (hs:Srt Qfg L) (k:Qqi f M):L=Qdm M :=
 Qsd (Qe8 (Qjj h.nodup) (Qjj k.nodup) (Q3t h k) (Q3t k h)) hs
theorem Q8w {z:List Ev} (hr:Rise z) (hm:∀ e∈z,Xp e=true) (hz:z.length<1000) (width half now:Int) (person:ByteArray):Qqi (Qsv half now (rowsOf (Qha z) person)) (Q60 half now (rowsOf (Ql width z).rs person)):=by
 have hrs:=Qf6 width z hr hm;have hrl:=Qz2 width z;have hl2:(rowsOf (Ql width z).rs person).length<=(Ql width z).rs.length:=List.length_filter_le _ _;have hg:=fun t=>Q6q half now t (rowsOf (Ql width z).rs person) (fun r hr=>⟨(hrs r (List.mem_filter.1 hr).1).1,(hrs r (List.mem_filter.1 hr).1).2.1⟩) (by omega)
 have hs:=fun t=>Q80 width half now person t z hr hm
 have hk:=Qu9 half now (rowsOf (Ql width z).rs person);refine⟨Qau (hk.sublist List.filter_sublist),fun x hx => ?_,fun t ht => ?_⟩
 . obtain⟨h1,h2⟩:=List.mem_filter.1 hx
   have h2:0<x.2:=by simpa using h2
   have h3:=Qco hk (show (x.1,x.2)∈_ from h1);have h4:=(hg x.1).1;rw[h3,hs x.1] at h4
   exact⟨h4,h2⟩
 . have h4:=(hg t).1
   rw[hs t] at h4
   cases hq:Qe (Qyi half now (rowsOf (Ql width z).rs person)) t with
   | none=>rw[hq] at h4;simp only[Option.getD_none] at h4;omega
   | some v =>
     rw[hq] at h4;simp only[Option.getD_some] at h4
     exact List.mem_map.2 ⟨(t,v),List.mem_filter.2 ⟨Qa4 hq,by simp only[decide_eq_true_eq];omega⟩,rfl⟩
theorem Qwd:∀ l:List Ev,(Qf2 l).Pairwise (fun x y=>x.1≠y.1):=by
 refine Xf (by simp[Qf2]) fun l e ih => ?_
 rw[Qm5];unfold Qp1
 split
 . exact ih
 . exact Qbk ih
theorem Xcn {z:List Ev} (hm:∀ e∈z,Xp e=true) (hz:z.length<1000) (half now:Int):Qqi (fun k=>Qoz (z.filter wpB) half k now) (Qcu (Qf2 (z.filter wpB)) half now):=by
 have hc:=fun k=>Qm3 hm hz half k now
 have hk:=Qau (Qwd (z.filter wpB));refine⟨?_,fun x hx => ?_,fun t ht => ?_⟩
 . unfold Qcu
   have h1:((((Qf2 (z.filter wpB)).map (·.1)).map fun k=>((k,Qaf (Qf2 (z.filter wpB)) half k now):Ct)).map (·.1)).Nodup:=by
    rw[List.map_map];have:((fun x:Ct=>x.1) ∘ fun k=>((k,Qaf (Qf2 (z.filter wpB)) half k now):Ct))=id:=rfl;rw[this,List.map_id]
    exact hk
   exact h1.sublist (List.filter_sublist.map _)
 . unfold Qcu at hx
   obtain⟨h1,h2⟩:=List.mem_filter.1 hx;obtain⟨k,_,rfl⟩:=List.mem_map.1 h1
   exact⟨(hc k).1,by simpa using h2⟩
 . have ht:0<Qoz (z.filter wpB) half t now:=ht
   rw[<- (hc t).1] at ht;unfold Qcu;refine List.mem_map.2 ⟨(t,Qaf (Qf2 (z.filter wpB)) half t now),List.mem_filter.2 ⟨List.mem_map.2 ⟨t,?_,rfl⟩,by simpa using ht⟩,rfl⟩;rw[Qjh]
   cases hq:Qe (Qf2 (z.filter wpB)) t with
   | some r=>rfl
   | none =>
     unfold Qaf at ht;rw[hq] at ht
     exact absurd (show (0:Int)<0 from ht) (by decide)
theorem Q5b {z:List Ev} (hm:∀ e∈z,Xp e=true) (width lo hi:Int):Qbp (((z.filter wpB).map (·.item)).filter fun k=>decide (0<paS (Qgs width (z.filter wpB)) k lo hi))=Qch (Qgs width (z.filter wpB)) lo hi:=by
 have hb:=(Qdq width z hm).ps;rw[(Qb6 width z).2.1] at hb
 have:∀ x,x∈((z.filter wpB).map (·.item)).filter (fun k=>decide (0<paS (Qgs width (z.filter wpB)) k lo hi))↔x∈Qch (Qgs width (z.filter wpB)) lo hi:=fun x=>by
  rw[Qtq hb,List.mem_filter,decide_eq_true_eq];refine⟨fun h=>h.2,fun h=>⟨?_,h⟩⟩;have h2:=(Qtq hb).2 h;unfold Qch at h2;rw[X7] at h2;obtain⟨y,hy,rfl⟩:=List.mem_map.1 h2;obtain⟨e,he,hi⟩:=(Qru width _).2 y (List.mem_filter.1 hy).1
  exact List.mem_map.2 ⟨e,he,hi⟩
 refine(Qkz this).trans ?_;unfold Qch
 exact Qui _
theorem Q71 {cs:List Ev} (h:Rise cs) (t:Int) (name:ByteArray):Qff cs t name=(Qjb name (cs.filter (thQ name t))).listed:=by
 unfold Qff;rw[Qi3 h];simp only;unfold Qjb
 cases cs.filter (thQ name t) with
 | nil=>rfl
 | cons a l=>simp
theorem Q1w (z:List Ev):Qbp ((Qha z).map fun r=>r.1.person)=Qt7 z:=by
 unfold Qt7;rw[<- Q5z,List.map_map];rfl
theorem Qmk:Qbp [] = []:=List.eq_nil_of_length_eq_zero (Nat.le_zero.1 (Qgi []))
theorem Qnm {α:Type} (f:α->ByteArray) (P:ByteArray->Bool) (l:List α) (k:Nat) (h:k<l.length):Qbp (((l.take (k+1)).map f).filter P)=if P (f l[k])=true then Qez bLt (Qbp (((l.take k).map f).filter P)) (f l[k]) else Qbp (((l.take k).map f).filter P):=by
 rw[Xl l k h,List.map_append,List.filter_append,List.map_cons,List.map_nil]
 by_cases hq:P (f l[k])=true
 . rw[if_pos hq,List.filter_cons_of_pos hq,List.filter_nil,Qq9]
 . rw[if_neg hq,List.filter_cons_of_neg hq,List.filter_nil,List.append_nil]
theorem Qrb {α:Type} (f:α->ByteArray) (P:ByteArray->Bool) (l:List α):(Qbp ((l.map f).filter P)).length<=l.length:=by
 have h1:=Qgi ((l.map f).filter P);have h2:=List.length_filter_le P (l.map f);rw[List.length_map] at h2;omega
theorem Qvz {α:Type} (p:α->Bool) (f:α->ByteArray) (l:List α):Xk (l.map fun x=>if p x=true then f x else⟨#[]⟩)=Xk ((l.filter p).map f):=by
 induction l with
 | nil=>rfl
 | cons x l ih =>
   rw[List.map_cons,List.filter_cons]
   cases h:p x with
   | true =>
     show (if true=true then f x else _)++Xk _=Xk ((x :: l.filter p).map f)
     rw[if_pos rfl,ih];rfl
   | false =>
     show (if false=true then f x else _)++Xk _=Xk ((l.filter p).map f)
     rw[if_neg (by decide),Qs1,ih]
theorem Qw1 {S:List Sn} {i:Nat} {a:ByteArray} (hi:i<(Qac S).length) (ha:(Qac S)[i]=a):(Qdf S a).filter (fun b=>bLt a b)=((Qac S).drop (i+1)).filter (fun b=>decide (0<Qa9 S a b)):=by
 have hs:SG bLt (Qac S):=Qb3 _;have hn:SG bLt (Qdf S a):=Qb3 _;refine Qjs Qmn (List.Pairwise.sublist List.filter_sublist hn) (List.Pairwise.sublist List.filter_sublist (List.Pairwise.sublist (List.drop_sublist _ _) hs)) fun x => ?_
 have hsp:Qac S=(Qac S).take i++a :: (Qac S).drop (i+1):=by
  rw[<- ha,List.getElem_cons_drop,List.take_append_drop]
 have hp:SG bLt ((Qac S).take i++a :: (Qac S).drop (i+1)):=by rw[<- hsp];exact hs
 obtain⟨_,h2,h3⟩:=List.pairwise_append.1 hp;have h2:=(List.pairwise_cons.1 h2).1
 have hin:x∈Qac S↔x∈(Qac S).take i\/x=a\/x∈(Qac S).drop (i+1):=by
  conv=>lhs;rw[hsp]
  rw[List.mem_append,List.mem_cons]
 have hmem:x∈Qdf S a↔a≠x/\0<Qa9 S a x:=by unfold Qdf;rw[X7,Qmh]
 rw[List.mem_filter,List.mem_filter,hmem,decide_eq_true_eq];constructor
 . rintro ⟨⟨_,h4⟩,h5⟩
   refine⟨?_,h4⟩;have h6:x∈Qac S:=X7.2 (Q46 h4);rcases hin.1 h6 with h | h | h
   . have h7:=h3 x h a (by simp)
     have h8:=Qaw h5 h7;rw[X6] at h8;cases h8
   . rw[h,X6] at h5;cases h5
   . exact h
 . rintro ⟨h4,h5⟩
   have h6:=h2 x h4;refine⟨⟨fun e => ?_,h5⟩,h6⟩;rw[<- e,X6] at h6;cases h6
def Qir (S:List Sn) (a b:ByteArray):ByteArray:=Qci [Qj3,a,b,nB (Qa9 S a b)]
theorem Q5a {S:List Sn} {i:Nat} {a:ByteArray} (hi:i<(Qac S).length) (ha:(Qac S)[i]=a):Qb2 S a=Xk ((((Qac S).drop (i+1)).filter (fun b=>decide (0<Qa9 S a b))).map (Qir S a)):=by
 rw[<- Qw1 hi ha]
 exact Qvz (fun b=>bLt a b) (Qir S a) (Qdf S a)
theorem Qhg {s:ByteArray} (h:1<=s.size):Xv s=s:=by
 unfold Xv;have:s≠⟨#[]⟩:=fun e=>by rw[e] at h;exact absurd h (by decide)
 rw[decide_eq_false this];rfl
theorem Qd0 {s:ByteArray} (h:Qn s=true):Xv s=s:=Qhg (Xu h).1
theorem Xcj (n:Int):1<=(nB n).size:=by
 unfold nB Qqz;rw[Qdi]
 by_cases h:n.toNat<10
 . rw[Lib.decDigits_one h];simp
 . rw[Ql8 (by omega)];simp
theorem Qn5 (n:Int):Xv (nB n)=nB n:=Qhg (Xcj n)
theorem Qfa {s:ByteArray} {x:UInt8} {l:List UInt8} (h:s=⟨(x :: l).toArray⟩):Xv s=s:=Qhg (by rw[h];show 1<=(x :: l).toArray.size;simp)
def Qst (head:ByteArray) (x:Ct):ByteArray:=head++spB++x.1++(spB++nB x.2)++nlB
theorem Q8h {x:Ct} (h:Qn x.1=true):Qou x=Qst Qde x:=by
 unfold Qou Qci Qb5 Qst;simp only[List.map_cons,List.map_nil,Xk,Qd0 h,Qn5,Qfa (s:=Qde) rfl,ByteArray.append_assoc,X8]
theorem Q2w {person:ByteArray} {x:Ct} (hp:Qn person=true) (h:Qn x.1=true):Qf1 person x=Qst (Qe2++spB++person) x:=by
 unfold Qf1 Qci Qb5 Qst;simp only[List.map_cons,List.map_nil,Xk,Qd0 h,Qd0 hp,Qn5,Qfa (s:=Qe2) rfl,ByteArray.append_assoc,X8]
theorem Q7h (c:Cfg):Q27 c=Qh7++(spB++nB c.half)++(spB++nB c.width)++(spB++nB c.gap)++(spB++nB c.span)++(spB++nB c.floor)++(spB++nB c.crowd)++nlB:=by
 unfold Q27 Qci Qb5;simp only[List.map_cons,List.map_nil,Xk,Qn5,Qfa (s:=Qh7) rfl,ByteArray.append_assoc,X8]
theorem Q99 {e:Ev} (h:1<=(Qfs e).size):evD e=Qhl++spB++Qfs e++nlB:=by
 unfold evD Qci Qb5;simp only[List.map_cons,List.map_nil,Xk,Qhg h,Qfa (s:=Qhl) rfl,ByteArray.append_assoc,X8]
theorem Xbh {z:List Ev} {now:Int} {name:ByteArray} (h:Qn name=true):thD z now name=Qhm++spB++name++spB++Xv (X5 (Qu z) name now).1.maker++spB++Xv (X5 (Qu z) name now).1.tags++(spB++nB (X5 (Qu z) name now).1.price)++(spB++nB (X5 (Qu z) name now).1.stock)++(spB++nB (X5 (Qu z) name now).1.born)++nlB:=by
 unfold thD Qci Qb5;simp only[List.map_cons,List.map_nil,Xk,Qd0 h,Qn5,Qfa (s:=Qhm) rfl,ByteArray.append_assoc,X8]
theorem Q5c {z:List Ev} {c:Cfg} {key:ByteArray} (h:Qn key=true):Qdg z c key=Qlr++spB++key++(spB++nB (paS (Ql c.width z).ps key (0/Qv c.width) ((1099511627776+c.width)/Qv c.width)))++nlB:=by
 unfold Qdg Qci Qb5;simp only[List.map_cons,List.map_nil,Xk,Qd0 h,Qn5,Qfa (s:=Qlr) rfl,ByteArray.append_assoc,X8]
theorem Xa5 {q:Sn} (h:Qn q.person=true) (hj:1<=(jnB q.items).size):snD q=Qd3++spB++q.person++(spB++nB q.from_)++(spB++nB q.to_)++spB++jnB q.items++nlB:=by
 unfold snD Qci Qb5;simp only[List.map_cons,List.map_nil,Xk,Qd0 h,Qn5,Qhg hj,Qfa (s:=Qd3) rfl,ByteArray.append_assoc,X8]
theorem Q47 {S:List Sn} {a b:ByteArray} (ha:Qn a=true) (hb:Qn b=true):Qir S a b=Qj3++spB++a++spB++b++(spB++nB (Qa9 S a b))++nlB:=by
 unfold Qir Qci Qb5;simp only[List.map_cons,List.map_nil,Xk,Qd0 ha,Qd0 hb,Qn5,Qfa (s:=Qj3) rfl,ByteArray.append_assoc,X8]
theorem Xal (l:List ByteArray) (x:ByteArray):jnB (l ++ [x])=if l = [] then x else jnB l++⟨#[44]⟩++x:=by
 unfold jnB;rw[List.map_append,List.map_cons,List.map_nil]
 cases l with
 | nil=>rw[if_pos rfl];apply ByteArray.ext;simp[Lib.join]
 | cons y l =>
   rw[if_neg (by simp)]
   apply ByteArray.ext
   rw[ByteArray.data_append,ByteArray.data_append,List.map_cons,List.cons_append,Lib.join_cons,Lib.join_cons];unfold Lib.joinTail
   simp
theorem Xae (e:Ev) (h:Qn e.src=true):1<=(Qfs e).size:=by
 have:=(Xu h).1;unfold Qfs;simp only[ByteArray.size_append];omega
set_option maxHeartbeats 1000000 in
theorem Qxo (l:List ByteArray) (s:ByteArray) (A:Option Addr) (c:Nat) (w:World) (hs:SlT w A l) (hl:l.length<1000000) (hcap:l.length<=c) :
 Cal Tryz.prog 114 [.slice A l.length c,.string s] w fun r w'=>∃ A' c',r = .slice A' (Qez bLt l s).length c'/\(Qez bLt l s).length<=c'/\SlT w' A' (Qez bLt l s)/\(A'=A\/∀ a,A'=some a->w.heap.size<=a.block/\a.block<w'.heap.size/\a.spot=none)/\Ext w w':=by
 refine Fi Tryz.func114 rfl _ rfl rfl (Hh ?_)
 refine Qd Qa (fun(k:Nat) w'=>k<=l.length/\w'=w/\∀ x∈l.take k,bLt x s=true)
  (fun k => [(0,.slice A l.length c),(1,.string s),(5,.int .i64 k)]) (fun k=>l.length-k) 0 ⟨by omega,rfl,by simp⟩ Rr ?_
 rintro k w1 ⟨hk,hw1,hall⟩;replace hw1:=hw1.symm;subst hw1
 obtain⟨a1,x1,hk1⟩:∃ a1 x1,k<l.length->A=some a1/\l[k]? = some x1/\w.cell? (a1.add (k*1))=some (.string x1):=by
  by_cases hh:k<l.length
  . obtain⟨a1,h1,h2⟩:=hs.get hh
    exact⟨a1,l[k],fun _=>⟨h1,List.getElem?_eq_getElem hh,Qp h2⟩⟩
  . exact⟨⟨0,0,none⟩,s,fun h=>absurd h hh⟩
 have hd:∀ {p:Nat},decide ((p:Int)<(l.length:Int))=true->p<l.length:=fun h=>by simpa using h
 conv=>whnf
 refine⟨a1,fun hg=>⟨(hk1 (hd hg)).1,by omega,by have:=hd hg;omega⟩,Hh ?_⟩;refine⟨.string x1,fun hg=>(hk1 (hd hg)).2.2,Hh ?_⟩;constructor
 . intro hc
   have hc:(decide ((k:Int)<(l.length:Int))&&bLt x1 s)=true:=hc;rw[Bool.and_eq_true] at hc;have hlt:=hd hc.1;have htk:=Xl l k hlt;have hxe:l[k]=x1:=by have:=(hk1 hlt).2.1;rw[List.getElem?_eq_getElem hlt] at this;simpa using this
   conv=>whnf
   refine⟨_,wrap_succ (by omega),Hh ?_⟩;refine⟨k+1,by omega,⟨by omega,rfl,fun y hy => ?_⟩,Rr⟩;rw[htk,hxe] at hy;rcases List.mem_append.1 hy with hy | hy
   . exact hall y hy
   . simp at hy;subst hy;exact hc.2
 . intro hc
   have hc:(decide ((k:Int)<(l.length:Int))&&bLt x1 s)=false:=hc
   have hend:k=l.length\/∃ x,l[k]? = some x/\bLt x s=false:=by
    by_cases hh:k<l.length
    . refine .inr ⟨x1,(hk1 hh).2.1,?_⟩
      have:decide ((k:Int)<(l.length:Int))=true:=by simpa using hh
      rw[this] at hc
      simpa using hc
    . exact .inl (by omega)
   obtain⟨t1,t2⟩:=Qcc (p:=fun x=>bLt x s) hk hall hend
   conv=>whnf
   refine⟨a1,fun hg=>⟨(hk1 (hd hg)).1,by omega,by have:=hd hg;omega⟩,Hh ?_⟩;refine⟨.string x1,fun hg=>(hk1 (hd hg)).2.2,Hh ?_⟩;constructor
   . intro hq
     have hq:(decide ((k:Int)<(l.length:Int))&&decide (x1=s))=true:=hq;rw[Bool.and_eq_true,decide_eq_true_eq (p:=x1=s)] at hq;have hin:Qez bLt l s=l:=Qnf t2 (by rw[(hk1 (hd hq.1)).2.1,hq.2]);rw[hin]
     conv=>whnf
     exact⟨A,c,rfl,hcap,hs,.inl rfl,Ext.refl _⟩
   . intro hq
     have hq:(decide ((k:Int)<(l.length:Int))&&decide (x1=s))=false:=hq
     have hne:l[k]? ≠ some s:=fun e=>by
      have hlt:k<l.length:=(List.getElem?_eq_some_iff.1 e).1;have h1:=(hk1 hlt).2.1;rw[e] at h1;have h2:s=x1:=by simpa using h1
      have h3:decide ((k:Int)<(l.length:Int))=true:=by simpa using hlt
      rw[h3,h2] at hq
      simp at hq
     rw[Qja t1 t2 hne];clear hk1 hc hq hend t1 t2 hall hne;have hsk:=Xt (Qfj hs k) 0 c (by rw[List.length_take];omega);have hsd:=Xt hs k c hcap;rw[List.drop_zero] at hsk;have hkm:k=(l.take k).length:=by rw[List.length_take];omega
     have hdl:l.length-k=(l.drop k).length:=by rw[List.length_drop]
     have htot:(l.take k).length+(l.drop k).length=l.length:=by rw[List.length_take,List.length_drop];omega
     generalize l.take k=T at hsk hkm htot ⊢;generalize l.drop k=D at hsd hdl htot ⊢
     conv=>whnf
     refine Qcl (.mods (fun k=>w.heap.size<=k)) (Pl.seq [1,2,3,5,8,9,10] (Pl.two 0 (Pl.seq [] (Pl.two 4 (Pl.seq [6,7,11,12] Pl.done) 6 (Pl.seq [4,7,11,12] Pl.done))) 6 (Pl.seq [0,4,7,11,12] Pl.done))) (by intro h;cases h) Qa mixed (by kernel_rfl) (Hh ?_);have hx3:=(Ext.refl w).drew;generalize w.drew=w3 at hx3 ⊢;refine⟨⟨by omega,by omega,by omega,by omega⟩,Hh ?_⟩;refine⟨⟨by omega,by omega,by omega,by omega⟩,Hh ?_⟩;have hE:=hx3;refine⟨?_,?_⟩
     . intro b6 w6 hn6
       have o6:=(Xa).made (base:=w.heap.size) hn6 hE.size;have hE:=hE.trans hn6.ext;refine⟨Mod.of_ext hn6.ext,Hh ?_⟩;refine⟨?_,?_⟩
       . refine Qi Xa (l := []) (news:=T) rfl o6 (hkm) ((hsk).ext hE) (by simp;omega) hE.size fun A7 c7 w7 hown7 hg7 hA7 => ?_
         have hE:=Qh hE hg7 (Qs o6);refine⟨Qo hg7 (Qs o6),Hh ?_⟩;intro b8 w8 hn8;have h8:=(Xa).new1 (x:=s) hn8;have hown7:=hown7.ext hn8.ext;have hE:=hE.trans hn8.ext;refine⟨Mod.of_ext hn8.ext,Hh ?_⟩;refine Qi Xa (l:=T) (news := [s]) rfl hown7 rfl h8 (by simp;omega) hE.size fun A9 c9 w9 hown9 hg9 hA9 => ?_
         have hE:=Qh hE hg9 (Qs hown7);refine⟨Qo hg9 (Qs hown7),Hh ?_⟩;generalize hT1:T ++ [s]=T1 at hown9 ⊢;have hT1l:T1.length=T.length+1:=by rw[<- hT1];simp
         refine Qi Xa (l:=T1) (news:=D) rfl hown9 hdl (hsd.ext hE) (by omega) hE.size fun A10 c10 w10 hown10 hg10 hA10 => ?_
         have hE:=Qh hE hg10 (Qs hown9);have hfin:T++s :: D=T1++D:=by rw[<- hT1];simp
         rw[hfin];generalize T1++D=T2 at hown10 ⊢;refine⟨Qo hg10 (Qs hown9),Hh ?_⟩
         exact⟨A10,c10,rfl,hown10.le,hown10.sl Xa.sz,.inr fun a ha=>⟨(hown10.block ha).1,(hown10.block ha).2,Qge hown10 ha⟩,hE⟩
       . intro b8 w8 hn8
         have h8:=(Xa).new1 (x:=s) hn8;have o6:=o6.ext hn8.ext;have hE:=hE.trans hn8.ext;refine⟨Mod.of_ext hn8.ext,Hh ?_⟩;refine Qi Xa (l := []) (news:=T) rfl o6 (hkm) ((hsk).ext hE) (by simp;omega) hE.size fun A7 c7 w7 hown7 hg7 hA7 => ?_
         have h8:=Qck h8 (w1:=w7) (fun a' ha'=>by
          obtain rfl:(⟨b8,0,none⟩:Addr)=a':=by simpa using ha'
          exact hg7.block b8 (by rw[hn8.block];have:=hn6.size;have:=hn8.size;omega) (fun e'=>by
           have h68:b8=b6:=by simpa using e'
           have:=hn6.size;have:=hn8.size;rw[hn6.block,hn8.block] at h68;omega))
         have hE:=Qh hE hg7 (Qs o6);refine⟨Qo hg7 (Qs o6),Hh ?_⟩;refine Qi Xa (l:=T) (news := [s]) rfl hown7 rfl h8 (by simp;omega) hE.size fun A9 c9 w9 hown9 hg9 hA9 => ?_
         have hE:=Qh hE hg9 (Qs hown7);refine⟨Qo hg9 (Qs hown7),Hh ?_⟩;generalize hT1:T ++ [s]=T1 at hown9 ⊢;have hT1l:T1.length=T.length+1:=by rw[<- hT1];simp
         refine Qi Xa (l:=T1) (news:=D) rfl hown9 hdl (hsd.ext hE) (by omega) hE.size fun A10 c10 w10 hown10 hg10 hA10 => ?_
         have hE:=Qh hE hg10 (Qs hown9);have hfin:T++s :: D=T1++D:=by rw[<- hT1];simp
         rw[hfin];generalize T1++D=T2 at hown10 ⊢;refine⟨Qo hg10 (Qs hown9),Hh ?_⟩
         exact⟨A10,c10,rfl,hown10.le,hown10.sl Xa.sz,.inr fun a ha=>⟨(hown10.block ha).1,(hown10.block ha).2,Qge hown10 ha⟩,hE⟩
     . intro b8 w8 hn8
       have h8:=(Xa).new1 (x:=s) hn8;have hE:=hE.trans hn8.ext;refine⟨Mod.of_ext hn8.ext,Hh ?_⟩;intro b6 w6 hn6;have o6:=(Xa).made (base:=w.heap.size) hn6 hE.size;have hE:=hE.trans hn6.ext;have h8:=h8.ext hn6.ext;refine⟨Mod.of_ext hn6.ext,Hh ?_⟩;refine Qi Xa (l := []) (news:=T) rfl o6 (hkm) ((hsk).ext hE) (by simp;omega) hE.size fun A7 c7 w7 hown7 hg7 hA7 => ?_
       have h8:=Qck h8 (w1:=w7) (fun a' ha'=>by
        obtain rfl:(⟨b8,0,none⟩:Addr)=a':=by simpa using ha'
        exact hg7.block b8 (by rw[hn8.block];have:=hn6.size;have:=hn8.size;omega) (fun e'=>by
         have h68:b8=b6:=by simpa using e'
         have:=hn6.size;have:=hn8.size;rw[hn6.block,hn8.block] at h68;omega))
       have hE:=Qh hE hg7 (Qs o6);refine⟨Qo hg7 (Qs o6),Hh ?_⟩;refine Qi Xa (l:=T) (news := [s]) rfl hown7 rfl h8 (by simp;omega) hE.size fun A9 c9 w9 hown9 hg9 hA9 => ?_
       have hE:=Qh hE hg9 (Qs hown7);refine⟨Qo hg9 (Qs hown7),Hh ?_⟩;generalize hT1:T ++ [s]=T1 at hown9 ⊢;have hT1l:T1.length=T.length+1:=by rw[<- hT1];simp
       refine Qi Xa (l:=T1) (news:=D) rfl hown9 hdl (hsd.ext hE) (by omega) hE.size fun A10 c10 w10 hown10 hg10 hA10 => ?_
       have hE:=Qh hE hg10 (Qs hown9);have hfin:T++s :: D=T1++D:=by rw[<- hT1];simp
       rw[hfin];generalize T1++D=T2 at hown10 ⊢;refine⟨Qo hg10 (Qs hown9),Hh ?_⟩
       exact⟨A10,c10,rfl,hown10.le,hown10.sl Xa.sz,.inr fun a ha=>⟨(hown10.block ha).1,(hown10.block ha).2,Qge hown10 ha⟩,hE⟩
def Qd6 (cs:List Ev) (t:Int) (l:List Ev):List ByteArray:=Qbp ((l.map (·.item)).filter fun x=>(Qjb x (cs.filter (thQ x t))).listed)
theorem Qtx (cs:List Ev) (t:Int) (l:List Ev) (k:Nat) (h:k<l.length):Qd6 cs t (l.take (k+1))=if(Qjb l[k].item (cs.filter (thQ l[k].item t))).listed=true then Qez bLt (Qd6 cs t (l.take k)) l[k].item else Qd6 cs t (l.take k):=by
 exact Qnm (fun x:Ev=>x.item) (fun x=>(Qjb x (cs.filter (thQ x t))).listed) l k h
theorem Qwz (cs:List Ev) (t:Int) (l:List Ev):(Qd6 cs t l).length<=l.length:=by
 unfold Qd6;have h1:=Qgi ((l.map (·.item)).filter fun x=>(Qjb x (cs.filter (thQ x t))).listed);have h2:=List.length_filter_le (fun x=>(Qjb x (cs.filter (thQ x t))).listed) (l.map (·.item));rw[List.length_map] at h2;omega
set_option maxHeartbeats 2000000 in
theorem Qr0 (cs:List Ev) (t:Int) (A:Option Addr) (c:Nat) (w:World) (hs:SlE w A cs) (hl:cs.length<100000) (hk:∀ e∈cs,thB e=true) (hm:∀ e∈cs,Xp e=true) :
 Cal Tryz.prog 53 [.slice A cs.length c,.int .i64 t] w fun r w'=>∃ A' c',r = .slice A' (Qd6 cs t cs).length c'/\SlT w' A' (Qd6 cs t cs)/\Ext w w':=by
 refine Fi Tryz.func53 rfl _ rfl rfl (Hh ?_);have h0:Qd6 cs t (cs.take 0) = []:=Qmk
 refine Qd Qa (fun(q:Nat×Option Addr×Nat×List ByteArray) w'=>q.1<=cs.length/\q.2.2.2=Qd6 cs t (cs.take q.1)/\SlT w' q.2.1 q.2.2.2/\q.2.2.2.length<=q.2.2.1/\Ext w w')
  (fun | (k,B,d,T) => [(0,.slice A cs.length c),(1,.int .i64 t),(5,.slice B T.length d),(6,.int .i64 (k:Nat))]) (fun q=>cs.length-q.1) (0,none,0,[]) ⟨Nat.zero_le _,h0.symm,Sl.nil,Nat.zero_le _,Ext.refl _⟩ Rr ?_
 clear h0;rintro ⟨k,B,d,T⟩ w1 ⟨hk1,hT,hsT,hd,hx1⟩;simp only at hk1 hT hsT hd;have hTl:=Qwz cs t (cs.take k);rw[<- hT,List.length_take] at hTl
 conv=>whnf
 constructor
 . intro hlt
   have hlt:k<cs.length:=by simpa using hlt
   obtain⟨a,rfl,hc⟩:=(hs.ext hx1).get hlt;have hst:=Qtx cs t cs k hlt;rw[<- hT] at hst;have hev:=List.getElem?_eq_getElem hlt;generalize cs[k]=e at hc hst hev;refine Gg ?_;refine⟨a,Ix,Gg ?_⟩;refine⟨.string e.item,cells_at hc (k:=5) rfl,Gg ?_⟩;refine(Qjp cs e.item t (some a) c w1 (hs.ext hx1) (by omega) hk hm).mono ?_;rintro _ w2 ⟨rfl,hx2⟩;generalize Qjb e.item (cs.filter (thQ e.item t))=it at hst ⊢;refine Gg ?_;intro b3 w3 hn3;refine Gg ?_;refine Qg Qa (e:=ty103) rfl hn3.At rfl rfl rfl (by simp[Qr,itC,Value.oneCell']) fun w4 h4 ho4 => ?_
   have h4:At w4 b3 103 (itC it):=h4;have hx4:Ext w2 w4:=ho4.ext hn3.ext (by rw[hn3.block];exact Nat.le_refl _);clear ho4 hn3;replace hsT:=(hsT.ext hx2).ext hx4;replace hx1:=(hx1.trans hx2).trans hx4;refine Gg ?_;refine⟨.bool it.listed,h4.one rfl,Gg ?_⟩;constructor
   . intro hq
     have hq:it.listed=true:=hq;rw[if_pos hq] at hst;obtain⟨a',hA',hc'⟩:=(hs.ext hx1).get hlt;obtain rfl:a=a':=by simpa using hA'
     have hc':Xm w4 (a.add (k*8)) (evC e):=by
      have he:cs[k]=e:=by rw[List.getElem?_eq_getElem hlt] at hev;simpa using hev
      rw[<- he];exact hc'
     refine Gg ?_;refine⟨a,Ix,Gg ?_⟩;refine⟨.string e.item,cells_at hc' (k:=5) rfl,Gg ?_⟩;refine(Qxo T e.item B d w4 hsT (by omega) hd).mono ?_;rintro _ w5 ⟨B5,d5,rfl,hd5,hs5,_,hx5⟩;rw[<- hst] at hd5 hs5 ⊢;refine Gg ?_;refine⟨_,wrap_succ (by omega),Gg ?_⟩
     exact⟨(k+1,B5,d5,Qd6 cs t (cs.take (k+1))),by simp only;omega,⟨by simp only;omega,rfl,hs5,hd5,hx1.trans hx5⟩,Rr⟩
   . intro hq
     have hq:¬ it.listed=true:=by
      have hq:it.listed=false:=hq;rw[hq];decide
     rw[if_neg hq] at hst;refine Gg ?_;refine⟨_,wrap_succ (by omega),Gg ?_⟩
     exact⟨(k+1,B,d,T),by simp only;omega,⟨by simp only;omega,hst.symm,hsT,hd,hx1⟩,Rr⟩
 . intro hge
   have hge:cs.length<=k:=by simpa using hge
   rw[List.take_of_length_le hge] at hT;subst hT;refine Gg ?_
   exact⟨B,d,rfl,hsT,hx1⟩
theorem Q8j (l:List ByteArray) (s:ByteArray):Qsu (Qbp l) s=Qbp (l ++ [s]) :=
 Qjs Qmn (Q8i (Qb3 l)) (Qb3 _) fun x=>by rw[put_mem,X7,X7,List.mem_append,List.mem_singleton]
set_option maxHeartbeats 2000000 in
theorem Qrz (T:List SnH) (Q:List Sn) (A:Option Addr) (c:Nat) (w:World) (n0:Nat) (hs:Sl seC 4 w A T) (hq:Qat w n0 (rowB A) T Q) (hl:T.length<=1000) (hil:∀ q∈Q,q.items.length<100) :
 Cal Tryz.prog 63 [.slice A T.length c] w fun r w'=>∃ A' c',r = .slice A' (Qbp (Q.flatMap (·.items))).length c'/\SlT w' A' (Qbp (Q.flatMap (·.items)))/\Ext w w':=by
 have hlen:=hq.len;refine Fi Tryz.func63 rfl _ rfl rfl (Hh ?_);intro b1 w1 hn1;refine Gg ?_;have o1:SlT w1 (some ⟨b1,0,none⟩) []:=Sl.nil
 have hfl:∀ i,i<=Q.length->((Q.take i).flatMap (·.items)).length<=i*100:=fun i=>by
  induction i with
  | zero=>intro _;simp
  | succ i ih =>
    intro hi;have h1:=ih (by omega);have h2:=hil Q[i] (List.getElem_mem (by omega));rw[List.take_succ_eq_append_getElem (by omega),List.flatMap_append,List.length_append];simp only[List.flatMap_cons,List.flatMap_nil,List.append_nil];omega
 refine Qd Qa (fun(q:Nat×Option Addr×Nat×List ByteArray) w'=>q.1<=T.length/\q.2.2.2=Qbp ((Q.take q.1).flatMap (·.items))/\SlT w' q.2.1 q.2.2.2/\q.2.2.2.length<=q.2.2.1/\Ext w w')
  (fun | (i,B,d,U) => [(0,.slice A T.length c),(3,.slice B U.length d),(4,.int .i64 (i:Nat))]) (fun q=>T.length-q.1) (0,some ⟨b1,0,none⟩,0,[]) ⟨Nat.zero_le _,Qmk.symm,o1,Nat.zero_le _,hn1.ext⟩ Rr ?_
 clear o1 hn1;rintro ⟨i,B,d,U⟩ w2 ⟨hi,hU,hsU,hd,hx2⟩;simp only at hi hU hsU hd
 conv=>whnf
 constructor
 . intro hlt
   have hlt:i<T.length:=by simpa using hlt
   obtain⟨a2,hA,hc0⟩:=hs.get hlt;subst hA;have hlq:i<Q.length:=by omega
   have hsn:=hq.at_ i T[i] Q[i] (List.getElem?_eq_getElem hlt) (List.getElem?_eq_getElem hlq)
   have htk:(Q.take (i+1)).flatMap (·.items)=(Q.take i).flatMap (·.items)++Q[i].items:=by
    rw[List.take_succ_eq_append_getElem hlq,List.flatMap_append];simp only[List.flatMap_cons,List.flatMap_nil,List.append_nil]
   have hql:=hil Q[i] (List.getElem_mem hlq);have hf0:=hfl i (by omega);generalize Q[i]=q at hsn htk hql;generalize T[i]=dd at hc0 hsn;obtain⟨_,_,_,h4,h5,_,_⟩:=hsn;obtain⟨d1,d2,d3,dA,dn,dc⟩:=dd;simp only at h4 h5;subst h4;generalize (Q.take i).flatMap (·.items)=M at hU htk hf0;refine Gg ?_
   refine Qd Qa (fun(x:Nat×Option Addr×Nat×List ByteArray) w'=>x.1<=q.items.length/\x.2.2.2=Qbp (M++q.items.take x.1)/\SlT w' x.2.1 x.2.2.2/\x.2.2.2.length<=x.2.2.1/\Ext w w')
    (fun | (k,B,d,U) => [(0,.slice (some a2) T.length c),(3,.slice B U.length d),(4,.int .i64 (i:Nat)),(5,.int .i64 (k:Nat))]) (fun x=>q.items.length-x.1) (0,B,d,U) ⟨Nat.zero_le _,by simp only[List.take_zero,List.append_nil];exact hU,hsU,hd,hx2⟩ Rr ?_
   clear hU hsU hd hx2;rintro ⟨k,B,d,U⟩ w3 ⟨hk,hU,hsU,hd,hx3⟩;simp only at hk hU hsU hd
   have hUl:U.length<=200000:=by
    have:=Qgi (M++q.items.take k);rw[<- hU,List.length_append,List.length_take] at this;omega
   have hc3:=hx3.cells hc0;have h53:=h5.ext hx3
   conv=>whnf
   refine⟨a2,Ix,Hh ?_⟩;refine⟨.slice dA q.items.length dc,cells_at hc3 (k:=3) rfl,Hh ?_⟩;constructor
   . intro hlt2
     have hlt2:k<q.items.length:=by simpa using hlt2
     obtain⟨a4,rfl,hc4⟩:=h53.get hlt2;have htk2:=Xl q.items k hlt2;generalize q.items[k]=x at hc4 htk2;refine Gg ?_;refine⟨a2,Ix,Gg ?_⟩;refine⟨.slice (some a4) q.items.length dc,cells_at hc3 (k:=3) rfl,Gg ?_⟩;refine⟨a4,Ix,Gg ?_⟩;refine⟨.string x,Qp hc4,Gg ?_⟩;have hset:Qsu U x=Qbp (M++q.items.take (k+1)):=by rw[hU,Q8j,htk2,List.append_assoc]
     refine(Que U x B d w3 hsU (by omega) hd).mono ?_;rintro _ w5 ⟨B5,d5,rfl,hd5,hs5,hx5⟩;rw[hset] at hd5 hs5 ⊢;refine Gg ?_;refine⟨_,wrap_succ (by omega),Gg ?_⟩
     exact⟨(k+1,B5,d5,Qbp (M++q.items.take (k+1))),by simp only;omega,⟨by simp only;omega,rfl,hs5,hd5,hx3.trans hx5⟩,Rr⟩
   . intro hge
     have hge:q.items.length<=k:=by simpa using hge
     rw[List.take_of_length_le hge,<- htk] at hU;refine Gg ?_;refine⟨_,wrap_succ (by omega),Gg ?_⟩
     exact⟨(i+1,B,d,U),by simp only;omega,⟨by simp only;omega,hU,hsU,hd,hx3⟩,Rr⟩
 . intro hge
   have hge:T.length<=i:=by simpa using hge
   rw[List.take_of_length_le (by omega)] at hU;subst hU;refine Gg ?_
   exact⟨B,d,rfl,hsU,hx2⟩
set_option maxHeartbeats 1000000 in
theorem Qo1 (D:List (Ev×SV)) (R:List Row) (A:Option Addr) (c:Nat) (w:World) (hs:Sl Qdv 9 w A D) (hT:Qa1 w (TgR w A) D R) (hl:D.length<100000) :
 Cal Tryz.prog 66 [.slice A D.length c] w fun r w'=>∃ A' c',r = .slice A' (Qbp (R.map fun r=>r.1.person)).length c'/\SlT w' A' (Qbp (R.map fun r=>r.1.person))/\Ext w w':=by
 have hlen:=hT.len;have hev:∀ i (hi:i<D.length) (hi2:i<R.length),D[i].1=R[i].1:=fun i hi hi2=>(hT.ev i _ _ (List.getElem?_eq_getElem hi) (List.getElem?_eq_getElem hi2)).1
 refine Fi Tryz.func66 rfl _ rfl rfl (Hh ?_);intro b1 w1 hn1;refine Gg ?_
 refine Qd Qa (fun(q:Nat×Option Addr×Nat×List ByteArray) w'=>q.1<=D.length/\SlT w' q.2.1 q.2.2.2/\q.2.2.2.Nodup/\(∀ x,x∈q.2.2.2↔x∈(R.take q.1).map fun r=>r.1.person)/\q.2.2.2.length<=q.1/\Srt bLt q.2.2.2/\Ext w w')
  (fun | (i,B,d,U) => [(0,.slice A D.length c),(3,.slice B U.length d),(4,.int .i64 (i:Nat))]) (fun q=>D.length-q.1) (0,some ⟨b1,0,none⟩,0,[]) ⟨Nat.zero_le _,Sl.nil,List.nodup_nil,by simp,Nat.le_refl _,List.Pairwise.nil,hn1.ext⟩ Rr ?_
 clear hn1;rintro ⟨i,B,d,U⟩ w2 ⟨hi,hsU,hnU,hmU,hlU,hoU,hx2⟩;simp only at hi hsU hnU hmU hlU hoU
 conv=>whnf
 constructor
 . intro hlt
   have hlt:i<D.length:=by simpa using hlt
   have hlr:i<R.length:=by omega
   obtain⟨a2,hA,hc⟩:=(hs.ext hx2).get hlt;subst hA;have he:=hev i hlt hlr;have htk:=Xl R i hlr;generalize D[i]=dd at hc he;generalize R[i]=r at he htk;refine Gg ?_;refine⟨a2,Ix,Gg ?_⟩;refine⟨.string dd.1.person,cells_at hc (k:=4) rfl,Gg ?_⟩;refine(Qn0 U dd.1.person B d w2 hsU (by omega) hnU).mono ?_;rintro _ w3 ⟨B3,d3,U3,rfl,hs3,hn3,hm3,hl3,ho3,hx3⟩;refine Gg ?_;refine⟨_,wrap_succ (by omega),Gg ?_⟩;refine⟨(i+1,B3,d3,U3),by simp only;omega,⟨by simp only;omega,hs3,hn3,fun x => ?_,by simp only;omega,ho3 hoU,hx2.trans hx3⟩,Rr⟩;simp only;rw[hm3,hmU,htk,List.map_append,List.mem_append,List.map_cons,List.map_nil,List.mem_singleton,he]
 . intro hge
   have hge:D.length<=i:=by simpa using hge
   rw[List.take_of_length_le (by omega)] at hmU
   have hU:U=Qbp (R.map fun r=>r.1.person):=by
    rw[<- Qhd hnU hmU]
    exact Qc0 (List.Perm.refl _) hoU
   subst hU;refine Gg ?_
   exact⟨B,d,rfl,hsU,hx2⟩
def Qo0 (half now:Int) (L:List A11) (k:ByteArray):Bool := !decide (Qe5 half now k L=0)
def Qgn (half now:Int) (L l:List A11):List ByteArray:=Qbp ((l.map (·.1)).filter (Qo0 half now L))
set_option maxHeartbeats 4000000 in
theorem Qub (w:World) (p:Nat) (half:Int) (L:List A11) (h:C11 w p half L) (hok:∀ x∈L,Qqg x) (hl:L.length<1000) (hh:1<=half/\half<=1099511627776) (now:Int) (hn:0<=now/\now<=1099511627776) :
 Cal Tryz.prog 119 [.pointer (some ⟨p,0,none⟩),.int .i64 now] w fun r w'=>∃ A c,r = .slice A (Qgn half now L L).length c/\SlT w' A (Qgn half now L L)/\Ext w w':=by
 obtain⟨A,c,hp,hsl,hA⟩:=id h;refine Fi Tryz.func119 rfl _ rfl rfl (Hh ?_);intro b1 w1 hn1;refine Gg ?_;have o1:SlT w1 (some ⟨b1,0,none⟩) []:=Sl.nil
 refine Qd Qa (fun(q:Nat×Option Addr×Nat×List ByteArray) w'=>q.1<=L.length/\q.2.2.2=Qbp (((L.take q.1).map (·.1)).filter (Qo0 half now L))/\SlT w' q.2.1 q.2.2.2/\q.2.2.2.length<=q.2.2.1/\Ext w w')
  (fun | (i,B,d,T) => [(0,.pointer (some ⟨p,0,none⟩)),(1,.int .i64 now),(5,.slice B T.length d),(6,.int .i64 (i:Nat))]) (fun q=>L.length-q.1) (0,some ⟨b1,0,none⟩,0,[]) ⟨Nat.zero_le _,Qmk.symm,o1,Nat.zero_le _,hn1.ext⟩ Rr ?_
 clear o1 hn1;rintro ⟨i,B,d,T⟩ w2 ⟨hi,hT,hsT,hd,hx2⟩;simp only at hi hT hsT hd;have hTl:=Qrb (fun x:A11=>x.1) (Qo0 half now L) (L.take i);rw[<- hT,List.length_take] at hTl;have hp2:=hp.ext hx2;have h2:=h.ext hx2
 conv=>whnf
 refine⟨.slice A L.length c,hp2.one rfl,Hh ?_⟩;constructor
 . intro hlt
   have hlt:i<L.length:=by simpa using hlt
   obtain⟨a,hAa,hc⟩:=(hsl.ext hx2).get hlt;subst hAa;have hst:=Qnm (fun x:A11=>x.1) (Qo0 half now L) L i hlt;rw[<- hT] at hst;generalize L[i]=x at hc hst;obtain⟨key,xt,xn⟩:=x;simp only at hst;refine Gg ?_;refine⟨.slice (some a) L.length c,hp2.one rfl,Gg ?_⟩;refine⟨a,Ix,Gg ?_⟩;refine⟨.string key,cells_at hc (k:=0) rfl,Gg ?_⟩
   refine Qd Qa (fun(k:Nat) w'=>k<=T.length/\w'=w2/\∀ x∈T.take k,bLt x key=true)
    (fun k => [(0,.pointer (some ⟨p,0,none⟩)),(1,.int .i64 now),(5,.slice B T.length d),(6,.int .i64 (i:Nat)),(7,.string key),(8,.int .i64 (k:Nat))]) (fun k=>T.length-k) 0 ⟨by omega,rfl,by simp⟩ Rr ?_
   rintro k w3 ⟨hk,hw3,hall⟩;replace hw3:=hw3.symm;subst hw3
   obtain⟨a1,x1,hk1⟩:∃ a1 x1,k<T.length->B=some a1/\T[k]? = some x1/\w2.cell? (a1.add (k*1))=some (.string x1):=by
    by_cases hh:k<T.length
    . obtain⟨a1,h1,h2⟩:=hsT.get hh
      exact⟨a1,T[k],fun _=>⟨h1,List.getElem?_eq_getElem hh,Qp h2⟩⟩
    . exact⟨⟨0,0,none⟩,key,fun h=>absurd h hh⟩
   have hdd:∀ {p:Nat},decide ((p:Int)<(T.length:Int))=true->p<T.length:=fun h=>by simpa using h
   conv=>whnf
   refine⟨a1,fun hg=>⟨(hk1 (hdd hg)).1,by omega,by have:=hdd hg;omega⟩,Hh ?_⟩;refine⟨.string x1,fun hg=>(hk1 (hdd hg)).2.2,Hh ?_⟩;constructor
   . intro hc
     have hc:(decide ((k:Int)<(T.length:Int))&&bLt x1 key)=true:=hc;rw[Bool.and_eq_true] at hc;have hlt2:=hdd hc.1;have htk:=Xl T k hlt2;have hxe:T[k]=x1:=by have:=(hk1 hlt2).2.1;rw[List.getElem?_eq_getElem hlt2] at this;simpa using this
     conv=>whnf
     refine⟨_,wrap_succ (by omega),Hh ?_⟩;refine⟨k+1,by omega,⟨by omega,rfl,fun y hy => ?_⟩,Rr⟩;rw[htk,hxe] at hy;rcases List.mem_append.1 hy with hy | hy
     . exact hall y hy
     . simp at hy;subst hy;exact hc.2
   intro hcc;have hcc:(decide ((k:Int)<(T.length:Int))&&bLt x1 key)=false:=hcc
   have hend:k=T.length\/∃ x,T[k]? = some x/\bLt x key=false:=by
    by_cases hh:k<T.length
    . refine .inr ⟨x1,(hk1 hh).2.1,?_⟩
      have:decide ((k:Int)<(T.length:Int))=true:=by simpa using hh
      rw[this] at hcc
      simpa using hcc
    . exact .inl (by omega)
   obtain⟨t1,t2⟩:=Qcc (p:=fun x=>bLt x key) hk hall hend;refine Gg ?_;refine⟨a1,fun hg=>⟨(hk1 (hdd hg)).1,by omega,by have:=hdd hg;omega⟩,Gg ?_⟩;refine⟨.string x1,fun hg=>(hk1 (hdd hg)).2.2,Gg ?_⟩;refine⟨Unit,fun _ => .int .i64 (Qe5 half now key L),fun _ w'=>Ext w2 w',(),fun hg=>(Qkv w2 p half L h2 hok hl hh key now hn).mono fun r w' h=>⟨(),h.1,h.2⟩,?_⟩;intro _ w4 h4
   have hx4:Ext w2 w4:=by
    rcases h4 with⟨_,h⟩ | ⟨_,h⟩
    . exact h
    . rw[h];exact Ext.refl _
   clear h4;replace hsT:=hsT.ext hx4;replace hx2:=hx2.trans hx4;refine Gg ?_;constructor
   . intro hq
     have hq:((decide ((k:Int)<(T.length:Int))&&decide (x1=key))||decide (Qe5 half now key L=0))=true:=hq
     have hsame:Qbp (((L.take (i+1)).map (·.1)).filter (Qo0 half now L))=T:=by
      rw[hst]
      split
      . next hp0 =>
        rw[Bool.or_eq_true] at hq;rcases hq with hq | hq
        . rw[Bool.and_eq_true,decide_eq_true_eq (p:=x1=key)] at hq
          exact Qnf t2 (by rw[(hk1 (hdd hq.1)).2.1,hq.2])
        . unfold Qo0 at hp0
          rw[hq] at hp0;cases hp0
      . rfl
     refine Gg ?_;refine⟨_,wrap_succ (by omega),Gg ?_⟩
     exact⟨(i+1,B,d,T),by simp only;omega,⟨by simp only;omega,hsame.symm,hsT,hd,hx2⟩,Rr⟩
   . intro hq
     have hq:((decide ((k:Int)<(T.length:Int))&&decide (x1=key))||decide (Qe5 half now key L=0))=false:=hq;rw[Bool.or_eq_false_iff] at hq;obtain⟨hq,hq2⟩:=hq;have hp0:Qo0 half now L key=true:=by unfold Qo0;rw[hq2];rfl
     rw[if_pos hp0] at hst
     have hne:T[k]? ≠ some key:=fun e=>by
      have hlt:k<T.length:=(List.getElem?_eq_some_iff.1 e).1;have h1:=(hk1 hlt).2.1;rw[e] at h1;have h2:key=x1:=by simpa using h1
      have h3:decide ((k:Int)<(T.length:Int))=true:=by simpa using hlt
      rw[h3,h2] at hq
      simp at hq
     rw[Qja t1 t2 hne] at hst;clear hk1 hcc hq hq2 hend t1 t2 hall hne hp0;have hsk:=Xt (Qfj hsT k) 0 d (by rw[List.length_take];omega);have hsd:=Xt hsT k d hd;rw[List.drop_zero] at hsk;have hkm:k=(T.take k).length:=by rw[List.length_take];omega
     have hdl:T.length-k=(T.drop k).length:=by rw[List.length_drop]
     have htot:(T.take k).length+(T.drop k).length=T.length:=by rw[List.length_take,List.length_drop];omega
     generalize T.take k=U at hsk hkm htot hst;generalize T.drop k=V at hsd hdl htot hst;refine Gg ?_;intro b5 w5 hn5;refine Gg ?_;have o5:=Xa.made (base:=w4.heap.size) hn5 (Nat.le_refl _);refine⟨⟨by omega,by omega,by omega,by omega⟩,Gg ?_⟩;refine Qi Xa (l := []) (news:=U) rfl o5 hkm (hsk.ext hn5.ext) (by simp;omega) hn5.ext.size fun A6 c6 w6 hown6 hg6 hA6 => ?_
     have hx6:=Qh hn5.ext hg6 (Qs o5);replace hown6:Own Qbg 1 9 w4.heap.size w6 A6 c6 U:=hown6;refine Gg ?_;intro b7 w7 hn7;refine Gg ?_;refine Qi Xa (l:=U) (news := [key]) rfl (hown6.ext hn7.ext) rfl (Xa.new1 (x:=key) hn7) (by simp;omega) (hx6.trans hn7.ext).size fun A8 c8 w8 hown8 hg8 hA8 => ?_
     have hx8:=Qh (hx6.trans hn7.ext) hg8 (Qs (hown6.ext hn7.ext));have hT1l:(U ++ [key]).length=U.length+1:=by simp
     have hfin:U++key :: V=(U ++ [key])++V:=by simp
     rw[hfin] at hst;generalize U ++ [key]=T1 at hown8 hT1l hst ⊢;refine Gg ?_;refine⟨⟨by omega,by omega,by omega,by omega⟩,Gg ?_⟩;refine Qi Xa (l:=T1) (news:=V) rfl hown8 hdl (hsd.ext hx8) (by omega) hx8.size fun A9 c9 w9 hown9 hg9 hA9 => ?_
     have hx9:=Qh hx8 hg9 (Qs hown8);generalize T1++V=T2 at hown9 hst ⊢;refine Gg ?_;refine⟨_,wrap_succ (by omega),Gg ?_⟩
     exact⟨(i+1,A9,c9,T2),by simp only;omega,⟨by simp only;omega,hst.symm,hown9.sl Xa.sz,hown9.le,hx2.trans hx9⟩,Rr⟩
 . intro hge
   have hge:L.length<=i:=by simpa using hge
   rw[List.take_of_length_le hge] at hT;have hT:T=Qgn half now L L:=hT;subst hT;refine Gg ?_
   exact⟨B,d,rfl,hsT,hx2⟩
theorem Xbi {O:List Ct} {s:Ct} {m:Nat} (hm:m<=O.length) (hs:Srt Qfg O) (hk:∀ u∈O,bLt u.1 s.1=true) (h1:m=0\/∃ h:m-1<O.length,¬ O[m-1].2<s.2) (h2:∀ j (hj:j<O.length),m<=j->O[j].2<s.2):Srt Qfg (O.take m++s :: O.drop m):=by
 refine Qhj Qzn hm (fun u hu => ?_) (fun y hy => ?_) hs
 . obtain⟨i,hi,rfl⟩:=List.mem_take_iff_getElem.1 hu
   have hlt:i<O.length:=by omega
   rw[Qmf];refine⟨fun h => ?_,fun _=>Q3h.asymm _ _ (hk _ (List.getElem_mem hlt))⟩;rcases h1 with h1 | ⟨h1,h3⟩
   . omega
   . have hle:¬ O[i].2<O[m-1].2:=by
      rcases Nat.lt_or_ge i (m-1) with h4 | h4
      . have:=List.pairwise_iff_getElem.1 hs i (m-1) hlt h1 h4
        rw[Qmf] at this;exact this.1
      . have h5:i=m-1:=by omega
        subst h5;omega
     omega
 . obtain⟨h,rfl⟩:=List.getElem?_eq_some_iff.1 hy
   rw[Qrh];exact .inl (h2 m h (Nat.le_refl _))
set_option maxHeartbeats 4000000 in
theorem Qxq (w:World) (p:Nat) (half:Int) (L:List A11) (h:C11 w p half L) (hok:∀ x∈L,Qqg x) (hl:L.length<1000) (hh:1<=half/\half<=1099511627776) (now:Int) (hn:0<=now/\now<=1099511627776) (n:Int) (hn0:1000<=n) :
 Cal Tryz.prog 58 [.pointer (some ⟨p,0,none⟩),.int .i64 now,.int .i64 n] w fun r w'=>∃ A c O,r = .slice A O.length c/\Sl Qc2 2 w' A O/\O.Perm ((Qgn half now L L).map fun k=>(k,Qe5 half now k L))/\Srt Qfg O/\Ext w w':=by
 refine Fi Tryz.func58 rfl _ rfl rfl (Hh ?_);refine(Qub w p half L h hok hl hh now hn).mono ?_;rintro _ w1 ⟨A1,c1,rfl,hsK,hx1⟩;have hKl:=Qrb (fun x:A11=>x.1) (Qo0 half now L) L;have hKs:SG bLt (Qgn half now L L):=Qb3 _;replace hKl:(Qgn half now L L).length<=L.length:=hKl;generalize Qgn half now L L=K at hsK hKl hKs ⊢;refine Gg ?_;intro b2 w2 hn2;refine Gg ?_;have o2:=Qc9.made (base:=w1.heap.size) hn2 (Nat.le_refl _)
 refine Qd Qa (fun(q:Nat×Option Addr×Nat×List Ct) w'=>q.1<=K.length/\q.2.2.2.Perm ((K.take q.1).map fun k=>(k,Qe5 half now k L))/\Srt Qfg q.2.2.2/\Sl Qc2 2 w' q.2.1 q.2.2.2/\q.2.2.2.length<=q.2.2.1/\Ext w1 w')
  (fun | (i,B,d,O) => [(0,.pointer (some ⟨p,0,none⟩)),(1,.int .i64 now),(2,.int .i64 n),(7,.slice A1 K.length c1),(8,.slice B O.length d),(9,.int .i64 (i:Nat))]) (fun q=>K.length-q.1) (0,some ⟨b2,0,none⟩,0,[]) ⟨Nat.zero_le _,List.Perm.refl _,List.Pairwise.nil,Sl.nil,Nat.zero_le _,hn2.ext⟩ Rr ?_
 clear o2 hn2;rintro ⟨i,B,d,O⟩ w3 ⟨hi,hP,hS,hsO,hd,hx3⟩;simp only at hi hP hS hsO hd
 have hOl:O.length<=K.length:=by
  rw[hP.length_eq,List.length_map,List.length_take];omega
 conv=>whnf
 constructor
 . intro hlt
   have hlt:i<K.length:=by simpa using hlt
   obtain⟨a,rfl,hc⟩:=(hsK.ext hx3).get hlt;have htk:=Xl K i hlt
   have hkeys:∀ u∈O,bLt u.1 K[i]=true:=fun u hu=>by
    obtain⟨k,hk,rfl⟩:=List.mem_map.1 (hP.mem_iff.1 hu);obtain⟨j,hj,rfl⟩:=List.mem_take_iff_getElem.1 hk
    exact List.pairwise_iff_getElem.1 hKs j i (by omega) hlt (by omega)
   generalize K[i]=key at hc htk hkeys;have h3:=h.ext (hx1.trans hx3);obtain⟨s,hs⟩:∃ s:Ct,s=(key,Qe5 half now key L):=⟨_,rfl⟩;refine Gg ?_
   refine Qgh (ι:=Nat) (fun j => [(0,.pointer (some ⟨p,0,none⟩)),(1,.int .i64 now),(2,.int .i64 n),(7,.slice (some a) K.length c1),(8,.slice B O.length d),(9,.int .i64 (i:Nat)),(10,.pointer (some ⟨j,0,none⟩))])
    (fun j w'=>Ext w3 w'/\At w' j 98 (Qc2 s)) ?_ ?_
   . refine Qcl (.mods (fun k=>w3.heap.size<=k)) (Pl.seq [0,1,2,3,4,5,6,7,8,9] (Pl.two 10 (Pl.seq [11,12,13] Pl.done) 12 (Pl.seq [10,11,13] Pl.done))) (by intro h;cases h) Qa mixed (by kernel_rfl) (Hh ?_)
     have ha6:¬ (w3.heap.size<=(a.add (i*1)).block):=by have:=cell_lt (Qp hc);exact Nat.not_le.2 this
     replace hc:Xm w3.drew (a.add (i*1)) (Qbg key):=hc;have h4:=h3.ext (Ext.refl w3).drew;have hx4:=(Ext.refl w3).drew;generalize w3.drew=w4 at hc h4 hx4 ⊢;refine⟨a,Ix,Hh ?_⟩;refine⟨.string key,⟨Qp hc,ha6⟩,Hh ?_⟩;refine⟨a,Ix,Hh ?_⟩;refine⟨.string key,⟨Qp hc,ha6⟩,Hh ?_⟩;refine⟨?_,?_⟩
     . refine(Qkv w4 p half L h4 hok hl hh key now hn).mono ?_
       rintro _ w5 ⟨rfl,hx5⟩;refine⟨Mod.of_ext hx5,Hh ?_⟩;intro b6 w6 hn6;have e6:=hn6.block;refine⟨Mod.of_ext hn6.ext,Hh ?_⟩;have q4:=hx4.size;have q5:=hx5.size;refine Qg Qa (e:=ty98) rfl hn6.At rfl rfl rfl (by simp[Qr,Value.oneCell']) fun w7 h7 ho7 => ?_
       refine⟨Qq ho7 (by omega),Hh ?_⟩
       exact⟨b6,⟨ho7.ext ((hx4.trans hx5).trans hn6.ext) (by omega),by rw[hs];exact h7⟩,Rr⟩
     . intro b6 w6 hn6
       have e6:=hn6.block;refine⟨Mod.of_ext hn6.ext,Hh ?_⟩;refine(Qkv w6 p half L (h4.ext hn6.ext) hok hl hh key now hn).mono ?_;rintro _ w5 ⟨rfl,hx5⟩;refine⟨Mod.of_ext hx5,Hh ?_⟩;have q4:=hx4.size;have q5:=hx5.size;refine Qg Qa (e:=ty98) rfl (hn6.At.ext hx5) rfl rfl rfl (by simp[Qr,Value.oneCell']) fun w7 h7 ho7 => ?_
       refine⟨Qq ho7 (by omega),Hh ?_⟩
       exact⟨b6,⟨ho7.ext ((hx4.trans hn6.ext).trans hx5) (by omega),by rw[hs];exact h7⟩,Rr⟩
   rintro j10 w4 ⟨hx4,h10⟩;have hs1:s.1=key:=by rw[hs]
   have hkm:((K.take (i+1)).map fun k=>((k,Qe5 half now k L):Ct))=((K.take i).map fun k=>((k,Qe5 half now k L):Ct)) ++ [s]:=by rw[htk,List.map_append,hs];rfl
   rw[<- hs1] at hkeys;clear hs hc h3 htk;replace hsO:=hsO.ext hx4;refine Gg ?_
   refine Qd Qa (fun(k:Nat) w'=>k<=O.length/\Ext w4 w'/\∀ j (hj:j<O.length),k<=j->O[j].2<s.2)
    (fun k => [(0,.pointer (some ⟨p,0,none⟩)),(1,.int .i64 now),(2,.int .i64 n),(7,.slice (some a) K.length c1),(8,.slice B O.length d),(9,.int .i64 (i:Nat)),(10,.pointer (some ⟨j10,0,none⟩)),(11,.int .i64 (k:Nat))]) (fun k=>k) O.length ⟨Nat.le_refl _,Ext.refl _,fun j hj hk=>by omega⟩ Rr ?_
   rintro k w5 ⟨hk,hx5,hall⟩
   obtain⟨a1,y1,hk1⟩:∃ a1 y1,0<k->B=some a1/\O[k-1]? = some y1/\Xm w5 (a1.add ((k-1)*2)) (Qc2 y1):=by
    by_cases h0:0<k
    . have hh:k-1<O.length:=by omega
      obtain⟨a1,h1,h2⟩:=(hsO.ext hx5).get hh
      exact⟨a1,O[k-1],fun _=>⟨h1,List.getElem?_eq_getElem hh,h2⟩⟩
    . exact⟨⟨0,0,none⟩,s,fun h=>absurd h h0⟩
   have hdd:decide ((0:Int)<(k:Int))=true->0<k:=fun h=>by simpa using h
   have h105:=h10.ext hx5;refine Gg ?_;refine Dr .same [0,1,2,3,4,5,6,7,8,9,10,11,12] [] (Hh ?_);have hxd:Ext w5 w5.drew:=(Ext.refl w5).drew;replace hk1:0<k->B=some a1/\O[k-1]? = some y1/\Xm w5.drew (a1.add ((k-1)*2)) (Qc2 y1):=hk1;replace h105:=h105.ext hxd;replace hx5:=hx5.trans hxd;generalize w5.drew=w5 at hk1 h105 hx5 ⊢;refine⟨((k-1:Nat):Int),fun hg=>wrap_eq (by have:=hdd hg;omega) ⟨by omega,by omega⟩,Hh ?_⟩;refine⟨a1,fun hg=>⟨(hk1 (hdd hg)).1,by omega,by have:=hdd hg;omega⟩,Hh ?_⟩;refine⟨.int .i64 y1.2,fun hg=>cells_at (hk1 (hdd hg)).2.2 (k:=1) rfl,Hh ?_⟩;refine⟨.int .i64 s.2,fun _=>h105.one rfl,Gg ?_⟩;constructor
   . intro hq
     have hq:(decide ((0:Int)<(k:Int))&&decide (y1.2<s.2))=true:=hq;rw[Bool.and_eq_true,decide_eq_true_eq (p:=y1.2<s.2)] at hq;have h0:=hdd hq.1;refine Gg ?_;refine⟨((k-1:Nat):Int),wrap_eq (by omega) ⟨by omega,by omega⟩,Gg ?_⟩;refine⟨k-1,by omega,⟨by omega,hx5,fun j hj hjk => ?_⟩,Rr⟩
     by_cases e:j=k-1
     . subst e
       have:=(hk1 h0).2.1;rw[List.getElem?_eq_getElem hj] at this;simp only[Option.some.injEq] at this;rw[this];exact hq.2
     . exact hall j hj (by omega)
   intro hq;have hq:(decide ((0:Int)<(k:Int))&&decide (y1.2<s.2))=false:=hq
   have hle:k=0\/∃ h:k-1<O.length,¬ O[k-1].2<s.2:=by
    by_cases h0:k=0
    . exact .inl h0
    . have hlt2:k-1<O.length:=by omega
      refine .inr ⟨hlt2,?_⟩;have h1:=(hk1 (by omega)).2.1;rw[List.getElem?_eq_getElem hlt2] at h1;simp only[Option.some.injEq] at h1;rw[h1];have:decide ((0:Int)<(k:Int))=true:=by simp;omega
      rw[this] at hq
      simpa using hq
   have hnS:=Xbi hk hS hkeys hle hall
   have hnP:(O.take k++s :: O.drop k).Perm ((K.take (i+1)).map fun k=>((k,Qe5 half now k L):Ct)):=by
    rw[hkm];have h1:(O.take k++s :: O.drop k).Perm (s :: (O.take k++O.drop k)):=List.perm_middle;rw[List.take_append_drop] at h1
    exact h1.trans ((hP.cons s).trans (List.perm_append_comm (l₁ := [s])))
   replace hsO:=hsO.ext hx5;have hsk:=Xt (Qfj hsO k) 0 d (by rw[List.length_take];omega);have hsd:=Xt hsO k d hd;rw[List.drop_zero] at hsk;have hkm:k=(O.take k).length:=by rw[List.length_take];omega
   have hdl:O.length-k=(O.drop k).length:=by rw[List.length_drop]
   have htot:(O.take k).length+(O.drop k).length=O.length:=by rw[List.length_take,List.length_drop];omega
   generalize O.take k=U at hsk hkm htot hnS hnP;generalize O.drop k=V at hsd hdl htot hnS hnP;clear hle hk1 hq hall hS hP hkeys;refine Gg ?_
   refine Qgh (ι:=Option Addr×Nat) (fun j => [(0,.pointer (some ⟨p,0,none⟩)),(1,.int .i64 now),(2,.int .i64 n),(7,.slice (some a) K.length c1),(8,.slice B O.length d),(9,.int .i64 (i:Nat)),(11,.int .i64 (k:Nat)),(12,.slice j.1 (U ++ [s]).length j.2)])
    (fun j w'=>Ext w5 w'/\Own Qc2 2 98 w5.heap.size w' j.1 j.2 (U ++ [s])) ?_ ?_
   . refine Qcl (.mods (fun k=>w5.heap.size<=k)) (Pl.seq [1,2,3,5] (Pl.two 0 (Pl.seq [] (Pl.two 4 (Pl.seq [6,7,8] Pl.done) 6 (Pl.seq [4,7,8] Pl.done))) 6 (Pl.seq [0,4,7,8] Pl.done))) (by intro h;cases h) Qa mixed (by kernel_rfl) (Hh ?_)
     have hbl:¬ (w5.heap.size<=j10):=Nat.not_le.2 h105.lt;replace h105:At w5.drew j10 98 (Qc2 s):=h105;replace hsk:=hsk.ext (Ext.refl w5).drew;have hx10:=(Ext.refl w5).drew;generalize w5.drew=w10 at h105 hsk hx10 ⊢;refine⟨⟨by omega,by omega,by omega,by omega⟩,Hh ?_⟩;refine⟨Qc2 s,⟨rfl,h105.all,hbl⟩,Hh ?_⟩;refine⟨?_,?_⟩
     . intro b6 w6 hn6
       have o6:=(Qc9).made (base:=w5.heap.size) hn6 (hx10).size;refine⟨Mod.of_ext hn6.ext,Hh ?_⟩;refine⟨?_,?_⟩
       . refine Qi Qc9 (l := []) (news:=U) rfl (o6) (hkm) ((hsk).ext hn6.ext) (by simp;omega) (Nat.le_trans (hx10).size hn6.ext.size) fun A7 c7 w7 hown7 hg7 hA7 => ?_
         refine⟨Qo hg7 (Qs o6),Hh ?_⟩;intro b8 w8 hn8;refine⟨Mod.of_ext hn8.ext,Hh ?_⟩;refine Qi Qc9 (l:=U) (news := [s]) rfl (hown7.ext hn8.ext) rfl ((Qc9).new1 hn8) (by simp;omega) (Nat.le_trans (Nat.le_trans (Nat.le_trans (hx10).size hn6.ext.size) hg7.size) hn8.ext.size) fun A9 c9 w9 hown9 hg9 hA9 => ?_
         refine⟨Qo hg9 (Qs hown7),Hh ?_⟩
         exact⟨(A9,c9),⟨Qh ((Qh ((hx10).trans hn6.ext) hg7 (Qs o6)).trans hn8.ext) hg9 (Qs hown7),hown9⟩,Rr⟩
       . intro b8 w8 hn8
         refine⟨Mod.of_ext hn8.ext,Hh ?_⟩;refine Qi Qc9 (l := []) (news:=U) rfl (o6.ext hn8.ext) (hkm) (((hsk).ext hn6.ext).ext hn8.ext) (by simp;omega) (Nat.le_trans (Nat.le_trans (hx10).size hn6.ext.size) hn8.ext.size) fun A7 c7 w7 hown7 hg7 hA7 => ?_
         refine⟨Qo hg7 (Qs o6),Hh ?_⟩
         have h8:=Qck ((Qc9).new1 hn8) (w1:=w7) (fun a' ha'=>by
          obtain rfl:(⟨b8,0,none⟩:Addr)=a':=by simpa using ha'
          exact hg7.block b8 (by rw[hn8.block];have:=hn6.size;have:=hn8.size;omega) (fun e'=>by
           have h68:b8=b6:=by simpa using e'
           have:=hn6.size;have:=hn8.size;rw[hn6.block,hn8.block] at h68;omega))
         refine Qi Qc9 (l:=U) (news := [s]) rfl (hown7) rfl (h8) (by simp;omega) (Nat.le_trans (Nat.le_trans (Nat.le_trans (hx10).size hn6.ext.size) hn8.ext.size) hg7.size) fun A9 c9 w9 hown9 hg9 hA9 => ?_
         refine⟨Qo hg9 (Qs hown7),Hh ?_⟩
         exact⟨(A9,c9),⟨Qh (Qh (((hx10).trans hn6.ext).trans hn8.ext) hg7 (Qs o6)) hg9 (Qs hown7),hown9⟩,Rr⟩
     . intro b8 w8 hn8
       refine⟨Mod.of_ext hn8.ext,Hh ?_⟩;intro b6 w6 hn6;have o6:=(Qc9).made (base:=w5.heap.size) hn6 (Nat.le_trans (hx10).size hn8.ext.size);refine⟨Mod.of_ext hn6.ext,Hh ?_⟩;refine Qi Qc9 (l := []) (news:=U) rfl (o6) (hkm) (((hsk).ext hn8.ext).ext hn6.ext) (by simp;omega) (Nat.le_trans (Nat.le_trans (hx10).size hn8.ext.size) hn6.ext.size) fun A7 c7 w7 hown7 hg7 hA7 => ?_
       refine⟨Qo hg7 (Qs o6),Hh ?_⟩
       have h8:=Qck (((Qc9).new1 hn8).ext hn6.ext) (w1:=w7) (fun a' ha'=>by
        obtain rfl:(⟨b8,0,none⟩:Addr)=a':=by simpa using ha'
        exact hg7.block b8 (by rw[hn8.block];have:=hn6.size;have:=hn8.size;omega) (fun e'=>by
         have h68:b8=b6:=by simpa using e'
         have:=hn6.size;have:=hn8.size;rw[hn6.block,hn8.block] at h68;omega))
       refine Qi Qc9 (l:=U) (news := [s]) rfl (hown7) rfl (h8) (by simp;omega) (Nat.le_trans (Nat.le_trans (Nat.le_trans (hx10).size hn8.ext.size) hn6.ext.size) hg7.size) fun A9 c9 w9 hown9 hg9 hA9 => ?_
       refine⟨Qo hg9 (Qs hown7),Hh ?_⟩
       exact⟨(A9,c9),⟨Qh (Qh (((hx10).trans hn8.ext).trans hn6.ext) hg7 (Qs o6)) hg9 (Qs hown7),hown9⟩,Rr⟩
   . rintro ⟨A10,c10⟩ w10 ⟨hx10,hown10⟩
     simp only at hown10;generalize hT1:U ++ [s]=L1 at hown10;have hL1:L1.length=U.length+1:=by rw[<- hT1];simp
     have z9:=hx10.size;refine Gg ?_;refine⟨⟨by omega,by omega,by omega,by omega⟩,Gg ?_⟩;refine Qi Qc9 (l:=L1) (news:=V) rfl hown10 hdl (hsd.ext hx10) (by omega) z9 fun A11 c11 w11 hown11 hg11 hA11 => ?_
     have hfin:U++s :: V=L1++V:=by rw[<- hT1];simp
     rw[hfin] at hnS hnP;generalize L1++V=F1 at hown11 hnS hnP ⊢;have hx11:=Qh hx10 hg11 (Qs hown10);refine Gg ?_;refine⟨_,wrap_succ (by omega),Gg ?_⟩
     exact⟨(i+1,A11,c11,F1),by simp only;omega,⟨by simp only;omega,hnP,hnS,hown11.sl Qc9.sz,hown11.le,((hx3.trans hx4).trans hx5).trans hx11⟩,Rr⟩
 . intro hge
   have hge:K.length<=i:=by simpa using hge
   rw[List.take_of_length_le hge] at hP;refine Gg ?_;constructor
   . intro hq
     have hq:n<0:=by simpa using hq
     omega
   intro _;refine Gg ?_;constructor
   . intro hq
     have hq:n<(O.length:Int):=by simpa using hq
     omega
   intro _;refine Gg ?_
   exact⟨B,d,O,rfl,hsO,hP,hS,hx1.trans hx3⟩
def Q9i (lo hi:Int) (L:List S9) (k:ByteArray):Bool:=decide (0<pa9 L k lo hi)
def Q4d (lo hi:Int) (L l:List S9):List ByteArray:=Qbp ((l.map (·.1)).filter (Q9i lo hi L))
set_option maxHeartbeats 4000000 in
theorem Qxl (w:World) (p:Nat) (width:Int) (L:List S9) (h:P9 w p width L) (hw:1<=width/\width<=1099511627776) (hok:∀ x∈L,0<=x.2.2/\x.2.2<=1048576) (hl:L.length<1000) (a b:Int) (ha:-4398046511104<=a/\a<=4398046511104) (hb:-4398046511104<=b/\b<=4398046511104) :
 Cal Tryz.prog 60 [.pointer (some ⟨p,0,none⟩),.int .i64 a,.int .i64 b] w fun r w'=>∃ A c,r = .slice A (Q4d (a/width) (b/width) L L).length c/\SlT w' A (Q4d (a/width) (b/width) L L)/\Ext w w':=by
 obtain⟨A,c,hp,hsl,hA⟩:=id h;refine Fi Tryz.func60 rfl _ rfl rfl (Hh ?_)
 refine Qd Qa (fun(q:Nat×Option Addr×Nat×List ByteArray) w'=>q.1<=L.length/\q.2.2.2=Qbp (((L.take q.1).map (·.1)).filter (Q9i (a/width) (b/width) L))/\SlT w' q.2.1 q.2.2.2/\q.2.2.2.length<=q.2.2.1/\Ext w w')
  (fun | (i,B,d,T) => [(0,.pointer (some ⟨p,0,none⟩)),(1,.int .i64 a),(2,.int .i64 b),(7,.slice B T.length d),(8,.int .i64 (i:Nat))]) (fun q=>L.length-q.1) (0,none,0,[]) ⟨Nat.zero_le _,Qmk.symm,Sl.nil,Nat.zero_le _,Ext.refl _⟩ Rr ?_
 rintro ⟨i,B,d,T⟩ w2 ⟨hi,hT,hsT,hd,hx2⟩;simp only at hi hT hsT hd;have hTl:=Qrb (fun x:S9=>x.1) (Q9i (a/width) (b/width) L) (L.take i);rw[<- hT,List.length_take] at hTl;have hp2:=hp.ext hx2;have h2:=h.ext hx2
 conv=>whnf
 refine⟨.slice A L.length c,hp2.one rfl,Hh ?_⟩;constructor
 . intro hlt
   have hlt:i<L.length:=by simpa using hlt
   obtain⟨aL,hAa,hc⟩:=(hsl.ext hx2).get hlt;subst hAa;have hst:=Qnm (fun x:S9=>x.1) (Q9i (a/width) (b/width) L) L i hlt;rw[<- hT] at hst;generalize L[i]=x at hc hst;obtain⟨key,xt,xn⟩:=x;simp only at hst;refine Gg ?_;refine⟨.slice (some aL) L.length c,hp2.one rfl,Gg ?_⟩;refine⟨aL,Ix,Gg ?_⟩;refine⟨.string key,cells_at hc (k:=0) rfl,Gg ?_⟩
   refine Qd Qa (fun(k:Nat) w'=>k<=T.length/\w'=w2/\∀ x∈T.take k,bLt x key=true)
    (fun k => [(0,.pointer (some ⟨p,0,none⟩)),(1,.int .i64 a),(2,.int .i64 b),(7,.slice B T.length d),(8,.int .i64 (i:Nat)),(9,.string key),(10,.int .i64 (k:Nat))]) (fun k=>T.length-k) 0 ⟨by omega,rfl,by simp⟩ Rr ?_
   rintro k w3 ⟨hk,hw3,hall⟩;replace hw3:=hw3.symm;subst hw3
   obtain⟨a1,x1,hk1⟩:∃ a1 x1,k<T.length->B=some a1/\T[k]? = some x1/\∀ w',Ext w2 w'->w'.cell? (a1.add (k*1))=some (.string x1):=by
    by_cases hh:k<T.length
    . obtain⟨a1,h1,h2⟩:=hsT.get hh
      exact⟨a1,T[k],fun _=>⟨h1,List.getElem?_eq_getElem hh,fun w' hx=>Qp (hx.cells h2)⟩⟩
    . exact⟨⟨0,0,none⟩,key,fun h=>absurd h hh⟩
   have hdd:∀ {p:Nat},decide ((p:Int)<(T.length:Int))=true->p<T.length:=fun h=>by simpa using h
   conv=>whnf
   refine⟨a1,fun hg=>⟨(hk1 (hdd hg)).1,by omega,by have:=hdd hg;omega⟩,Hh ?_⟩;refine⟨.string x1,fun hg=>(hk1 (hdd hg)).2.2 _ (Ext.refl _),Hh ?_⟩;constructor
   . intro hc
     have hc:(decide ((k:Int)<(T.length:Int))&&bLt x1 key)=true:=hc;rw[Bool.and_eq_true] at hc;have hlt2:=hdd hc.1;have htk:=Xl T k hlt2;have hxe:T[k]=x1:=by have:=(hk1 hlt2).2.1;rw[List.getElem?_eq_getElem hlt2] at this;simpa using this
     conv=>whnf
     refine⟨_,wrap_succ (by omega),Hh ?_⟩;refine⟨k+1,by omega,⟨by omega,rfl,fun y hy => ?_⟩,Rr⟩;rw[htk,hxe] at hy;rcases List.mem_append.1 hy with hy | hy
     . exact hall y hy
     . simp at hy;subst hy;exact hc.2
   intro hcc;have hcc:(decide ((k:Int)<(T.length:Int))&&bLt x1 key)=false:=hcc
   have hend:k=T.length\/∃ x,T[k]? = some x/\bLt x key=false:=by
    by_cases hh:k<T.length
    . refine .inr ⟨x1,(hk1 hh).2.1,?_⟩
      have:decide ((k:Int)<(T.length:Int))=true:=by simpa using hh
      rw[this] at hcc
      simpa using hcc
    . exact .inl (by omega)
   obtain⟨t1,t2⟩:=Qcc (p:=fun x=>bLt x key) hk hall hend;refine Gg ?_;refine(Qp4 w2 p width L h2 hw hok (by omega) key a b ha hb).mono ?_;rintro _ w4 ⟨rfl,hx4⟩;replace hsT:=hsT.ext hx4;replace hx2:=hx2.trans hx4
   have hkn:∀ {q:Bool},(q && !decide ((k:Int)=(T.length:Int)))=true->k<T.length:=fun h=>by
    rw[Bool.and_eq_true,Bool.not_eq_true',decide_eq_false_iff_not] at h;omega
   refine Gg ?_;refine⟨a1,fun hg _=>⟨(hk1 (by have:=hg;simp at this;omega)).1,by omega,by have:=hg;simp at this;omega⟩,Gg ?_⟩;refine⟨.string x1,fun hg _=>(hk1 (by have:=hg;simp at this;omega)).2.2 _ hx4,Gg ?_⟩;constructor
   . intro hq
     have hq:(decide (0<pa9 L key (a/width) (b/width))&&(decide ((k:Int)=(T.length:Int)) || !decide (x1=key)))=true:=hq;rw[Bool.and_eq_true,Bool.or_eq_true,Bool.not_eq_true',decide_eq_false_iff_not (p:=x1=key),decide_eq_true_eq (p:=(k:Int)=(T.length:Int))] at hq;obtain⟨hp0,hq⟩:=hq;have hp0:Q9i (a/width) (b/width) L key=true:=hp0;rw[if_pos hp0] at hst
     have hne:T[k]? ≠ some key:=fun e=>by
      have hlt:k<T.length:=(List.getElem?_eq_some_iff.1 e).1;have h1:=(hk1 hlt).2.1;rw[e] at h1;have h2:key=x1:=by simpa using h1
      rcases hq with hq | hq
      . omega
      . exact hq h2.symm
     rw[Qja t1 t2 hne] at hst;clear hk1 hcc hq hend t1 t2 hall hne hp0 hkn;have hsk:=Xt (Qfj hsT k) 0 d (by rw[List.length_take];omega);have hsd:=Xt hsT k d hd;rw[List.drop_zero] at hsk;have hkm:k=(T.take k).length:=by rw[List.length_take];omega
     have hdl:T.length-k=(T.drop k).length:=by rw[List.length_drop]
     have htot:(T.take k).length+(T.drop k).length=T.length:=by rw[List.length_take,List.length_drop];omega
     generalize T.take k=U at hsk hkm htot hst;generalize T.drop k=V at hsd hdl htot hst;generalize hT9:Qbp (((L.take (i+1)).map fun x=>x.1).filter (Q9i (a/width) (b/width) L))=T9 at hst;refine Gg ?_
     refine Qgh (ι:=Option Addr×Nat) (fun j => [(0,.pointer (some ⟨p,0,none⟩)),(1,.int .i64 a),(2,.int .i64 b),(7,.slice j.1 T9.length j.2),(8,.int .i64 (i:Nat))])
      (fun j w'=>Ext w4 w'/\SlT w' j.1 T9/\T9.length<=j.2) ?_ ?_
     . refine Qcl (.mods (fun k=>w4.heap.size<=k)) (Pl.seq [1,2,3,5,8,9,10] (Pl.two 0 (Pl.seq [] (Pl.two 4 (Pl.seq [6,7,11,12] Pl.done) 6 (Pl.seq [4,7,11,12] Pl.done))) 6 (Pl.seq [0,4,7,11,12] Pl.done))) (by intro h;cases h) Qa mixed (by kernel_rfl) (Hh ?_)
       have hx3:=(Ext.refl w4).drew;generalize w4.drew=w5 at hx3 ⊢;refine⟨⟨by omega,by omega,by omega,by omega⟩,Hh ?_⟩;refine⟨⟨by omega,by omega,by omega,by omega⟩,Hh ?_⟩;have hE:=hx3;refine⟨?_,?_⟩
       . intro b6 w6 hn6
         have o6:=(Xa).made (base:=w4.heap.size) hn6 hE.size;have hE:=hE.trans hn6.ext;refine⟨Mod.of_ext hn6.ext,Hh ?_⟩;refine⟨?_,?_⟩
         . refine Qi Xa (l := []) (news:=U) rfl o6 (hkm) ((hsk).ext hE) (by simp;omega) hE.size fun A7 c7 w7 hown7 hg7 hA7 => ?_
           have hE:=Qh hE hg7 (Qs o6);refine⟨Qo hg7 (Qs o6),Hh ?_⟩;intro b8 w8 hn8;have h8:=(Xa).new1 (x:=key) hn8;have hown7:=hown7.ext hn8.ext;have hE:=hE.trans hn8.ext;refine⟨Mod.of_ext hn8.ext,Hh ?_⟩;refine Qi Xa (l:=U) (news := [key]) rfl hown7 rfl h8 (by simp;omega) hE.size fun A9 c9 w9 hown9 hg9 hA9 => ?_
           have hE:=Qh hE hg9 (Qs hown7);refine⟨Qo hg9 (Qs hown7),Hh ?_⟩;generalize hT1:U ++ [key]=T1 at hown9 ⊢;have hT1l:T1.length=U.length+1:=by rw[<- hT1];simp
           refine Qi Xa (l:=T1) (news:=V) rfl hown9 hdl (hsd.ext hE) (by omega) hE.size fun A10 c10 w10 hown10 hg10 hA10 => ?_
           have hE:=Qh hE hg10 (Qs hown9);have hfin:T1++V=T9:=by rw[hst,<- hT1];simp
           rw[hfin] at hown10 ⊢;refine⟨Qo hg10 (Qs hown9),Hh ?_⟩
           exact⟨(A10,c10),⟨hE,hown10.sl Xa.sz,hown10.le⟩,Rr⟩
         . intro b8 w8 hn8
           have h8:=(Xa).new1 (x:=key) hn8;have o6:=o6.ext hn8.ext;have hE:=hE.trans hn8.ext;refine⟨Mod.of_ext hn8.ext,Hh ?_⟩;refine Qi Xa (l := []) (news:=U) rfl o6 (hkm) ((hsk).ext hE) (by simp;omega) hE.size fun A7 c7 w7 hown7 hg7 hA7 => ?_
           have h8:=Qck h8 (w1:=w7) (fun a' ha'=>by
            obtain rfl:(⟨b8,0,none⟩:Addr)=a':=by simpa using ha'
            exact hg7.block b8 (by rw[hn8.block];have:=hn6.size;have:=hn8.size;omega) (fun e'=>by
             have h68:b8=b6:=by simpa using e'
             have:=hn6.size;have:=hn8.size;rw[hn6.block,hn8.block] at h68;omega))
           have hE:=Qh hE hg7 (Qs o6);refine⟨Qo hg7 (Qs o6),Hh ?_⟩;refine Qi Xa (l:=U) (news := [key]) rfl hown7 rfl h8 (by simp;omega) hE.size fun A9 c9 w9 hown9 hg9 hA9 => ?_
           have hE:=Qh hE hg9 (Qs hown7);refine⟨Qo hg9 (Qs hown7),Hh ?_⟩;generalize hT1:U ++ [key]=T1 at hown9 ⊢;have hT1l:T1.length=U.length+1:=by rw[<- hT1];simp
           refine Qi Xa (l:=T1) (news:=V) rfl hown9 hdl (hsd.ext hE) (by omega) hE.size fun A10 c10 w10 hown10 hg10 hA10 => ?_
           have hE:=Qh hE hg10 (Qs hown9);have hfin:T1++V=T9:=by rw[hst,<- hT1];simp
           rw[hfin] at hown10 ⊢;refine⟨Qo hg10 (Qs hown9),Hh ?_⟩
           exact⟨(A10,c10),⟨hE,hown10.sl Xa.sz,hown10.le⟩,Rr⟩
       . intro b8 w8 hn8
         have h8:=(Xa).new1 (x:=key) hn8;have hE:=hE.trans hn8.ext;refine⟨Mod.of_ext hn8.ext,Hh ?_⟩;intro b6 w6 hn6;have o6:=(Xa).made (base:=w4.heap.size) hn6 hE.size;have hE:=hE.trans hn6.ext;have h8:=h8.ext hn6.ext;refine⟨Mod.of_ext hn6.ext,Hh ?_⟩;refine Qi Xa (l := []) (news:=U) rfl o6 (hkm) ((hsk).ext hE) (by simp;omega) hE.size fun A7 c7 w7 hown7 hg7 hA7 => ?_
         have h8:=Qck h8 (w1:=w7) (fun a' ha'=>by
          obtain rfl:(⟨b8,0,none⟩:Addr)=a':=by simpa using ha'
          exact hg7.block b8 (by rw[hn8.block];have:=hn6.size;have:=hn8.size;omega) (fun e'=>by
           have h68:b8=b6:=by simpa using e'
           have:=hn6.size;have:=hn8.size;rw[hn6.block,hn8.block] at h68;omega))
         have hE:=Qh hE hg7 (Qs o6);refine⟨Qo hg7 (Qs o6),Hh ?_⟩;refine Qi Xa (l:=U) (news := [key]) rfl hown7 rfl h8 (by simp;omega) hE.size fun A9 c9 w9 hown9 hg9 hA9 => ?_
         have hE:=Qh hE hg9 (Qs hown7);refine⟨Qo hg9 (Qs hown7),Hh ?_⟩;generalize hT1:U ++ [key]=T1 at hown9 ⊢;have hT1l:T1.length=U.length+1:=by rw[<- hT1];simp
         refine Qi Xa (l:=T1) (news:=V) rfl hown9 hdl (hsd.ext hE) (by omega) hE.size fun A10 c10 w10 hown10 hg10 hA10 => ?_
         have hE:=Qh hE hg10 (Qs hown9);have hfin:T1++V=T9:=by rw[hst,<- hT1];simp
         rw[hfin] at hown10 ⊢;refine⟨Qo hg10 (Qs hown9),Hh ?_⟩
         exact⟨(A10,c10),⟨hE,hown10.sl Xa.sz,hown10.le⟩,Rr⟩
     rintro ⟨A10,c10⟩ w10 ⟨hx10,hs10,hd10⟩;simp only at hs10 hd10;refine Gg ?_;refine⟨_,wrap_succ (by omega),Gg ?_⟩
     exact⟨(i+1,A10,c10,T9),by simp only;omega,⟨by simp only;omega,hT9.symm,hs10,hd10,hx2.trans hx10⟩,Rr⟩
   . intro hq
     have hq:(decide (0<pa9 L key (a/width) (b/width))&&(decide ((k:Int)=(T.length:Int)) || !decide (x1=key)))=false:=hq
     have hsame:Qbp (((L.take (i+1)).map (·.1)).filter (Q9i (a/width) (b/width) L))=T:=by
      rw[hst]
      split
      . next hp0 =>
        have hp0:decide (0<pa9 L key (a/width) (b/width))=true:=hp0;rw[hp0,Bool.true_and,Bool.or_eq_false_iff,Bool.not_eq_false',decide_eq_true_eq,decide_eq_false_iff_not] at hq
        exact Qnf t2 (by rw[(hk1 (by omega)).2.1,hq.2])
      . rfl
     refine Gg ?_;refine⟨_,wrap_succ (by omega),Gg ?_⟩
     exact⟨(i+1,B,d,T),by simp only;omega,⟨by simp only;omega,hsame.symm,hsT,hd,hx2⟩,Rr⟩
 . intro hge
   have hge:L.length<=i:=by simpa using hge
   rw[List.take_of_length_le hge] at hT;have hT:T=Q4d (a/width) (b/width) L L:=hT;subst hT;refine Gg ?_
   exact⟨B,d,rfl,hsT,hx2⟩
theorem Qa2:(⟨#[10]⟩:ByteArray).size=1:=rfl
theorem sz4 {a b:ByteArray} (ha:a.size<=1000000000000) (hb:b.size<=1000000000000):a.size+b.size<=9223372036854775807:=by omega
theorem Qal (n:Int) (w:World) (h0:0<=n) (h1:n<=9223372036854775807):Cal Tryz.prog 50 [.int .i64 n] w fun r w'=>r = .string (spB++nB n)/\Ext w w':=by
 obtain⟨m,rfl⟩:=Int.eq_ofNat_of_zero_le h0;have hsz:=Qaq h1;refine Fi Tryz.func50 rfl _ rfl rfl (Hh ?_);refine(Qf7 m w (by omega)).mono ?_;rintro _ w1 ⟨rfl,hx⟩;have hsz:(Qqz m).size<=21:=hsz
 conv=>whnf
 refine⟨sz4 (by have:=Qm;omega) (by omega),Hh ?_⟩
 exact⟨rfl,hx⟩
theorem Qll (s:ByteArray) (w:World):Cal Tryz.prog 55 [.string s] w fun r w'=>r = .string (Xv s)/\w'=w:=by
 refine Fi Tryz.func55 rfl _ rfl rfl (Hh ?_);constructor
 . intro h
   have h:s=⟨#[]⟩:=by simpa using h
   conv=>whnf
   exact⟨by subst h;rfl,rfl⟩
 . intro h
   have h:¬ s=⟨#[]⟩:=by simpa using h
   conv=>whnf
   exact⟨by unfold Xv;rw[decide_eq_false h];rfl,rfl⟩
theorem Xb6 (s head:ByteArray) (x:Ct):s++head++⟨#[32]⟩++x.1++(spB++nB x.2)++⟨#[10]⟩=s++Qst head x:=by
 unfold Qst;show s++head++spB++x.1++(spB++nB x.2)++nlB=_
 simp only[ByteArray.append_assoc]
theorem Qta (head:ByteArray) (x:Ct):(Qst head x).size=head.size+1+x.1.size+(1+(nB x.2).size)+1:=by
 unfold Qst;simp only[ByteArray.size_append]
 rfl
set_option maxHeartbeats 1000000 in
theorem Qlj (head:ByteArray) (l:List Ct) (A:Option Addr) (c:Nat) (w:World) (hs:Sl Qc2 2 w A l) (hh:head.size<=1000) (hl:l.length<=10000) (hb:∀ x∈l,x.1.size<=100/\0<=x.2/\x.2<=9223372036854775807) :
 Cal Tryz.prog 56 [.string head,.slice A l.length c] w fun r w'=>r = .string (Xk (l.map (Qst head)))/\Ext w w':=by
 have hsp:spB.size=1:=rfl;have hnl:nlB.size=1:=rfl
 have htot:(Xk (l.map (Qst head))).size<=20000000:=by
  have:=Qbc (K:=2000) (Qst head) l fun x hx=>by
   rw[Qta];have h1:=hb x hx;have h2:=Qaq h1.2.2;omega
  omega
 refine Fi Tryz.func56 rfl _ rfl rfl (Hh ?_)
 refine Qd Qa (fun(i:Nat) w'=>i<=l.length/\Ext w w')
  (fun i => [(0,.string head),(1,.slice A l.length c),(5,.string (Xk ((l.take i).map (Qst head)))),(6,.int .i64 (i:Nat))]) (fun i=>l.length-i) 0 ⟨Nat.zero_le _,Ext.refl _⟩ Rr ?_
 rintro i w1 ⟨hi,hx1⟩
 conv=>whnf
 constructor
 . intro hlt
   have hlt:i<l.length:=by simpa using hlt
   obtain⟨a,rfl,hc⟩:=(hs.ext hx1).get hlt;have htk:=Xi (Qst head) l i hlt;have hpt:=Qai (Qst head) l (i+1);have hbi:=hb l[i] (List.getElem_mem hlt);rw[htk,ByteArray.size_append,Qta] at hpt;generalize l[i]=x at hc htk hpt hbi;have hnb:=Qaq hbi.2.2;generalize Xk ((l.take i).map (Qst head))=s at htk hpt;refine Gg ?_;refine Dr .ext [0,1,2,3,4,5,6,7,8,9,10,11,12,13,14,15,16,17,18] [] (Hh ?_);replace hx1:=hx1.drew;replace hc:=(Ext.refl w1).drew.cells hc;generalize w1.drew=w1 at hx1 hc ⊢;refine⟨sz4 (by first | omega | (simp only[ByteArray.size_append,Qm,Qa2,hsp,hnl];omega)) (by first | omega | (simp only[ByteArray.size_append,Qm,Qa2,hsp,hnl];omega)),Hh ?_⟩;refine⟨sz4 (by first | omega | (simp only[ByteArray.size_append,Qm,Qa2,hsp,hnl];omega)) (by first | omega | (simp only[ByteArray.size_append,Qm,Qa2,hsp,hnl];omega)),Hh ?_⟩;refine⟨a,Ix,Hh ?_⟩;refine⟨.string x.1,cells_at hc (k:=0) rfl,Hh ?_⟩;refine⟨sz4 (by first | omega | (simp only[ByteArray.size_append,Qm,Qa2,hsp,hnl];omega)) (by first | omega | (simp only[ByteArray.size_append,Qm,Qa2,hsp,hnl];omega)),Hh ?_⟩;refine⟨a,Ix,Hh ?_⟩;refine⟨.int .i64 x.2,cells_at hc (k:=1) rfl,Hh ?_⟩;refine(Qal (x.2) w1 (by omega) (by omega)).mono ?_;rintro _ w2 ⟨rfl,hx2⟩;refine⟨hx2,Hh ?_⟩;refine⟨sz4 (by first | omega | (simp only[ByteArray.size_append,Qm,Qa2,hsp,hnl];omega)) (by first | omega | (simp only[ByteArray.size_append,Qm,Qa2,hsp,hnl];omega)),Hh ?_⟩;refine⟨sz4 (by first | omega | (simp only[ByteArray.size_append,Qm,Qa2,hsp,hnl];omega)) (by first | omega | (simp only[ByteArray.size_append,Qm,Qa2,hsp,hnl];omega)),Hh ?_⟩;rw[Xb6,<- htk];refine Gg ?_;refine⟨_,wrap_succ (by omega),Gg ?_⟩
   exact⟨i+1,by omega,⟨by omega,hx1.trans hx2⟩,Rr⟩
 . intro hge
   have hge:l.length<=i:=by simpa using hge
   rw[List.take_of_length_le hge];refine Gg ?_
   exact⟨rfl,hx1⟩
theorem Q9l (s:ByteArray) {e:Ev} (h:1<=(Qfs e).size):s++⟨#[101,118,101,110,116,32]⟩++Qfs e++⟨#[10]⟩=s++evD e:=by
 have ewEventB:(⟨#[101,118,101,110,116,32]⟩:ByteArray)=Qhl++spB:=by apply ByteArray.ext;rw[ByteArray.data_append];rfl
 rw[Q99 h];rw[ewEventB];show s++(Qhl++spB)++Qfs e++nlB=_
 simp only[ByteArray.append_assoc]
theorem Q9o (s:ByteArray) {z:List Ev} {now:Int} {name:ByteArray} (h:Qn name=true):s++⟨#[116,104,105,110,103,32]⟩++name++⟨#[32]⟩++Xv (X5 (Qu z) name now).1.maker++⟨#[32]⟩++Xv (X5 (Qu z) name now).1.tags++(spB++nB (X5 (Qu z) name now).1.price)++(spB++nB (X5 (Qu z) name now).1.stock)++(spB++nB (X5 (Qu z) name now).1.born)++⟨#[10]⟩=s++thD z now name:=by
 have ewThingB:(⟨#[116,104,105,110,103,32]⟩:ByteArray)=Qhm++spB:=by apply ByteArray.ext;rw[ByteArray.data_append];rfl
 rw[Xbh h];generalize (X5 (Qu z) name now).1=it;rw[ewThingB];show s++(Qhm++spB)++name++spB++Xv it.maker++spB++Xv it.tags++(spB++nB it.price)++(spB++nB it.stock)++(spB++nB it.born)++nlB=_
 simp only[ByteArray.append_assoc]
theorem Qz1 (s:ByteArray) {z:List Ev} {c:Cfg} {key:ByteArray} (h:Qn key=true):s++⟨#[112,97,110,101,32]⟩++key++(spB++nB (paS (Ql c.width z).ps key (0/Qv c.width) ((1099511627776+c.width)/Qv c.width)))++⟨#[10]⟩=s++Qdg z c key:=by
 have ewPaneB:(⟨#[112,97,110,101,32]⟩:ByteArray)=Qlr++spB:=by apply ByteArray.ext;rw[ByteArray.data_append];rfl
 rw[Q5c h];generalize paS (Ql c.width z).ps key (0/Qv c.width) ((1099511627776+c.width)/Qv c.width)=n;rw[ewPaneB];show s++(Qlr++spB)++key++(spB++nB n)++nlB=_
 simp only[ByteArray.append_assoc]
theorem Q9n (s:ByteArray) {q:Sn} (h:Qn q.person=true) (hj:1<=(jnB q.items).size):s++⟨#[115,101,115,115,105,111,110,32]⟩++q.person++(spB++nB q.from_)++(spB++nB q.to_)++⟨#[32]⟩++jnB q.items++⟨#[10]⟩=s++snD q:=by
 have ewSessionB:(⟨#[115,101,115,115,105,111,110,32]⟩:ByteArray)=Qd3++spB:=by apply ByteArray.ext;rw[ByteArray.data_append];rfl
 rw[Xa5 h hj];rw[ewSessionB];show s++(Qd3++spB)++q.person++(spB++nB q.from_)++(spB++nB q.to_)++spB++jnB q.items++nlB=_
 simp only[ByteArray.append_assoc]
theorem Qzz (s:ByteArray) {S:List Sn} {a b:ByteArray} (ha:Qn a=true) (hb:Qn b=true):s++⟨#[112,97,105,114,32]⟩++a++⟨#[32]⟩++b++(spB++nB (Qa9 S a b))++⟨#[10]⟩=s++Qir S a b:=by
 have ewPairB:(⟨#[112,97,105,114,32]⟩:ByteArray)=Qj3++spB:=by apply ByteArray.ext;rw[ByteArray.data_append];rfl
 rw[Q47 ha hb];generalize (Qa9 S a b:Int)=n;rw[ewPairB];show s++(Qj3++spB)++a++spB++b++(spB++nB n)++nlB=_
 simp only[ByteArray.append_assoc]
theorem Qxp (person:ByteArray):(⟨#[116,97,115,116,101,32]⟩:ByteArray)++person=Qe2++spB++person:=by
 have e:(⟨#[116,97,115,116,101,32]⟩:ByteArray)=Qe2++spB:=by apply ByteArray.ext;rw[ByteArray.data_append];rfl
 rw[e]
theorem Q5m (c:Cfg):(⟨#[99,111,110,102,105,103]⟩:ByteArray)++(spB++nB c.half)++(spB++nB c.width)++(spB++nB c.gap)++(spB++nB c.span)++(spB++nB c.floor)++(spB++nB c.crowd)++⟨#[10]⟩=Q27 c:=(Q7h c).symm
theorem Xap {e:Ev} (h:Xp e=true):Qn e.src=true:=(Qb1.1 h).src
theorem Q6b {c:Cfg} {z:List Ev} (hm:∀ e∈z,Xp e=true) {q:Sn} (hq:q∈Qdb c z):∀ i∈q.items,Qn i=true:=(Qsa hm hq).2.2.2
theorem Xa7 {c:Cfg} {z:List Ev} (hz:z.length<100) {q:Sn} (hq:q∈Qdb c z):q.items.length<100:=by
 unfold Qdb at hq;rw[<- Qk1 _ (Qkf _).1] at hq;have h1:=Qj6 _ _ q hq;have h2:=Qfu (lt:=ahB) ((z.filter wpB).map adE);have h3:=List.length_filter_le wpB z;rw[List.length_map] at h2;omega
theorem Xa6 {c:Cfg} {z:List Ev} (hz:z.length<1000) (hm:∀ e∈z,Xp e=true):(Qdb c z).length<=1000:=by
 have h:=(Q88 c z hm hz).len;omega
theorem Qws (l:List ByteArray) (j:Nat) (h:j<l.length):jnB (l.take (j+1))=(if 0<j then jnB (l.take j)++⟨#[44]⟩ else jnB (l.take j))++l[j]:=by
 rw[Xl l j h,Xal]
 by_cases h0:0<j
 . rw[if_pos h0,if_neg fun e=>by
    have:=congrArg List.length e;rw[List.length_take,List.length_nil] at this;omega]
 . obtain rfl:j=0:=by omega
   rw[if_neg h0,List.take_zero,if_pos rfl]
   exact(Qs1 _).symm
theorem Q4b (l:List ByteArray) (j:Nat):(jnB (l.take j)).size<=(jnB l).size:=by
 have hs:∀ m,(jnB (l.take j)).size<=(jnB (l.take (j+m))).size:=fun m=>by
  induction m with
  | zero=>exact Nat.le_refl _
  | succ m ih =>
    refine Nat.le_trans ih ?_;show _<=(jnB (l.take (j+m+1))).size
    by_cases hlt:j+m<l.length
    . rw[Qws l (j+m) hlt,ByteArray.size_append]
      split
      . rw[ByteArray.size_append];omega
      . omega
    . rw[List.take_of_length_le (by omega),List.take_of_length_le (by omega)]
      exact Nat.le_refl _
 have:=hs l.length
 rwa [List.take_of_length_le (show l.length<=j+l.length by omega)] at this
theorem Xcd {l:List ByteArray} (h:l ≠ []) (hn:∀ x∈l,Qn x=true):1<=(jnB l).size:=by
 cases l with
 | nil=>exact absurd rfl h
 | cons x l =>
   have h1:=(Xu (hn x (by simp))).1;have h2:=Qws (x :: l) 0 (by simp);have h3:=Q4b (x :: l) 1;rw[h2,ByteArray.size_append] at h3;have h4:((x :: l)[0]).size=x.size:=rfl;omega
theorem Qox {α:Type} (N:List α) {k j:Nat} (hk:k<=j) (h:j<N.length):(N.take (j+1)).drop k=(N.take j).drop k ++ [N[j]]:=by
 rw[Xl N j h,List.drop_append]
 congr 1
 have:k-(N.take j).length=0:=by rw[List.length_take];omega
 rw[this];rfl
theorem Qm9 {α:Type} {p:α->Bool} {l:List α} {y:α} (h:p y=true):(l ++ [y]).filter p=l.filter p ++ [y]:=by rw[List.filter_append,List.filter_cons_of_pos h,List.filter_nil]
theorem Qm8 {α:Type} {p:α->Bool} {l:List α} {y:α} (h:¬ p y=true):(l ++ [y]).filter p=l.filter p:=by rw[List.filter_append,List.filter_cons_of_neg h,List.filter_nil,List.append_nil]
theorem Q7g {α:Type} (f:α->ByteArray) {l m:List α} (h:l.Sublist m):(Xk (l.map f)).size<=(Xk (m.map f)).size:=by
 induction h with
 | slnil=>exact Nat.le_refl _
 | cons a _ ih =>
   refine Nat.le_trans ih ?_;show _<=(f a++Xk _).size
   rw[ByteArray.size_append];omega
 | cons_cons a _ ih =>
   show (f a++Xk _).size<=(f a++Xk _).size
   rw[ByteArray.size_append,ByteArray.size_append];omega
theorem Q1t (Q:List Sn) (x:ByteArray) (N:List ByteArray) (k j:Nat):(Xk ((((N.take j).drop k).filter (fun b=>decide (0<Qa9 Q x b))).map (Qir Q x))).size<=(Xk (((N.drop k).filter (fun b=>decide (0<Qa9 Q x b))).map (Qir Q x))).size :=
 Q7g _ (((List.take_sublist j N).drop k).filter _)
theorem Q4t {z:List Ev} (hr:Rise z) (now:Int):Qd6 (Qu z) now (Qu z)=Qcz z now:=by
 unfold Qd6 Qcz
 congr 1
 exact List.filter_congr fun x _=>(Q71 (Qh6 hr) now x).symm
theorem Qu7 {z:List Ev}:∀ e∈Qu z,thB e=true:=fun e he=>(List.mem_filter.1 he).2
theorem Qqa {z:List Ev} (hm:∀ e∈z,Xp e=true):∀ e∈Qu z,Xp e=true:=fun e he=>hm e (List.mem_filter.1 he).1
theorem Q8s {z:List Ev} (hm:∀ e∈z,Xp e=true) (hz:z.length<1000) (half now:Int) {O:List Ct} (hp:O.Perm ((Qgn half now ((z.filter wpB).map Qlt) ((z.filter wpB).map Qlt)).map fun k=>(k,Qe5 half now k ((z.filter wpB).map Qlt)))) (hs:Srt Qfg O):O=Qdm (Qcu (Qf2 (z.filter wpB)) half now):=by
 have hpe:∀ k,Qe5 half now k ((z.filter wpB).map Qlt)=Qoz (z.filter wpB) half k now:=fun k=>Q1x half now k _
 have hb:=fun k=>(Qm3 hm hz half k now).2.1
 have hmem:∀ k,k∈Qgn half now ((z.filter wpB).map Qlt) ((z.filter wpB).map Qlt)↔k∈((z.filter wpB).map Qlt).map (·.1)/\0<Qoz (z.filter wpB) half k now:=fun k=>by
  unfold Qgn Qo0;rw[X7,List.mem_filter,hpe,Bool.not_eq_true',decide_eq_false_iff_not];have:=hb k;constructor
  . rintro ⟨h1,h2⟩;exact⟨h1,by omega⟩
  . rintro ⟨h1,h2⟩;exact⟨h1,by omega⟩
 refine Qza (Q3r (f:=fun k=>Qoz (z.filter wpB) half k now) (tags:=Qgn half now ((z.filter wpB).map Qlt) ((z.filter wpB).map Qlt)) (Qfy _) (fun t ht=>(hmem t).2 ⟨?_,ht⟩) ?_) hs (Xcn hm hz half now)
 . refine Classical.byContradiction fun hn => ?_
   have ht:0<Qoz (z.filter wpB) half t now:=ht
   have h0:((z.filter wpB).filter fun e=>decide (e.item=t)) = []:=by
    rw[List.filter_eq_nil_iff];intro e he;simp only[decide_eq_true_eq];intro h
    exact hn (List.mem_map.2 ⟨Qlt e,List.mem_map.2 ⟨e,he,rfl⟩,h⟩)
   unfold Qoz at ht;rw[h0] at ht
   simp at ht
 . refine hp.trans (List.Perm.of_eq ?_)
   generalize Qgn half now ((z.filter wpB).map Qlt) ((z.filter wpB).map Qlt)=K at hmem;have hf:K.filter (fun t=>decide (0<Qoz (z.filter wpB) half t now))=K:=List.filter_eq_self.2 fun k hk=>by simpa using ((hmem k).1 hk).2
   show _=List.map (fun t=>(t,Qoz (z.filter wpB) half t now)) (K.filter (fun t=>decide (0<Qoz (z.filter wpB) half t now)))
   rw[hf]
   exact List.map_congr_left fun k _=>by rw[hpe]
theorem Q51 {z:List Ev} (width:Int) (hw:1<=width/\width<=1099511627776) (key:ByteArray) (lo hi:Int):pa9 ((z.filter wpB).map (s9E width)) key lo hi=paS (Qgs width (z.filter wpB)) key lo hi:=by
 have h1:Qv width=width:=by unfold Qv;omega
 rw[Q9j _ _ _ _ _ fun e he=>(List.mem_filter.1 he).2,<- Xax,h1]
theorem Q17 {z:List Ev} (hm:∀ e∈z,Xp e=true) (width:Int) (hw:1<=width/\width<=1099511627776) (lo hi:Int):Q4d lo hi ((z.filter wpB).map (s9E width)) ((z.filter wpB).map (s9E width))=Qch (Qgs width (z.filter wpB)) lo hi:=by
 rw[<- Q5b hm width lo hi];unfold Q4d;rw[List.map_map]
 congr 1
 refine List.filter_congr fun k _ => ?_
 unfold Q9i;rw[Q51 width hw]
theorem Qye {z:List Ev} (hr:Rise z) (hm:∀ e∈z,Xp e=true) (hz:z.length<1000) (c:Cfg) (hc:1<=c.half/\c.half<=1099511627776) (now:Int) {person:ByteArray} (hp:Qn person=true) {L:List Ct} (hL:Qqi (Qsv c.half now (rowsOf (Qha z) person)) L) (hs:Srt Qfg L):Xk (L.map (Qst (Qe2++spB++person)))=Qd8 z c now person/\L.length<=8000/\∀ x∈L,Qn x.1=true/\0<x.2/\x.2<=1099511627776:=by
 have hh:Qv c.half=c.half:=by unfold Qv;omega
 have hq:=Qza hL hs (Q8w hr hm hz c.width c.half now person);have hin:∀ x∈L,Qn x.1=true/\0<x.2/\x.2<=1099511627776:=fun x hx=>Qsj hr hm hz (Qf0.1 (hq ▸ hx))
 refine⟨?_,?_,hin⟩
 . unfold Qd8
   rw[hh,<- hq]
   congr 1
   exact List.map_congr_left fun x hx=>(Q2w hp (hin x hx).1).symm
 . rw[hq,Qhh]
   exact Qok hr hm hz c.width c.half now person
theorem Q5i {z:List Ev} (hm:∀ e∈z,Xp e=true) (hz:z.length<1000) (half now:Int):Xk ((Qdm (Qcu (Qf2 (z.filter wpB)) half now)).map (Qst Qde))=Xk ((Qdm (Qcu (Qf2 (z.filter wpB)) half now)).map Qou):=by
 congr 1
 exact List.map_congr_left fun x hx=>(Q8h (Qsl hm hz (Qf0.1 hx)).1).symm
theorem Qy:(⟨#[101,118,101,110,116,32]⟩:ByteArray).size=6:=rfl
theorem Q8:(⟨#[116,104,105,110,103,32]⟩:ByteArray).size=6:=rfl
theorem Qz:(⟨#[112,97,110,101,32]⟩:ByteArray).size=5:=rfl
theorem Q5:(⟨#[115,101,115,115,105,111,110,32]⟩:ByteArray).size=8:=rfl
theorem Q3:(⟨#[112,97,105,114,32]⟩:ByteArray).size=5:=rfl
theorem Q7:(⟨#[116,97,115,116,101,32]⟩:ByteArray).size=6:=rfl
theorem Qx:(⟨#[99,111,110,102,105,103]⟩:ByteArray).size=6:=rfl
set_option maxHeartbeats 16000000 in
theorem Qlk (c:Cfg) (hcf:Qij c=true) (z:List Ev) (A:Option Addr) (cap:Nat) (hcap:z.length<=cap) (now:Int) (w:World) (hs:SlE w A z) (hz:z.length<100) (hm:∀ e∈z,Xp e=true) (htx:∀ e∈z,e.text.size<1000000) (hr:Rise z) :
 Cal Tryz.prog 11 [Qy6 c,.slice A z.length cap,.int .i64 now] w fun r w'=>r = .string (Q6x c z (Qgr now))/\Ext w w':=by
 have hsp:spB.size=1:=rfl;obtain⟨hc1,hc2,hc3,_,hc5,hc6,hc7⟩:=Qpi hcf;have hnow:=Q4v now;have htot:=Qth hcf hr hm (by omega) (Qgr now);have hh:Qv c.half=c.half:=by unfold Qv;omega
 have hw2:Qv c.width=c.width:=by unfold Qv;omega
 have hgp:Qvl c.gap=c.gap:=by unfold Qvl;omega
 have hnD:Qgr now=min (max now 0) 1099511627776:=rfl;unfold Q6x at htot ⊢;simp only[ByteArray.size_append] at htot;refine Fi Tryz.func11 rfl _ rfl rfl (Hh ?_);intro b3 w1 hn1;conv=>whnf
 have h3:At w1 b3 23 (Qj8 c):=hn1.At;have hx:=hn1.ext;clear hn1;refine Xj Qa (ι:=Int) (fun q => [(1,.slice A z.length cap),(2,.int .i64 q),(3,.pointer (some ⟨b3,0,none⟩))]) (fun q w'=>q=max now 0/\w'=w1) ?_ ?_
 . (conv=>whnf)
   constructor
   . intro hq
     have hq:now<0:=by simpa using hq
     conv=>whnf
     exact⟨0,⟨by omega,rfl⟩,Rr⟩
   . intro hq
     have hq:¬ now<0:=by simpa using hq
     conv=>whnf
     exact⟨now,⟨by omega,rfl⟩,Rr⟩
 rintro q1 w2 ⟨hq1,hw2'⟩;subst hw2';refine Xj Qa (ι:=Int) (fun q => [(1,.slice A z.length cap),(2,.int .i64 q),(3,.pointer (some ⟨b3,0,none⟩))]) (fun q w'=>q=Qgr now/\w'=w2) ?_ ?_
 . (conv=>whnf)
   constructor
   . intro hq
     have hq:(1099511627776:Int)<q1:=by simpa using hq
     conv=>whnf
     exact⟨1099511627776,⟨by omega,rfl⟩,Rr⟩
   . intro hq
     have hq:¬ (1099511627776:Int)<q1:=by simpa using hq
     conv=>whnf
     exact⟨q1,⟨by omega,rfl⟩,Rr⟩
 rintro t w1 ⟨ht,hw1⟩;subst hw1;rw[<- ht] at htot hnow ⊢;clear hnD hq1 ht;refine Gg ?_;refine Dr .ext [0,1,4,5,8,9,12,13,16,17,20,21,2,3,6,7,10,11,14,15,18,19,22,23,24,25] [] (Hh ?_);have hxd:Ext w1 w1.drew:=(Ext.refl w1).drew;replace hx:=hx.trans hxd;replace h3:=h3.ext hxd;clear hxd;generalize w1.drew=w4 at hx h3 ⊢;refine⟨.int .i64 c.half,h3.one rfl,Hh ?_⟩;refine⟨.int .i64 c.width,h3.one rfl,Hh ?_⟩;refine⟨.int .i64 c.gap,h3.one rfl,Hh ?_⟩;refine⟨.int .i64 c.span,h3.one rfl,Hh ?_⟩;refine⟨.int .i64 c.floor,h3.one rfl,Hh ?_⟩;refine⟨.int .i64 c.crowd,h3.one rfl,Hh ?_⟩;have hcs:=congrArg ByteArray.size (Q5m c);simp only[ByteArray.size_append,Qm,Qa2,hsp,Qy,Q8,Qz,Q5,Q3,Q7,Qx] at hcs;have hb1:=Qaq (n:=c.half) (by omega);have hb2:=Qaq (n:=c.width) (by omega);have hb3:=Qaq (n:=c.gap) (by omega);have hb4:=Qaq (n:=c.span) (by omega);have hb5:=Qaq (n:=c.floor) (by omega);have hb6:=Qaq (n:=c.crowd) (by omega);refine(Qal (c.half) w4 (by omega) (by omega)).mono ?_;rintro _ w10 ⟨rfl,hx10⟩;refine⟨hx10,Hh ?_⟩;replace hx:=hx.trans hx10;replace h3:=h3.ext hx10;clear hx10;refine⟨sz4 (by first | omega | (simp only[ByteArray.size_append,Qm,Qa2,hsp,Qy,Q8,Qz,Q5,Q3,Q7,Qx];omega)) (by first | omega | (simp only[ByteArray.size_append,Qm,Qa2,hsp,Qy,Q8,Qz,Q5,Q3,Q7,Qx];omega)),Hh ?_⟩;refine(Qal (c.width) w10 (by omega) (by omega)).mono ?_;rintro _ w11 ⟨rfl,hx11⟩;refine⟨hx11,Hh ?_⟩;replace hx:=hx.trans hx11;replace h3:=h3.ext hx11;clear hx11;refine⟨sz4 (by first | omega | (simp only[ByteArray.size_append,Qm,Qa2,hsp,Qy,Q8,Qz,Q5,Q3,Q7,Qx];omega)) (by first | omega | (simp only[ByteArray.size_append,Qm,Qa2,hsp,Qy,Q8,Qz,Q5,Q3,Q7,Qx];omega)),Hh ?_⟩;refine(Qal (c.gap) w11 (by omega) (by omega)).mono ?_;rintro _ w12 ⟨rfl,hx12⟩;refine⟨hx12,Hh ?_⟩;replace hx:=hx.trans hx12;replace h3:=h3.ext hx12;clear hx12;refine⟨sz4 (by first | omega | (simp only[ByteArray.size_append,Qm,Qa2,hsp,Qy,Q8,Qz,Q5,Q3,Q7,Qx];omega)) (by first | omega | (simp only[ByteArray.size_append,Qm,Qa2,hsp,Qy,Q8,Qz,Q5,Q3,Q7,Qx];omega)),Hh ?_⟩;refine(Qal (c.span) w12 (by omega) (by omega)).mono ?_;rintro _ w13 ⟨rfl,hx13⟩;refine⟨hx13,Hh ?_⟩;replace hx:=hx.trans hx13;replace h3:=h3.ext hx13;clear hx13;refine⟨sz4 (by first | omega | (simp only[ByteArray.size_append,Qm,Qa2,hsp,Qy,Q8,Qz,Q5,Q3,Q7,Qx];omega)) (by first | omega | (simp only[ByteArray.size_append,Qm,Qa2,hsp,Qy,Q8,Qz,Q5,Q3,Q7,Qx];omega)),Hh ?_⟩;refine(Qal (c.floor) w13 (by omega) (by omega)).mono ?_;rintro _ w14 ⟨rfl,hx14⟩;refine⟨hx14,Hh ?_⟩;replace hx:=hx.trans hx14;replace h3:=h3.ext hx14;clear hx14;refine⟨sz4 (by first | omega | (simp only[ByteArray.size_append,Qm,Qa2,hsp,Qy,Q8,Qz,Q5,Q3,Q7,Qx];omega)) (by first | omega | (simp only[ByteArray.size_append,Qm,Qa2,hsp,Qy,Q8,Qz,Q5,Q3,Q7,Qx];omega)),Hh ?_⟩;refine(Qal (c.crowd) w14 (by omega) (by omega)).mono ?_;rintro _ w15 ⟨rfl,hx15⟩;refine⟨hx15,Hh ?_⟩;replace hx:=hx.trans hx15;replace h3:=h3.ext hx15;clear hx15;refine⟨sz4 (by first | omega | (simp only[ByteArray.size_append,Qm,Qa2,hsp,Qy,Q8,Qz,Q5,Q3,Q7,Qx];omega)) (by first | omega | (simp only[ByteArray.size_append,Qm,Qa2,hsp,Qy,Q8,Qz,Q5,Q3,Q7,Qx];omega)),Hh ?_⟩;refine⟨sz4 (by first | omega | (simp only[ByteArray.size_append,Qm,Qa2,hsp,Qy,Q8,Qz,Q5,Q3,Q7,Qx];omega)) (by first | omega | (simp only[ByteArray.size_append,Qm,Qa2,hsp,Qy,Q8,Qz,Q5,Q3,Q7,Qx];omega)),Hh ?_⟩;rw[Q5m];clear hb1 hb2 hb3 hb4 hb5 hb6 hcs;have hP:(Q27 c).size=(Q27 c).size:=rfl;generalize hS:Q27 c=S at htot ⊢;clear hP hS;have h0:S++Xk ((z.take 0).map evD)=S:=X8 S;refine Gg ?_
 refine Qd Qa (fun(k:Nat) w'=>k<=z.length/\Ext w15 w')
  (fun k => [(1,.slice A z.length cap),(2,.int .i64 t),(3,.pointer (some ⟨b3,0,none⟩)),(7,.string (S++Xk ((z.take k).map evD))),(8,.int .i64 (k:Nat))]) (fun k=>z.length-k) 0 ⟨Nat.zero_le _,Ext.refl _⟩ (by rw[h0];exact Rr) ?_
 clear h0;rintro k w16 ⟨hk,hx16⟩
 conv=>whnf
 constructor
 . intro hlt
   have hlt:k<z.length:=by simpa using hlt
   obtain⟨a,rfl,hc⟩:=(hs.ext (hx.trans hx16)).get hlt;have htk:=Xi evD z k hlt;have hpk:=Qai evD z (k+1);rw[htk,ByteArray.size_append] at hpk;have hme:=hm z[k] (List.getElem_mem hlt);have hte:=htx z[k] (List.getElem_mem hlt);generalize z[k]=e at hc htk hpk hme hte;have hfo:=Qko hme hte;have hfp:=Xae e (Xap hme);have hes:=congrArg ByteArray.size (Q9l S hfp);simp only[ByteArray.size_append,Qm,Qa2,hsp,Qy,Q8,Qz,Q5,Q3,Q7,Qx] at hes;generalize Xk ((z.take k).map evD)=u at htk hpk;refine Gg ?_;refine⟨sz4 (by first | omega | (simp only[ByteArray.size_append,Qm,Qa2,hsp,Qy,Q8,Qz,Q5,Q3,Q7,Qx];omega)) (by first | omega | (simp only[ByteArray.size_append,Qm,Qa2,hsp,Qy,Q8,Qz,Q5,Q3,Q7,Qx];omega)),Gg ?_⟩;refine⟨a,Ix,Gg ?_⟩;refine⟨evC e,⟨rfl,hc⟩,Gg ?_⟩;refine(Qg8 e w16 hfo).mono ?_;rintro _ w17 ⟨rfl,hx17⟩;refine Gg ?_;refine⟨sz4 (by first | omega | (simp only[ByteArray.size_append,Qm,Qa2,hsp,Qy,Q8,Qz,Q5,Q3,Q7,Qx];omega)) (by first | omega | (simp only[ByteArray.size_append,Qm,Qa2,hsp,Qy,Q8,Qz,Q5,Q3,Q7,Qx];omega)),Gg ?_⟩;refine⟨sz4 (by first | omega | (simp only[ByteArray.size_append,Qm,Qa2,hsp,Qy,Q8,Qz,Q5,Q3,Q7,Qx];omega)) (by first | omega | (simp only[ByteArray.size_append,Qm,Qa2,hsp,Qy,Q8,Qz,Q5,Q3,Q7,Qx];omega)),Gg ?_⟩;rw[Q9l _ hfp,ByteArray.append_assoc,<- htk];refine⟨_,wrap_succ (by omega),Gg ?_⟩
   exact⟨k+1,by omega,⟨by omega,hx16.trans hx17⟩,Rr⟩
 intro hge;have hge:z.length<=k:=by simpa using hge
 rw[List.take_of_length_le hge];replace hx:=hx.trans hx16;replace h3:=h3.ext hx16;clear hge hx16 hk;have hS1:(S++Xk (z.map evD)).size=S.size+(Xk (z.map evD)).size:=ByteArray.size_append;generalize S++Xk (z.map evD)=S1 at hS1 ⊢;refine Gg ?_;refine(Qlm z A cap w16 (hs.ext hx) (by omega)).mono ?_;rintro _ w17 ⟨A9,c9,rfl,hs9,hx17⟩;replace hx:=hx.trans hx17;replace h3:=h3.ext hx17;clear hx17;have htl:(Qu z).length<=z.length:=List.length_filter_le thB z;refine Gg ?_;refine(Qr0 (Qu z) t A9 c9 w17 hs9 (by omega) Qu7 (Qqa hm)).mono ?_;rw[Q4t hr];rintro _ w18 ⟨A10,c10,rfl,hs10,hx18⟩;replace hs9:=hs9.ext hx18;replace hx:=hx.trans hx18;replace h3:=h3.ext hx18;clear hx18;have hnl:=Qnq z t
 have hnn:∀ x∈Qcz z t,Qn x=true:=fun x hx=>by
  obtain⟨e,he,rfl⟩:=names_in hx
  exact Qk4 hm he
 have hT:=Qu7 (z:=z);have hTm:=Qqa hm;have hTd:=fun x=>(Qi3 (Qh6 hr) x t)
 have hTb:=fun x=>Qvy hm x t
 generalize Qcz z t=N at hs10 hnl hnn htot ⊢;have h0:S1++Xk ((N.take 0).map (thD z t))=S1:=X8 S1;refine Gg ?_
 refine Qd Qa (fun(k:Nat) w'=>k<=N.length/\Ext w18 w')
  (fun k => [(1,.slice A z.length cap),(2,.int .i64 t),(3,.pointer (some ⟨b3,0,none⟩)),(7,.string (S1++Xk ((N.take k).map (thD z t)))),(9,.slice A9 (Qu z).length c9),(10,.slice A10 N.length c10),(11,.int .i64 (k:Nat))]) (fun k=>N.length-k) 0 ⟨Nat.zero_le _,Ext.refl _⟩ (by rw[h0];exact Rr) ?_
 clear h0;rintro k w19 ⟨hk,hx19⟩
 conv=>whnf
 constructor
 . intro hlt
   have hlt:k<N.length:=by simpa using hlt
   obtain⟨a,rfl,hca⟩:=(hs10.ext hx19).get hlt;have htk:=Xi (thD z t) N k hlt;have hpk:=Qai (thD z t) N (k+1);rw[htk,ByteArray.size_append] at hpk;have hnk:=hnn N[k] (List.getElem_mem hlt);generalize hxk:N[k]=x at hca htk hpk hnk;have hib:=hTb x;have hes:=congrArg ByteArray.size (Q9o S1 (z:=z) (now:=t) hnk);have hle:=fun s=>Q9o s (z:=z) (now:=t) hnk
   have hd:=hTd x;generalize X5 (Qu z) x t=it at hib hes hle hd;simp only[ByteArray.size_append,Qm,Qa2,hsp,Qy,Q8,Qz,Q5,Q3,Q7,Qx] at hes;obtain⟨i1,i2,i3,i4,i5⟩:=hib;have hit:Qjb x ((Qu z).filter (thQ x t))=it.1:=by rw[hd]
   have hb1:=Qaq (n:=it.1.price) (by omega);have hb2:=Qaq (n:=it.1.stock) (by omega);have hb3:=Qaq (n:=it.1.born) (by omega);have hxn:=Xu hnk;generalize Xk ((N.take k).map (thD z t))=u at htk hpk;refine Gg ?_;refine⟨a,Ix,Gg ?_⟩;refine⟨.string x,Qp hca,Gg ?_⟩;refine(Qjp (Qu z) x t A9 c9 w19 (hs9.ext hx19) (by omega) hT hTm).mono ?_;rintro _ w20 ⟨rfl,hx20⟩;rw[hit];refine Gg ?_;intro b12 w21 hn21;refine Gg ?_;refine Qg Qa (e:=ty103) rfl hn21.At rfl rfl rfl (by simp[Qr,itC,Value.oneCell']) fun w22 h12 ho22 => ?_
   have h12:At w22 b12 103 (itC it.1):=h12;have hx22:Ext w20 w22:=ho22.ext hn21.ext (by rw[hn21.block];exact Nat.le_refl _);clear ho22 hn21;have hxa:=(hx19.trans hx20).trans hx22;replace hca:=(hs10.ext hxa).get hlt;refine Gg ?_;refine Dr .ext [0,1,2,3,4,5,6,7,8,9,13,14,17,18,21,22,25,26,10,11,12,15,16,19,20,23,24,27,28,29,30] [] (Hh ?_);obtain⟨a',ha',hcd⟩:=hca;obtain rfl:a=a':=by simpa using ha'
   have hxd:Ext w22 w22.drew:=(Ext.refl w22).drew;replace hxa:=hxa.trans hxd;replace h12:=h12.ext hxd;replace hcd:=hxd.cells hcd;rw[hxk] at hcd;generalize w22.drew=w23 at hxa h12 hcd ⊢;refine⟨sz4 (by first | omega | (simp only[ByteArray.size_append,Qm,Qa2,hsp,Qy,Q8,Qz,Q5,Q3,Q7,Qx];omega)) (by first | omega | (simp only[ByteArray.size_append,Qm,Qa2,hsp,Qy,Q8,Qz,Q5,Q3,Q7,Qx];omega)),Hh ?_⟩;refine⟨a,Ix,Hh ?_⟩;refine⟨.string x,Qp hcd,Hh ?_⟩;refine⟨sz4 (by first | omega | (simp only[ByteArray.size_append,Qm,Qa2,hsp,Qy,Q8,Qz,Q5,Q3,Q7,Qx];omega)) (by first | omega | (simp only[ByteArray.size_append,Qm,Qa2,hsp,Qy,Q8,Qz,Q5,Q3,Q7,Qx];omega)),Hh ?_⟩;refine⟨sz4 (by first | omega | (simp only[ByteArray.size_append,Qm,Qa2,hsp,Qy,Q8,Qz,Q5,Q3,Q7,Qx];omega)) (by first | omega | (simp only[ByteArray.size_append,Qm,Qa2,hsp,Qy,Q8,Qz,Q5,Q3,Q7,Qx];omega)),Hh ?_⟩;refine⟨.string it.1.maker,h12.one rfl,Hh ?_⟩;refine⟨.string it.1.tags,h12.one rfl,Hh ?_⟩;refine⟨.int .i64 it.1.price,h12.one rfl,Hh ?_⟩;refine⟨.int .i64 it.1.stock,h12.one rfl,Hh ?_⟩;refine⟨.int .i64 it.1.born,h12.one rfl,Hh ?_⟩;have hm1:=Qh4 it.1.maker;have hm2:=Qh4 it.1.tags;refine(Qll it.1.maker w23).mono ?_;rintro _ _ ⟨rfl,rfl⟩;refine⟨Ext.refl _,Hh ?_⟩;refine⟨sz4 (by first | omega | (simp only[ByteArray.size_append,Qm,Qa2,hsp,Qy,Q8,Qz,Q5,Q3,Q7,Qx];omega)) (by first | omega | (simp only[ByteArray.size_append,Qm,Qa2,hsp,Qy,Q8,Qz,Q5,Q3,Q7,Qx];omega)),Hh ?_⟩;refine⟨sz4 (by first | omega | (simp only[ByteArray.size_append,Qm,Qa2,hsp,Qy,Q8,Qz,Q5,Q3,Q7,Qx];omega)) (by first | omega | (simp only[ByteArray.size_append,Qm,Qa2,hsp,Qy,Q8,Qz,Q5,Q3,Q7,Qx];omega)),Hh ?_⟩;refine(Qll it.1.tags _).mono ?_;rintro _ _ ⟨rfl,rfl⟩;refine⟨Ext.refl _,Hh ?_⟩;refine⟨sz4 (by first | omega | (simp only[ByteArray.size_append,Qm,Qa2,hsp,Qy,Q8,Qz,Q5,Q3,Q7,Qx];omega)) (by first | omega | (simp only[ByteArray.size_append,Qm,Qa2,hsp,Qy,Q8,Qz,Q5,Q3,Q7,Qx];omega)),Hh ?_⟩;refine(Qal (it.1.price) _ (by omega) (by omega)).mono ?_;rintro _ w24 ⟨rfl,hx24⟩;refine⟨hx24,Hh ?_⟩;replace hxa:=hxa.trans hx24;refine⟨sz4 (by first | omega | (simp only[ByteArray.size_append,Qm,Qa2,hsp,Qy,Q8,Qz,Q5,Q3,Q7,Qx];omega)) (by first | omega | (simp only[ByteArray.size_append,Qm,Qa2,hsp,Qy,Q8,Qz,Q5,Q3,Q7,Qx];omega)),Hh ?_⟩;refine(Qal (it.1.stock) _ (by omega) (by omega)).mono ?_;rintro _ w25 ⟨rfl,hx25⟩;refine⟨hx25,Hh ?_⟩;replace hxa:=hxa.trans hx25;refine⟨sz4 (by first | omega | (simp only[ByteArray.size_append,Qm,Qa2,hsp,Qy,Q8,Qz,Q5,Q3,Q7,Qx];omega)) (by first | omega | (simp only[ByteArray.size_append,Qm,Qa2,hsp,Qy,Q8,Qz,Q5,Q3,Q7,Qx];omega)),Hh ?_⟩;refine(Qal (it.1.born) _ (by omega) (by omega)).mono ?_;rintro _ w26 ⟨rfl,hx26⟩;refine⟨hx26,Hh ?_⟩;replace hxa:=hxa.trans hx26;refine⟨sz4 (by first | omega | (simp only[ByteArray.size_append,Qm,Qa2,hsp,Qy,Q8,Qz,Q5,Q3,Q7,Qx];omega)) (by first | omega | (simp only[ByteArray.size_append,Qm,Qa2,hsp,Qy,Q8,Qz,Q5,Q3,Q7,Qx];omega)),Hh ?_⟩;refine⟨sz4 (by first | omega | (simp only[ByteArray.size_append,Qm,Qa2,hsp,Qy,Q8,Qz,Q5,Q3,Q7,Qx];omega)) (by first | omega | (simp only[ByteArray.size_append,Qm,Qa2,hsp,Qy,Q8,Qz,Q5,Q3,Q7,Qx];omega)),Hh ?_⟩;rw[hle,ByteArray.append_assoc,<- htk];refine Gg ?_;refine⟨_,wrap_succ (by omega),Gg ?_⟩
   exact⟨k+1,by omega,⟨by omega,hxa⟩,Rr⟩
 intro hge;have hge:N.length<=k:=by simpa using hge
 rw[List.take_of_length_le hge];replace hx:=hx.trans hx19;replace h3:=h3.ext hx19;clear hge hx19 hk hTd hTb hs10 hs9;have hS1:(S1++Xk (N.map (thD z t))).size=S1.size+(Xk (N.map (thD z t))).size:=ByteArray.size_append;generalize S1++Xk (N.map (thD z t))=S2 at hS1 ⊢;refine Gg ?_;refine⟨.int .i64 c.half,h3.one rfl,Gg ?_⟩;refine(Qr1 z A cap c.half w19 (hs.ext hx) (by omega) hm).mono ?_;rintro _ w20 ⟨pp,rfl,hC,hx20⟩;refine Gg ?_;have hfl:=List.length_filter_le wpB z
 have hAok:∀ x∈(z.filter wpB).map Qlt,Qqg x:=fun x hx=>by
  obtain⟨e,he,rfl⟩:=List.mem_map.1 hx
  exact Q89 (hm e (List.mem_filter.1 he).1) (List.mem_filter.1 he).2
 refine(Qxq w20 pp c.half _ hC hAok (by rw[List.length_map];omega) hc1 t hnow 1048576 (by omega)).mono ?_;rintro _ w21 ⟨A21,c21,O,rfl,hsO,hO,hOs,hx21⟩;have hOe:=Q8s hm (by omega) c.half t hO hOs;have hin:∀ x∈O,Qn x.1=true/\0<x.2/\x.2<=1099511627776:=fun x hx=>Qsl hm (by omega) (Qf0.1 (hOe ▸ hx))
 have hOl:O.length<=z.length:=by rw[hOe,Qhh];exact Qsm z c.half t
 refine Gg ?_;refine(Qlj Qde O A21 c21 w21 hsO (by decide) (by omega) fun x hx=>⟨by have:=Xu (hin x hx).1;omega,by have:=hin x hx;omega,by have:=hin x hx;omega⟩).mono ?_;rintro _ w22 ⟨rfl,hx22⟩
 have hpl:Xk (O.map (Qst Qde))=Xk ((Qdm (Qcu (Ql c.width z).ds (Qv c.half) t)).map Qou):=by
  rw[(Qb6 c.width z).1,hh,hOe]
  exact Q5i hm (by omega) c.half t
 rw[hpl];clear hpl hin hOl hOe hO hOs hsO hC hAok;replace hx:=((hx.trans hx20).trans hx21).trans hx22;replace h3:=((h3.ext hx20).ext hx21).ext hx22;clear hx20 hx21 hx22;generalize Xk ((Qdm (Qcu (Ql c.width z).ds (Qv c.half) t)).map Qou)=PP at htot ⊢;refine Gg ?_;refine⟨sz4 (by first | omega | (simp only[ByteArray.size_append,Qm,Qa2,hsp,Qy,Q8,Qz,Q5,Q3,Q7,Qx];omega)) (by first | omega | (simp only[ByteArray.size_append,Qm,Qa2,hsp,Qy,Q8,Qz,Q5,Q3,Q7,Qx];omega)),Gg ?_⟩;have hS1:(S2++PP).size=S2.size+(PP).size:=ByteArray.size_append;generalize S2++PP=S3 at hS1 ⊢;refine⟨.int .i64 c.width,h3.one rfl,Gg ?_⟩;refine(Qxk z A cap c.width hc2 w22 (hs.ext hx) (by omega) hm).mono ?_;rintro _ w23 ⟨p9,rfl,hP9,hx23⟩;replace hx:=hx.trans hx23;replace h3:=h3.ext hx23;clear hx23;refine Gg ?_;refine⟨.int .i64 c.width,h3.one rfl,Gg ?_⟩;refine⟨1099511627776+c.width,wrap_eq rfl ⟨by omega,by omega⟩,Gg ?_⟩
 have h9k:∀ x∈(z.filter wpB).map (s9E c.width),0<=x.2.2/\x.2.2<=1048576:=fun x hx=>by
  obtain⟨e,he,rfl⟩:=List.mem_map.1 hx;have:=Qdt (hm e (List.mem_filter.1 he).1);show 0<=Qw e/\Qw e<=1048576
  omega
 have h9l:((z.filter wpB).map (s9E c.width)).length<1000:=by rw[List.length_map];omega
 refine(Qxl w23 p9 c.width _ hP9 hc2 h9k h9l 0 (1099511627776+c.width) ⟨by omega,by omega⟩ ⟨by omega,by omega⟩).mono ?_;rw[Q17 hm c.width hc2];rintro _ w24 ⟨A24,c24,rfl,hs24,hx24⟩;have hps:=(Qb6 c.width z).2.1;have hkw:Qch (Qgs c.width (z.filter wpB)) (0/c.width) ((1099511627776+c.width)/c.width)=Qch (Ql c.width z).ps (0/Qv c.width) ((1099511627776+c.width)/Qv c.width):=by rw[hps,hw2]
 have hkn:∀ x∈Qch (Qgs c.width (z.filter wpB)) (0/c.width) ((1099511627776+c.width)/c.width),Qn x=true:=fun x hx=>Qra hm hx
 have hkl:=Qnl z c.width (0/c.width) ((1099511627776+c.width)/c.width);have hpn:=fun key=>Qrs hm (by omega) c.width key (0/Qv c.width) ((1099511627776+c.width)/Qv c.width)
 rw[hkw] at hkn hkl hs24 ⊢;generalize Qch (Ql c.width z).ps (0/Qv c.width) ((1099511627776+c.width)/Qv c.width)=N at hs24 hkn hkl htot ⊢;replace hP9:=hP9.ext hx24;replace hx:=hx.trans hx24;replace h3:=h3.ext hx24;clear hx24 hkw;have h0:S3++Xk ((N.take 0).map (Qdg z c))=S3:=X8 S3;refine Gg ?_
 refine Qd Qa (fun(k:Nat) w'=>k<=N.length/\Ext w24 w')
  (fun k => [(1,.slice A z.length cap),(2,.int .i64 t),(3,.pointer (some ⟨b3,0,none⟩)),(7,.string (S3++Xk ((N.take k).map (Qdg z c)))),(14,.pointer (some ⟨p9,0,none⟩)),(15,.slice A24 N.length c24),(16,.int .i64 (k:Nat))]) (fun k=>N.length-k) 0 ⟨Nat.zero_le _,Ext.refl _⟩ (by rw[h0];exact Rr) ?_
 clear h0;rintro k w25 ⟨hk,hx25⟩
 conv=>whnf
 constructor
 . intro hlt
   have hlt:k<N.length:=by simpa using hlt
   obtain⟨a,rfl,hca⟩:=(hs24.ext hx25).get hlt;have htk:=Xi (Qdg z c) N k hlt;have hpk:=Qai (Qdg z c) N (k+1);rw[htk,ByteArray.size_append] at hpk;have hnk:=hkn N[k] (List.getElem_mem hlt);generalize N[k]=x at hca htk hpk hnk;have hes:=congrArg ByteArray.size (Qz1 S3 (z:=z) (c:=c) hnk);have hle:=fun s=>Qz1 s (z:=z) (c:=c) hnk
   have hpa:pa9 ((z.filter wpB).map (s9E c.width)) x (0/c.width) ((1099511627776+c.width)/c.width)=paS (Ql c.width z).ps x (0/Qv c.width) ((1099511627776+c.width)/Qv c.width):=by rw[Q51 c.width hc2,hps,hw2]
   have hpx:=hpn x;rw[<- hps] at hpx;generalize paS (Ql c.width z).ps x (0/Qv c.width) ((1099511627776+c.width)/Qv c.width)=n at hes hle hpa hpx;simp only[ByteArray.size_append,Qm,Qa2,hsp,Qy,Q8,Qz,Q5,Q3,Q7,Qx] at hes;have hb1:=Qaq (n:=n) (by omega);have hxn:=Xu hnk;generalize Xk ((N.take k).map (Qdg z c))=u at htk hpk;refine Gg ?_;refine Dr .ext [0,1,2,3,4,5,6,7,8,9,10,11,12,13,14,15,16,17,18,19] [] (Hh ?_);have hxd:Ext w25 w25.drew:=(Ext.refl w25).drew;replace hx25:=hx25.trans hxd;replace hca:=hxd.cells hca;generalize w25.drew=w26 at hx25 hca ⊢;have h36:=h3.ext hx25;have h96:=hP9.ext hx25;refine⟨sz4 (by first | omega | (simp only[ByteArray.size_append,Qm,Qa2,hsp,Qy,Q8,Qz,Q5,Q3,Q7,Qx];omega)) (by first | omega | (simp only[ByteArray.size_append,Qm,Qa2,hsp,Qy,Q8,Qz,Q5,Q3,Q7,Qx];omega)),Hh ?_⟩;refine⟨a,Ix,Hh ?_⟩;refine⟨.string x,Qp hca,Hh ?_⟩;refine⟨sz4 (by first | omega | (simp only[ByteArray.size_append,Qm,Qa2,hsp,Qy,Q8,Qz,Q5,Q3,Q7,Qx];omega)) (by first | omega | (simp only[ByteArray.size_append,Qm,Qa2,hsp,Qy,Q8,Qz,Q5,Q3,Q7,Qx];omega)),Hh ?_⟩;refine⟨a,Ix,Hh ?_⟩;refine⟨.string x,Qp hca,Hh ?_⟩;refine⟨.int .i64 c.width,h36.one rfl,Hh ?_⟩;refine⟨1099511627776+c.width,wrap_eq rfl ⟨by omega,by omega⟩,Hh ?_⟩;refine(Qp4 w26 p9 c.width _ h96 hc2 h9k (by omega) x 0 (1099511627776+c.width) ⟨by omega,by omega⟩ ⟨by omega,by omega⟩).mono ?_;rintro _ w27 ⟨rfl,hx27⟩;rw[hpa];refine⟨hx27,Hh ?_⟩;refine(Qal (n) w27 (by omega) (by omega)).mono ?_;rintro _ w28 ⟨rfl,hx28⟩;refine⟨hx28,Hh ?_⟩;refine⟨sz4 (by first | omega | (simp only[ByteArray.size_append,Qm,Qa2,hsp,Qy,Q8,Qz,Q5,Q3,Q7,Qx];omega)) (by first | omega | (simp only[ByteArray.size_append,Qm,Qa2,hsp,Qy,Q8,Qz,Q5,Q3,Q7,Qx];omega)),Hh ?_⟩;refine⟨sz4 (by first | omega | (simp only[ByteArray.size_append,Qm,Qa2,hsp,Qy,Q8,Qz,Q5,Q3,Q7,Qx];omega)) (by first | omega | (simp only[ByteArray.size_append,Qm,Qa2,hsp,Qy,Q8,Qz,Q5,Q3,Q7,Qx];omega)),Hh ?_⟩;rw[hle,ByteArray.append_assoc,<- htk];refine Gg ?_;refine⟨_,wrap_succ (by omega),Gg ?_⟩
   exact⟨k+1,by omega,⟨by omega,(hx25.trans hx27).trans hx28⟩,Rr⟩
 intro hge;have hge:N.length<=k:=by simpa using hge
 rw[List.take_of_length_le hge];replace hx:=hx.trans hx25;replace h3:=h3.ext hx25;clear hge hx25 hk hpn hs24 hP9 h9k h9l hkn hkl;have hS1:(S3++Xk (N.map (Qdg z c))).size=S3.size+(Xk (N.map (Qdg z c))).size:=ByteArray.size_append;generalize S3++Xk (N.map (Qdg z c))=S4 at hS1 ⊢;refine Gg ?_;refine⟨.int .i64 c.gap,h3.one rfl,Gg ?_⟩;refine(Qo2 z A cap c.gap hc5 w25 (hs.ext hx) (by omega) hm).mono ?_;have hsE:Qhf c.gap (Qh5 (z.filter wpB))=Qdb c z:=by unfold Qdb;rw[hgp]
 rw[hsE];rintro _ w26 ⟨A26,c26,T,rfl,hs26,hS26,hx26⟩;replace hx:=hx.trans hx26;replace h3:=h3.ext hx26;have hx26s:=hx26.size;clear hx26 hsE;have hQn:=fun q (hq:q∈Qdb c z)=>Qsa hm hq
 have hQe:=Q9r c z;have hQi:=fun q (hq:q∈Qdb c z)=>Q6b hm hq
 have hQl:=fun q (hq:q∈Qdb c z)=>Xa7 hz hq
 have hQz:=Xa6 (c:=c) (by omega) hm;have hin:=fun x (hx:x∈Qac (Qdb c z))=>Qki hm hx
 have hil:=Qni c z;have hpr:=fun i a hi ha=>Q5a (S:=Qdb c z) (i:=i) (a:=a) hi ha
 have hpl:=fun a=>Qnu (Qdb c z) a
 generalize Qdb c z=Q at hS26 hQn hQe hQi hQl hQz hin hil hpr hpl htot ⊢;have hlen:=hS26.len;have h0:S4++Xk ((Q.take 0).map snD)=S4:=X8 S4;refine Gg ?_
 refine Qd Qa (fun(k:Nat) w'=>k<=T.length/\Ext w26 w')
  (fun k => [(1,.slice A z.length cap),(2,.int .i64 t),(3,.pointer (some ⟨b3,0,none⟩)),(7,.string (S4++Xk ((Q.take k).map snD))),(17,.slice A26 T.length c26),(18,.int .i64 (k:Nat))]) (fun k=>T.length-k) 0 ⟨Nat.zero_le _,Ext.refl _⟩ (by rw[h0];exact Rr) ?_
 clear h0;rintro k w27 ⟨hk,hx27⟩
 conv=>whnf
 constructor
 . intro hlt
   have hlt:k<T.length:=by simpa using hlt
   have hlq:k<Q.length:=by omega
   obtain⟨a,rfl,hca⟩:=(hs26.ext hx27).get hlt;have htk:=Xi snD Q k hlq;have hpk:=Qai snD Q (k+1);rw[htk,ByteArray.size_append] at hpk;have hsn:=(hS26.ext hx27).at_ k T[k] Q[k] (List.getElem?_eq_getElem hlt) (List.getElem?_eq_getElem hlq);have hqn:=hQn Q[k] (List.getElem_mem hlq);have hqe:=hQe Q[k] (List.getElem_mem hlq);have hqi:=hQi Q[k] (List.getElem_mem hlq);have hql:=hQl Q[k] (List.getElem_mem hlq);generalize Q[k]=q at hsn htk hpk hqn hqe hqi hql;generalize T[k]=dd at hca hsn;obtain⟨g1,g2,g3,g4,g5,_,_⟩:=hsn;obtain⟨d1,d2,d3,dA,dn,dc⟩:=dd;simp only at g1 g2 g3 g4 g5;subst g1 g2 g3 g4;have hjp:=Xcd hqe hqi;have hes:=congrArg ByteArray.size (Q9n S4 hqn.1 hjp);simp only[ByteArray.size_append,Qm,Qa2,hsp,Qy,Q8,Qz,Q5,Q3,Q7,Qx] at hes;have hb1:=Qaq (n:=q.from_) (by omega);have hb2:=Qaq (n:=q.to_) (by omega);have hxn:=Xu hqn.1;have hle:=fun s=>Q9n s hqn.1 hjp
   generalize Xk ((Q.take k).map snD)=u at htk hpk;refine Gg ?_;refine⟨a,Ix,Gg ?_⟩;refine⟨seC (q.person,q.from_,q.to_,dA,q.items.length,dc),⟨rfl,hca⟩,Gg ?_⟩;intro b19 w28 hn28;refine Gg ?_;refine Qg Qa (e:=ty93) rfl hn28.At rfl rfl rfl (Qky _) fun w29 h19 ho29 => ?_
   have h19:At w29 b19 93 (seC (q.person,q.from_,q.to_,dA,q.items.length,dc)):=h19;have hx29:Ext w27 w29:=ho29.ext hn28.ext (by rw[hn28.block];exact Nat.le_refl _);clear ho29 hn28;replace hx27:=hx27.trans hx29;replace g5:=g5.ext hx29;clear hx29;refine Gg ?_;refine Dr .ext [0,1,2,3,4,5,6,9,10,7,8,11,12,13,14] [] (Hh ?_);have hxd:Ext w29 w29.drew:=(Ext.refl w29).drew;replace hx27:=hx27.trans hxd;replace h19:=h19.ext hxd;replace g5:=g5.ext hxd;generalize w29.drew=w30 at hx27 h19 g5 ⊢;clear hxd;refine⟨sz4 (by first | omega | (simp only[ByteArray.size_append,Qm,Qa2,hsp,Qy,Q8,Qz,Q5,Q3,Q7,Qx];omega)) (by first | omega | (simp only[ByteArray.size_append,Qm,Qa2,hsp,Qy,Q8,Qz,Q5,Q3,Q7,Qx];omega)),Hh ?_⟩;refine⟨.string q.person,h19.one rfl,Hh ?_⟩;refine⟨sz4 (by first | omega | (simp only[ByteArray.size_append,Qm,Qa2,hsp,Qy,Q8,Qz,Q5,Q3,Q7,Qx];omega)) (by first | omega | (simp only[ByteArray.size_append,Qm,Qa2,hsp,Qy,Q8,Qz,Q5,Q3,Q7,Qx];omega)),Hh ?_⟩;refine⟨.int .i64 q.from_,h19.one rfl,Hh ?_⟩;refine⟨.int .i64 q.to_,h19.one rfl,Hh ?_⟩;refine(Qal (q.from_) w30 (by omega) (by omega)).mono ?_;rintro _ w31 ⟨rfl,hx31⟩;refine⟨hx31,Hh ?_⟩;refine⟨sz4 (by first | omega | (simp only[ByteArray.size_append,Qm,Qa2,hsp,Qy,Q8,Qz,Q5,Q3,Q7,Qx];omega)) (by first | omega | (simp only[ByteArray.size_append,Qm,Qa2,hsp,Qy,Q8,Qz,Q5,Q3,Q7,Qx];omega)),Hh ?_⟩;refine(Qal (q.to_) w31 (by omega) (by omega)).mono ?_;rintro _ w32 ⟨rfl,hx32⟩;refine⟨hx32,Hh ?_⟩;refine⟨sz4 (by first | omega | (simp only[ByteArray.size_append,Qm,Qa2,hsp,Qy,Q8,Qz,Q5,Q3,Q7,Qx];omega)) (by first | omega | (simp only[ByteArray.size_append,Qm,Qa2,hsp,Qy,Q8,Qz,Q5,Q3,Q7,Qx];omega)),Hh ?_⟩;refine⟨sz4 (by first | omega | (simp only[ByteArray.size_append,Qm,Qa2,hsp,Qy,Q8,Qz,Q5,Q3,Q7,Qx];omega)) (by first | omega | (simp only[ByteArray.size_append,Qm,Qa2,hsp,Qy,Q8,Qz,Q5,Q3,Q7,Qx];omega)),Hh ?_⟩;replace hx27:=(hx27.trans hx31).trans hx32;replace h19:=(h19.ext hx31).ext hx32;replace g5:=(g5.ext hx31).ext hx32;clear hx31 hx32;have hle2:=hle (S4++u);have hsz2:=congrArg ByteArray.size hle2;rw[ByteArray.size_append,ByteArray.size_append] at hsz2;have hsz3:(S4++u++snD q).size=S4.size+u.size+(snD q).size:=by rw[ByteArray.size_append,ByteArray.size_append]
   rw[hsz3] at hsz2;clear hle;generalize S4++u++⟨#[115,101,115,115,105,111,110,32]⟩++q.person++(spB++nB q.from_)++(spB++nB q.to_)++⟨#[32]⟩=hd at hle2 hsz2 ⊢;have h0:hd++jnB (q.items.take 0)=hd:=X8 hd;refine Gg ?_
   refine Qd Qa (fun(j:Nat) w'=>j<=q.items.length/\w'=w32)
    (fun j => [(1,.slice A z.length cap),(2,.int .i64 t),(3,.pointer (some ⟨b3,0,none⟩)),(7,.string (hd++jnB (q.items.take j))),(17,.slice (some a) T.length c26),(18,.int .i64 (k:Nat)),(19,.pointer (some ⟨b19,0,none⟩)),(20,.int .i64 (j:Nat))]) (fun j=>q.items.length-j) 0 ⟨Nat.zero_le _,rfl⟩ (by rw[h0];exact Rr) ?_
   clear h0;rintro j w33 ⟨hj,hw33⟩;subst hw33
   conv=>whnf
   refine⟨.slice dA q.items.length dc,h19.one rfl,Hh ?_⟩;constructor
   . intro hlt2
     have hlt2:j<q.items.length:=by simpa using hlt2
     obtain⟨a4,rfl,hc4⟩:=g5.get hlt2;have hjt:=Qws q.items j hlt2;have hjs:=Q4b q.items (j+1);rw[hjt] at hjs;generalize q.items[j]=x at hc4 hjt hjs;generalize jnB (q.items.take j)=y at hjt hjs
     conv=>whnf
     refine Qb Qa (Hh ?_);refine Xj Qa (ι:=Unit) (fun _ => [(1,.slice A z.length cap),(2,.int .i64 t),(3,.pointer (some ⟨b3,0,none⟩)),(7,.string (hd++if 0<j then y++⟨#[44]⟩ else y)),(17,.slice (some a) T.length c26),(18,.int .i64 (k:Nat)),(19,.pointer (some ⟨b19,0,none⟩)),(20,.int .i64 (j:Nat))]) (fun _ w'=>w'=w33) ?_ ?_
     . (conv=>whnf)
       constructor
       . intro hq
         have hq:0<j:=by simpa using hq
         rw[if_pos hq] at hjs ⊢;simp only[ByteArray.size_append] at hjs
         conv=>whnf
         refine⟨sz4 (by simp only[ByteArray.size_append];omega) (by decide),Hh ?_⟩;rw[ByteArray.append_assoc]
         exact⟨(),rfl,Rr⟩
       . intro hq
         have hq:¬ 0<j:=by simpa using hq
         rw[if_neg hq]
         conv=>whnf
         exact⟨(),rfl,Rr⟩
     rintro _ w34 hw34;subst hw34;have hyj:(if 0<j then y++(⟨#[44]⟩:ByteArray) else y)++x=jnB (q.items.take (j+1)):=hjt.symm
     have hys:(if 0<j then y++(⟨#[44]⟩:ByteArray) else y).size+x.size<=(jnB q.items).size:=by
      rw[<- ByteArray.size_append];exact hjs
     generalize (if 0<j then y++(⟨#[44]⟩:ByteArray) else y)=y2 at hyj hys ⊢;refine Gg ?_;refine⟨.slice (some a4) q.items.length dc,h19.one rfl,Gg ?_⟩;refine⟨a4,Ix,Gg ?_⟩;refine⟨.string x,Qp hc4,Gg ?_⟩;refine⟨sz4 (by simp only[ByteArray.size_append];omega) (by omega),Gg ?_⟩;rw[ByteArray.append_assoc,hyj];refine⟨_,wrap_succ (by omega),Gg ?_⟩
     exact⟨j+1,by omega,⟨by omega,rfl⟩,Rr⟩
   intro hge2;have hge2:q.items.length<=j:=by simpa using hge2
   rw[List.take_of_length_le hge2];refine Gg ?_;refine⟨sz4 (by simp only[ByteArray.size_append];omega) (by decide),Gg ?_⟩;rw[hle2,ByteArray.append_assoc,<- htk];refine⟨_,wrap_succ (by omega),Gg ?_⟩
   exact⟨k+1,by omega,⟨by omega,hx27⟩,Rr⟩
 intro hge;have hge:T.length<=k:=by simpa using hge
 rw[List.take_of_length_le (by omega)];replace hx:=hx.trans hx27;replace h3:=h3.ext hx27;replace hs26:=hs26.ext hx27;replace hS26:=hS26.ext hx27;have s27:=hx27.size;clear hge hx27 hk hQe hQi hQn;have hS1:(S4++Xk (Q.map snD)).size=S4.size+(Xk (Q.map snD)).size:=ByteArray.size_append;generalize S4++Xk (Q.map snD)=S5 at hS1 ⊢;refine Gg ?_;refine(Qrz T Q A26 c26 w27 w25.heap.size hs26 hS26 (by omega) hQl).mono ?_;rintro _ w28 ⟨A28,c28,rfl,hs28,hx28⟩;rw[show Qbp (Q.flatMap (·.items))=Qac Q from rfl] at hs28 ⊢;replace hx:=hx.trans hx28;replace h3:=h3.ext hx28;replace hs26:=hs26.ext hx28;replace hS26:=hS26.ext hx28;clear hx28;generalize hN:Qac Q=N at hs28 hin hil hpr htot ⊢;have h0:S5++Xk ((N.take 0).map (Qb2 Q))=S5:=X8 S5;refine Gg ?_
 refine Qd Qa (fun(k:Nat) w'=>k<=N.length/\Ext w28 w')
  (fun k => [(1,.slice A z.length cap),(2,.int .i64 t),(3,.pointer (some ⟨b3,0,none⟩)),(7,.string (S5++Xk ((N.take k).map (Qb2 Q)))),(17,.slice A26 T.length c26),(21,.slice A28 N.length c28),(22,.int .i64 (k:Nat))]) (fun k=>N.length-k) 0 ⟨Nat.zero_le _,Ext.refl _⟩ (by rw[h0];exact Rr) ?_
 clear h0;rintro k w29 ⟨hk,hx29⟩
 conv=>whnf
 constructor
 . intro hlt
   have hlt:k<N.length:=by simpa using hlt
   obtain⟨a,rfl,hca⟩:=(hs28.ext hx29).get hlt;have htk:=Xi (Qb2 Q) N k hlt;have hpk:=Qai (Qb2 Q) N (k+1);rw[htk,ByteArray.size_append] at hpk;have hnk:=hin N[k] (List.getElem_mem hlt);have hpd:=hpr k N[k] hlt rfl;rw[hpd] at htk hpk;have hNk:∃ x,N[k]=x:=⟨_,rfl⟩;obtain⟨x,hNx⟩:=hNk;rw[hNx] at hca htk hpk hnk hpd;generalize Xk ((N.take k).map (Qb2 Q))=u at htk hpk;refine Gg ?_;refine⟨_,wrap_succ (by omega),Gg ?_⟩
   have h0:S5++u++Xk ((((N.take (k+1)).drop (k+1)).filter (fun b=>decide (0<Qa9 Q x b))).map (Qir Q x))=S5++u:=by
    rw[List.drop_of_length_le (by rw[List.length_take];omega)]
    exact X8 _
   refine Qd Qa (fun(j:Nat) w'=>(k+1<=j/\j<=N.length)/\Ext w29 w')
    (fun j => [(1,.slice A z.length cap),(2,.int .i64 t),(3,.pointer (some ⟨b3,0,none⟩)),(7,.string (S5++u++Xk ((((N.take j).drop (k+1)).filter (fun b=>decide (0<Qa9 Q x b))).map (Qir Q x)))),(17,.slice A26 T.length c26),(21,.slice (some a) N.length c28),(22,.int .i64 (k:Nat)),(23,.int .i64 (j:Nat))]) (fun j=>N.length-j) (k+1) ⟨⟨Nat.le_refl _,hlt⟩,Ext.refl _⟩ (by rw[h0];exact Rr) ?_
   clear h0;rintro j w30 ⟨⟨hj0,hj⟩,hx30⟩
   conv=>whnf
   constructor
   . intro hlt2
     have hlt2:j<N.length:=by simpa using hlt2
     have hdt:=Qox N hj0 hlt2;have hcb:=(((hs28.ext hx29).ext hx30).get hlt2);have hnj:=hin N[j] (List.getElem_mem hlt2);have hsub:=Q1t Q x N (k+1) (j+1);rw[hdt] at hsub;obtain⟨y,hNy⟩:∃ y,N[j]=y:=⟨_,rfl⟩;rw[hNy] at hcb hnj hsub hdt;have hdf:((N.take (j+1)).drop (k+1)).filter (fun b=>decide (0<Qa9 Q x b))=((N.take j).drop (k+1) ++ [y]).filter (fun b=>decide (0<Qa9 Q x b)):=by rw[hdt]
     have hplb:=hpl x y;have hes:=congrArg ByteArray.size (Qzz S5 (S:=Q) hnk hnj);simp only[ByteArray.size_append,Qm,Qa2,hsp,Qy,Q8,Qz,Q5,Q3,Q7,Qx] at hes;have hle:=fun s=>Qzz s (S:=Q) hnk hnj
     obtain⟨a',ha',hcb⟩:=hcb;obtain rfl:a=a':=by simpa using ha'
     have hcx:=hx30.cells hca;have hs0:=(hs26.ext hx29).ext hx30;have hS0:=(hS26.ext hx29).ext hx30;refine Gg ?_;refine Dr .same [0,1,2,3,4,5,6,7,8] [9,10] (Hh ?_);have hxd:Ext w30 w30.drew:=(Ext.refl w30).drew;replace hx30:=hx30.trans hxd;replace hcx:=hxd.cells hcx;replace hcb:=hxd.cells hcb;replace hs0:=hs0.ext hxd;replace hS0:=hS0.ext hxd;generalize w30.drew=w31 at hx30 hcx hcb hs0 hS0 ⊢;clear hxd;refine⟨a,Ix,Hh ?_⟩;refine⟨.string x,Qp hcx,Hh ?_⟩;refine⟨a,Ix,Hh ?_⟩;refine⟨.string y,Qp hcb,Hh ?_⟩;refine(Qrw T Q A26 c26 x y w31 w25.heap.size hs0 hS0 (by omega) (fun q hq=>by have:=hQl q hq;omega)).mono ?_;rintro _ w32 ⟨rfl,hw32⟩;subst hw32;refine Gg ?_;constructor
     . intro hq
       have hq:0<Qa9 Q x y:=by simpa using hq
       rw[Qm9 (p:=fun b=>decide (0<Qa9 Q x b)) (l:=(N.take j).drop (k+1)) (y:=y) (by simpa using hq)] at hdf hsub;rw[List.map_append,Qf5] at hsub;have hq1:Xk ([y].map (Qir Q x))=Qir Q x y:=X8 _;rw[hq1,ByteArray.size_append] at hsub;have hb1:=Qaq (n:=((Qa9 Q x y:Nat):Int)) (by omega);have hxn:=Xu hnk;have hyn:=Xu hnj;have hdq:Xk ((((N.take (j+1)).drop (k+1)).filter (fun b=>decide (0<Qa9 Q x b))).map (Qir Q x))=Xk ((((N.take j).drop (k+1)).filter (fun b=>decide (0<Qa9 Q x b))).map (Qir Q x))++Qir Q x y:=by rw[hdf,List.map_append,Qf5,hq1]
       generalize Xk ((((N.take j).drop (k+1)).filter (fun b=>decide (0<Qa9 Q x b))).map (Qir Q x))=v at hdq hsub;refine Gg ?_;refine Dr .ext [0,1,2,3,4,5,6,7,8,9,10,11,12,13,14,15,16,17] [] (Hh ?_);have hxd:Ext w32 w32.drew:=(Ext.refl w32).drew;replace hx30:=hx30.trans hxd;replace hcx:=hxd.cells hcx;replace hcb:=hxd.cells hcb;generalize w32.drew=w33 at hx30 hcx hcb ⊢;clear hxd;refine⟨sz4 (by first | omega | (simp only[ByteArray.size_append,Qm,Qa2,hsp,Qy,Q8,Qz,Q5,Q3,Q7,Qx];omega)) (by first | omega | (simp only[ByteArray.size_append,Qm,Qa2,hsp,Qy,Q8,Qz,Q5,Q3,Q7,Qx];omega)),Hh ?_⟩;refine⟨a,Ix,Hh ?_⟩;refine⟨.string x,Qp hcx,Hh ?_⟩;refine⟨sz4 (by first | omega | (simp only[ByteArray.size_append,Qm,Qa2,hsp,Qy,Q8,Qz,Q5,Q3,Q7,Qx];omega)) (by first | omega | (simp only[ByteArray.size_append,Qm,Qa2,hsp,Qy,Q8,Qz,Q5,Q3,Q7,Qx];omega)),Hh ?_⟩;refine⟨sz4 (by first | omega | (simp only[ByteArray.size_append,Qm,Qa2,hsp,Qy,Q8,Qz,Q5,Q3,Q7,Qx];omega)) (by first | omega | (simp only[ByteArray.size_append,Qm,Qa2,hsp,Qy,Q8,Qz,Q5,Q3,Q7,Qx];omega)),Hh ?_⟩;refine⟨a,Ix,Hh ?_⟩;refine⟨.string y,Qp hcb,Hh ?_⟩;refine⟨sz4 (by first | omega | (simp only[ByteArray.size_append,Qm,Qa2,hsp,Qy,Q8,Qz,Q5,Q3,Q7,Qx];omega)) (by first | omega | (simp only[ByteArray.size_append,Qm,Qa2,hsp,Qy,Q8,Qz,Q5,Q3,Q7,Qx];omega)),Hh ?_⟩;refine(Qal (((Qa9 Q x y:Nat):Int)) w33 (by omega) (by omega)).mono ?_;rintro _ w34 ⟨rfl,hx34⟩;refine⟨hx34,Hh ?_⟩;refine⟨sz4 (by first | omega | (simp only[ByteArray.size_append,Qm,Qa2,hsp,Qy,Q8,Qz,Q5,Q3,Q7,Qx];omega)) (by first | omega | (simp only[ByteArray.size_append,Qm,Qa2,hsp,Qy,Q8,Qz,Q5,Q3,Q7,Qx];omega)),Hh ?_⟩;refine⟨sz4 (by first | omega | (simp only[ByteArray.size_append,Qm,Qa2,hsp,Qy,Q8,Qz,Q5,Q3,Q7,Qx];omega)) (by first | omega | (simp only[ByteArray.size_append,Qm,Qa2,hsp,Qy,Q8,Qz,Q5,Q3,Q7,Qx];omega)),Hh ?_⟩;rw[hle,ByteArray.append_assoc,<- hdq];refine Gg ?_;refine⟨_,wrap_succ (by omega),Gg ?_⟩
       exact⟨j+1,by omega,⟨⟨by omega,by omega⟩,hx30.trans hx34⟩,Rr⟩
     . intro hq
       have hq:¬ 0<Qa9 Q x y:=by simpa using hq
       rw[Qm8 (p:=fun b=>decide (0<Qa9 Q x b)) (l:=(N.take j).drop (k+1)) (y:=y) (by simpa using hq)] at hdf;refine Gg ?_;refine⟨_,wrap_succ (by omega),Gg ?_⟩
       exact⟨j+1,by omega,⟨⟨by omega,by omega⟩,hx30⟩,(by rw[hdf];exact Rr)⟩
   intro hge2;have hge2:N.length<=j:=by simpa using hge2
   rw[List.take_of_length_le hge2,ByteArray.append_assoc,<- htk];refine Gg ?_;refine⟨_,wrap_succ (by omega),Gg ?_⟩
   exact⟨k+1,by omega,⟨by omega,hx29.trans hx30⟩,Rr⟩
 intro hge;have hge:N.length<=k:=by simpa using hge
 rw[List.take_of_length_le hge];replace hx:=hx.trans hx29;replace h3:=h3.ext hx29;clear hge hx29 hk hpr hpl hs28 hs26 hS26 hin hil;have hS1:(S5++Xk (N.map (Qb2 Q))).size=S5.size+(Xk (N.map (Qb2 Q))).size:=ByteArray.size_append;generalize S5++Xk (N.map (Qb2 Q))=S6 at hS1 ⊢;refine Gg ?_;refine(Q19 z A cap w29 (hs.ext hx) hcap (by omega) hm).mono ?_;rintro _ w30 ⟨A30,c30,Dd,rfl,hs30,hT30,hD30,hx30⟩;replace hx:=hx.trans hx30;replace h3:=h3.ext hx30;clear hx30;refine Gg ?_;refine(Qo1 Dd (Qha z) A30 c30 w30 hs30 hT30 (by omega)).mono ?_;rw[Q1w];rintro _ w31 ⟨A31,c31,rfl,hs31,hx31⟩;replace hx:=hx.trans hx31;replace h3:=h3.ext hx31;replace hs30:=hs30.ext hx31;replace hT30:=hT30.extR hx31;clear hx31;have hpn:=fun x (hx:x∈Qt7 z)=>Qrt hm hx
 have hpl:=Qxd z;have hrk:=Q8p z hm;generalize Qt7 z=N at hs31 hpn hpl htot ⊢;have h0:S6++Xk ((N.take 0).map (Qd8 z c t))=S6:=X8 S6;refine Gg ?_
 refine Qd Qa (fun(k:Nat) w'=>k<=N.length/\Ext w31 w')
  (fun k => [(2,.int .i64 t),(3,.pointer (some ⟨b3,0,none⟩)),(7,.string (S6++Xk ((N.take k).map (Qd8 z c t)))),(25,.slice A30 Dd.length c30),(26,.slice A31 N.length c31),(27,.int .i64 (k:Nat))]) (fun k=>N.length-k) 0 ⟨Nat.zero_le _,Ext.refl _⟩ (by rw[h0];exact Rr) ?_
 clear h0;rintro k w32 ⟨hk,hx32⟩
 conv=>whnf
 constructor
 . intro hlt
   have hlt:k<N.length:=by simpa using hlt
   obtain⟨a,rfl,hca⟩:=(hs31.ext hx32).get hlt;have htk:=Xi (Qd8 z c t) N k hlt;have hpk:=Qai (Qd8 z c t) N (k+1);rw[htk,ByteArray.size_append] at hpk;have hnk:=hpn N[k] (List.getElem_mem hlt);generalize N[k]=x at hca htk hpk hnk;have hxn:=Xu hnk;have hs0:=hs30.ext hx32;have hT0:=hT30.extR hx32;have h30:=h3.ext hx32;generalize Xk ((N.take k).map (Qd8 z c t))=u at htk hpk;refine Gg ?_;refine Dr .ext [0,1,2,3,4,5,6,7,8,9,10,11,12,13,14,15,16,17] [] (Hh ?_);have hxd:Ext w32 w32.drew:=(Ext.refl w32).drew;replace hx32:=hx32.trans hxd;replace hca:=hxd.cells hca;replace hs0:=hs0.ext hxd;replace hT0:=hT0.extR hxd;replace h30:=h30.ext hxd;generalize w32.drew=w33 at hx32 hca hs0 hT0 h30 ⊢;refine⟨a,Ix,Hh ?_⟩;refine⟨.string x,Qp hca,Hh ?_⟩;refine⟨sz4 (by first | omega | (simp only[ByteArray.size_append,Qm,Qa2,hsp,Qy,Q8,Qz,Q5,Q3,Q7,Qx];omega)) (by first | omega | (simp only[ByteArray.size_append,Qm,Qa2,hsp,Qy,Q8,Qz,Q5,Q3,Q7,Qx];omega)),Hh ?_⟩;refine⟨.int .i64 c.half,h30.one rfl,Hh ?_⟩;refine⟨a,Ix,Hh ?_⟩;refine⟨.string x,Qp hca,Hh ?_⟩;refine(Qr2 Dd (Qha z) c.half t x A30 c30 w33 hs0 hT0 (by omega) hrk hc1 hnow).mono ?_;rintro _ w34 ⟨A34,c34,L,rfl,hs34,hCL,_,hLo,hx34⟩;obtain⟨hte,hLl,hLn⟩:=Qye hr hm (by omega) c hc1 t hnk hCL hLo;refine⟨hx34,Hh ?_⟩;rw[Qxp x];refine(Qlj (Qe2++spB++x) L A34 c34 w34 hs34 (by have:Qe2.size=5:=rfl;rw[ByteArray.size_append,ByteArray.size_append];omega) (by omega) fun y hy=>⟨by have:=Xu (hLn y hy).1;omega,by have:=hLn y hy;omega,by have:=hLn y hy;omega⟩).mono ?_;rintro _ w35 ⟨rfl,hx35⟩;rw[hte];refine⟨hx35,Hh ?_⟩;refine⟨sz4 (by first | omega | (simp only[ByteArray.size_append,Qm,Qa2,hsp,Qy,Q8,Qz,Q5,Q3,Q7,Qx];omega)) (by first | omega | (simp only[ByteArray.size_append,Qm,Qa2,hsp,Qy,Q8,Qz,Q5,Q3,Q7,Qx];omega)),Hh ?_⟩;rw[ByteArray.append_assoc,<- htk];refine Gg ?_;refine⟨_,wrap_succ (by omega),Gg ?_⟩
   exact⟨k+1,by omega,⟨by omega,(hx32.trans hx34).trans hx35⟩,Rr⟩
 intro hge;have hge:N.length<=k:=by simpa using hge
 rw[List.take_of_length_le hge];refine Gg ?_
 exact⟨rfl,hx.trans hx32⟩
end Go.Proofs.YteabekcdcphjpaaGreatDoor
