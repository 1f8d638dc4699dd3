/- Several texts in one: Pl7, Cu. -/
import Derived.Test.YteabekcdcphjpaaGreatDoorGN
import Derived.Test.YteabekcdcphjpaaGreatDoorGJ
set_option linter.unusedVariables false
set_option linter.unusedSimpArgs false
namespace Go.Proofs.YteabekcdcphjpaaGreatDoor
open Go.Se Go.RowKit
structure Behind (now:Int) (person:ByteArray) (M:List Ev):Prop where
 at_:∀ e∈M,now<e.at_
 worth:∀ e∈M,Qw e<=0
 person:∀ e∈M,e.person≠person
def inT (l:List ByteArray) (s:ByteArray):Bool:=l.any fun x=>decide (x=s)
theorem Qf8 {l:List ByteArray} {s:ByteArray}:inT l s=true↔s∈l:=by simp[inT]
theorem Qq7 {l:List ByteArray} {s:ByteArray}:inT l s=false↔s∉l:=by rw[<- Bool.not_eq_true,Qf8]
theorem Qry (l:List ByteArray) (s:ByteArray) (A:Option Addr) (c:Nat) (w:World) (hs:Sl Qbg 1 w A l) (hl:l.length<1000000000) :
 Cal Tryz.prog 128 [.slice A l.length c,.string s] w fun r w'=>r = .bool (inT l s)/\w'=w:=by
 refine Fi Tryz.func128 rfl _ rfl rfl (Hh ?_)
 refine Qd Qa (fun(k:Nat) w'=>k<=l.length/\w'=w/\s∉l.take k)
  (fun k => [(0,.slice A l.length c),(1,.string s),(5,.int .i64 k)]) (fun k=>l.length-k) 0 ⟨by omega,rfl,by simp⟩ Rr ?_
 rintro k w1 ⟨hk,rfl,hall⟩
 conv=>whnf
 constructor
 . intro hlt
   have hlt:k<l.length:=by simpa using hlt
   obtain⟨a,rfl,hc⟩:=hs.get hlt;have htk:=Xl l k hlt;have hin:=List.getElem_mem hlt;generalize l[k]=x at hc htk hin
   conv=>whnf
   refine⟨a,Ix,Hh ?_⟩;refine⟨.string x,Qp hc,Hh ?_⟩;constructor
   . intro h
     have h:x=s:=by simpa using h
     subst h
     conv=>whnf
     exact⟨by rw[Qf8.2 hin],rfl⟩
   . intro h
     have h:¬ x=s:=by simpa using h
     conv=>whnf
     refine⟨_,wrap_succ (by omega),Hh ?_⟩
     exact⟨k+1,by omega,⟨by omega,rfl,by rw[htk];simp[hall,Ne.symm h]⟩,Rr⟩
 . intro hge
   have hge:l.length<=k:=by simpa using hge
   rw[List.take_of_length_le hge] at hall
   conv=>whnf
   exact⟨by rw[Qq7.2 hall],rfl⟩
def Qsu (l:List ByteArray) (s:ByteArray):List ByteArray:=if inT l s=true then l else l.takeWhile (fun x=>bLt x s)++s :: l.dropWhile (fun x=>bLt x s)
theorem put_mem (l:List ByteArray) (s x:ByteArray):x∈Qsu l s↔x∈l\/x=s:=by
 unfold Qsu
 split
 . rename_i h
   rw[Qf8] at h
   exact⟨.inl,fun h'=>h'.elim id (fun e=>e ▸ h)⟩
 . have h:=List.takeWhile_append_dropWhile (p:=fun x=>bLt x s) (l:=l)
   constructor
   . intro hx
     rcases List.mem_append.1 hx with hx | hx
     . exact .inl (by rw[<- h];exact List.mem_append.2 (.inl hx))
     . rcases List.mem_cons.1 hx with hx | hx
       . exact .inr hx
       . exact .inl (by rw[<- h];exact List.mem_append.2 (.inr hx))
   . rintro (hx | hx)
     . rw[<- h] at hx
       rcases List.mem_append.1 hx with hx | hx
       . simp[hx]
       . simp[hx]
     . simp[hx]
theorem Xaz (l:List ByteArray) (s:ByteArray):(Qsu l s).length<=l.length+1:=by
 unfold Qsu
 split
 . omega
 . have h:=congrArg List.length (List.takeWhile_append_dropWhile (p:=fun x=>bLt x s) (l:=l))
   rw[List.length_append] at h ⊢;rw[List.length_cons];omega
def Q9z (l:List ByteArray):Prop:=l.Pairwise (fun a b=>bLt a b=true)
theorem Q8i {l:List ByteArray} {s:ByteArray} (h:Q9z l):Q9z (Qsu l s):=by
 unfold Qsu
 split
 . exact h
 . rename_i hs
   rw[Qf8] at hs;have e:=List.takeWhile_append_dropWhile (p:=fun x=>bLt x s) (l:=l);unfold Q9z at *;have h':=h;rw[<- e,List.pairwise_append] at h';obtain⟨h1,h2,h3⟩:=h'
   have hlow:∀ x∈l.takeWhile (fun x=>bLt x s),bLt x s=true:=fun x hx=>by
    have:=List.all_takeWhile (p:=fun x=>bLt x s) (l:=l);rw[List.all_eq_true] at this
    exact this x hx
   have hhigh:∀ x∈l.dropWhile (fun x=>bLt x s),bLt s x=true:=by
    cases hd:l.dropWhile (fun x=>bLt x s) with
    | nil=>simp
    | cons y ys =>
      have hy:bLt y s=false:=by
       have:=List.head_dropWhile_not (p:=fun x=>bLt x s) (l:=l) (by rw[hd];simp);simp only[hd,List.head_cons] at this
       exact this
      have hys:y∈l:=by rw[<- e,hd];simp
      have hsy:bLt s y=true:=by
       cases hq:bLt s y with
       | true=>rfl
       | false=>exact absurd (Qby hq hy ▸ hys) hs
      intro x hx;rcases List.mem_cons.1 hx with rfl | hx
      . exact hsy
      . rw[hd,List.pairwise_cons] at h2
        exact Qaw hsy (h2.1 x hx)
   rw[List.pairwise_append];refine⟨h1,List.pairwise_cons.2 ⟨hhigh,h2⟩,fun a ha b hb => ?_⟩;rcases List.mem_cons.1 hb with rfl | hb
   . exact hlow a ha
   . exact h3 a ha b hb
theorem Qcc {α:Type} {p:α->Bool} {l:List α} {k:Nat} (hk:k<=l.length) (h1:∀ x∈l.take k,p x=true) (h2:k=l.length\/∃ x,l[k]? = some x/\p x=false):l.takeWhile p=l.take k/\l.dropWhile p=l.drop k:=by
 have hd:(l.drop k).takeWhile p = []/\(l.drop k).dropWhile p=l.drop k:=by
  rcases h2 with rfl | ⟨x,hx,hp⟩
  . simp
  . have hlt:k<l.length:=(List.getElem?_eq_some_iff.1 hx).1
    have hxe:l[k]=x:=by rw[List.getElem?_eq_getElem hlt] at hx;simpa using hx
    rw[List.drop_eq_getElem_cons hlt,hxe]
    simp[hp]
 constructor
 . conv=>lhs;rw[<- List.take_append_drop k l]
   rw[List.takeWhile_append_of_pos h1,hd.1,List.append_nil]
 . conv=>lhs;rw[<- List.take_append_drop k l]
   rw[List.dropWhile_append_of_pos h1,hd.2]
theorem Q8q (l:List ByteArray) (s:ByteArray) (A:Option Addr) (c:Nat) (w:World) (hs:Sl Qbg 1 w A l) (hl:l.length<1000000) (hcap:l.length<=c) :
 Cal Tryz.prog 127 [.slice A l.length c,.string s] w fun r w'=>∃ A' c',r = .slice A' (Qsu l s).length c'/\(Qsu l s).length<=c'/\Sl Qbg 1 w' A' (Qsu l s)/\(A'=A\/∀ a,A'=some a->w.heap.size<=a.block/\a.block<w'.heap.size)/\Ext w w':=by
 refine Fi Tryz.func127 rfl _ rfl rfl (Hh ?_);refine(Qry l s A c w hs (by omega)).mono ?_;rintro _ w0 ⟨rfl,hw0⟩;subst hw0
 conv=>whnf
 constructor
 . intro h
   have hp:Qsu l s=l:=if_pos h;rw[hp]
   conv=>whnf
   exact⟨A,c,rfl,hcap,hs,.inl rfl,Ext.refl _⟩
 . intro h
   have hp:Qsu l s=l.takeWhile (fun x=>bLt x s)++s :: l.dropWhile (fun x=>bLt x s):=if_neg (by rw[h];simp)
   conv=>whnf
   refine Qd Qa (fun(k:Nat) w'=>k<=l.length/\w'=w0/\∀ x∈l.take k,bLt x s=true)
    (fun k => [(0,.slice A l.length c),(1,.string s),(5,.int .i64 k)]) (fun k=>l.length-k) 0 ⟨by omega,rfl,by simp⟩ Rr ?_
   rintro k w1 ⟨hk,hw1,hall⟩;replace hw1:=hw1.symm;subst hw1
   obtain⟨a1,x,hk1⟩:∃ a1 x,k<l.length->A=some a1/\l[k]? = some x/\w0.cell? (a1.add (k*1))=some (.string x):=by
    by_cases hh:k<l.length
    . obtain⟨a1,h1,h2⟩:=hs.get hh
      exact⟨a1,l[k],fun _=>⟨h1,List.getElem?_eq_getElem hh,Qp h2⟩⟩
    . exact⟨⟨0,0,none⟩,s,fun h=>absurd h hh⟩
   have hd:∀ {p:Nat},decide ((p:Int)<(l.length:Int))=true->p<l.length:=fun h=>by simpa using h
   conv=>whnf
   refine⟨a1,fun hg=>⟨(hk1 (hd hg)).1,by omega,by have:=hd hg;omega⟩,Hh ?_⟩;refine⟨.string x,fun hg=>(hk1 (hd hg)).2.2,Hh ?_⟩;constructor
   . intro hc
     have hc:(decide ((k:Int)<(l.length:Int))&&bLt x s)=true:=hc;rw[Bool.and_eq_true] at hc;have hlt:=hd hc.1;have htk:=Xl l k hlt;have hxe:l[k]=x:=by have:=(hk1 hlt).2.1;rw[List.getElem?_eq_getElem hlt] at this;simpa using this
     conv=>whnf
     refine⟨_,wrap_succ (by omega),Hh ?_⟩;refine⟨k+1,by omega,⟨by omega,rfl,fun y hy => ?_⟩,Rr⟩;rw[htk,hxe] at hy;rcases List.mem_append.1 hy with hy | hy
     . exact hall y hy
     . simp at hy;subst hy;exact hc.2
   . intro hc
     have hc:(decide ((k:Int)<(l.length:Int))&&bLt x s)=false:=hc
     have hend:k=l.length\/∃ x,l[k]? = some x/\bLt x s=false:=by
      by_cases hh:k<l.length
      . refine .inr ⟨x,(hk1 hh).2.1,?_⟩
        have:decide ((k:Int)<(l.length:Int))=true:=by simpa using hh
        rw[this] at hc
        simpa using hc
      . exact .inl (by omega)
     obtain⟨t1,t2⟩:=Qcc (p:=fun x=>bLt x s) hk hall hend;rw[t1,t2] at hp;clear hk1 hc hend t1 t2 hall;have hsk:=Xt (Qfj hs k) 0 c (by rw[List.length_take];omega);have hsd:=Xt hs k c hcap;rw[List.drop_zero] at hsk;have hkm:k=(l.take k).length:=by rw[List.length_take];omega
     have hdl:l.length-k=(l.drop k).length:=by rw[List.length_drop]
     have htot:(l.take k).length+(l.drop k).length=l.length:=by rw[List.length_take,List.length_drop];omega
     rw[hp];generalize l.take k=T at hsk hkm htot;generalize l.drop k=D at hsd hdl htot
     conv=>whnf
     intro b2 w2 hn2;conv=>whnf
     have o2:=Xa.made (base:=w0.heap.size) hn2 (Nat.le_refl _);refine⟨⟨by omega,by omega,by omega,by omega⟩,Hh ?_⟩;refine Qi Xa (l := []) (news:=T) rfl o2 hkm (hsk.ext hn2.ext) (by simp;omega) hn2.ext.size fun A3 c3 w3 hown3 hg3 hA3 => ?_
     have hx3:=Qh hn2.ext hg3 (Qs o2);rw[List.nil_append] at hown3 ⊢
     conv=>whnf
     intro b4 w4 hn4;conv=>whnf
     refine Qi Xa (l:=T) (news := [s]) rfl (hown3.ext hn4.ext) rfl (Xa.new1 (x:=s) hn4) (by simp;omega) (hx3.trans hn4.ext).size fun A5 c5 w5 hown5 hg5 hA5 => ?_
     have hx5:=Qh (hx3.trans hn4.ext) hg5 (Qs hown3);generalize hT1:T ++ [s]=T1 at hown5 ⊢;have hT1l:T1.length=T.length+1:=by rw[<- hT1];simp
     conv=>whnf
     refine⟨⟨by omega,by omega,by omega,by omega⟩,Hh ?_⟩;refine Qi Xa (l:=T1) (news:=D) rfl hown5 hdl (hsd.ext hx5) (by omega) hx5.size fun A6 c6 w6 hown6 hg6 hA6 => ?_
     have hx6:=Qh hx5 hg6 (Qs hown5);have hfin:T++s :: D=T1++D:=by rw[<- hT1];simp
     rw[hfin];generalize T1++D=T2 at hown6 ⊢
     conv=>whnf
     exact⟨A6,c6,rfl,hown6.le,hown6.sl Xa.sz,.inr fun a ha=>hown6.block ha,hx6⟩
theorem Que (l:List ByteArray) (s:ByteArray) (A:Option Addr) (c:Nat) (w:World) (hs:Sl Qbg 1 w A l) (hl:l.length<1000000) (hcap:l.length<=c) :
 Cal Tryz.prog 127 [.slice A l.length c,.string s] w fun r w'=>∃ A' c',r = .slice A' (Qsu l s).length c'/\(Qsu l s).length<=c'/\Sl Qbg 1 w' A' (Qsu l s)/\Ext w w' :=
 (Q8q l s A c w hs hl hcap).mono fun r w' ⟨A',c',h1,h2,h3,_,h5⟩=>⟨A',c',h1,h2,h3,h5⟩
def Qds (l:List Ev) (p:ByteArray):List Ev:=l.filter fun e => !decide (e.person=p)||decide (e.kind=14)
theorem Quh (l:List Ev) (p:ByteArray) (A:Option Addr) (c:Nat) (w:World) (hs:SlE w A l) (hl:l.length<1000000) :
 Cal Tryz.prog 138 [.slice A l.length c,.string p] w fun r w'=>∃ A' c',r = .slice A' (Qds l p).length c'/\Own evC 8 66 w.heap.size w' A' c' (Qds l p)/\Ext w w':=by
 refine Fi Tryz.func138 rfl _ rfl rfl (Hh ?_);intro b1 w1 hn1;conv=>whnf
 have o1:=Q12.made (base:=w.heap.size) hn1 (Nat.le_refl _)
 refine Qd Qa (fun(k:Nat×Option Addr×Nat×List Ev) w'=>k.1<=l.length/\Ext w w'/\k.2.2.2=Qds (l.take k.1) p/\Own evC 8 66 w.heap.size w' k.2.1 k.2.2.1 k.2.2.2)
  (fun | (k,B,d,T) => [(0,.slice A l.length c),(1,.string p),(5,.slice B T.length d),(6,.int .i64 k)]) (fun k=>l.length-k.1) (0,some ⟨b1,0,none⟩,0,[]) ⟨by simp,hn1.ext,rfl,o1⟩ Rr ?_
 rintro ⟨k,B,d,T⟩ w2 ⟨hk,hx2,hT,hown⟩;simp only at hk hT hown
 have hTl:T.length<=k:=by
  rw[hT];have:=List.length_filter_le (fun e:Ev => !decide (e.person=p)||decide (e.kind=14)) (l.take k);rw[List.length_take] at this;unfold Qds;omega
 conv=>whnf
 constructor
 . intro hc
   have hc:k<l.length:=by simpa using hc
   obtain⟨a2,rfl,hce⟩:=(hs.ext hx2).get hc;have htk:=Xl l k hc;generalize l[k]=e at hce htk
   have hsn:Qds (l.take (k+1)) p=T++if(!decide (e.person=p)||decide (e.kind=14)) then [e] else []:=by
    rw[htk,hT];unfold Qds;rw[List.filter_append]
    congr 1
    simp only[List.filter_cons,List.filter_nil]
   conv=>whnf
   repeat(refine Sg ?_;(conv=>whnf))
   refine⟨a2,Ix,Hh ?_⟩;refine⟨_,cells_at hce (k:=4) rfl,Hh ?_⟩;refine⟨a2,fun _=>Ix,Hh ?_⟩;refine⟨_,fun _=>cells_at hce (k:=3) rfl,Hh ?_⟩;constructor
   . intro hq
     have hq:(!decide (e.person=p)||decide (e.kind=14))=true:=hq;rw[hq,if_pos rfl] at hsn
     conv=>whnf
     refine⟨a2,Ix,Hh ?_⟩;refine⟨evC e,⟨rfl,hce⟩,Hh ?_⟩;intro b3 w3 hn3;conv=>whnf
     refine Qi Q12 (l:=T) (news := [e]) rfl (hown.ext hn3.ext) rfl (Q12.new1 (x:=e) hn3) (by simp;omega) ((hx2.trans hn3.ext).size) fun A' c' w4 hown4 hg4 hA4 => ?_
     have hx4:=Qh (hx2.trans hn3.ext) hg4 (Qs hown);generalize hT1:T ++ [e]=T1 at hown4 hsn ⊢
     conv=>whnf
     refine⟨_,wrap_succ (by omega),Hh ?_⟩
     exact⟨(k+1,A',c',T1),by simp only;omega,⟨by simp only;omega,hx4,hsn.symm,hown4⟩,Rr⟩
   . intro hq
     have hq:(!decide (e.person=p)||decide (e.kind=14))=false:=hq;rw[hq] at hsn;simp only[Bool.false_eq_true,if_false,List.append_nil] at hsn
     conv=>whnf
     refine⟨_,wrap_succ (by omega),Hh ?_⟩
     exact⟨(k+1,B,d,T),by simp only;omega,⟨by simp only;omega,hx2,hsn.symm,hown⟩,Rr⟩
 . intro hc
   have hc:l.length<=k:=by simpa using hc
   rw[List.take_of_length_le hc] at hT;rw[<- hT]
   conv=>whnf
   exact⟨B,d,rfl,hown,hx2⟩
theorem Qr5 (l:List Ev) (p:ByteArray) (A:Option Addr) (c:Nat) (w:World) (hs:SlE w A l) (hl:l.length<1000000) :
 Cal Tryz.prog 138 [.slice A l.length c,.string p] w fun r w'=>∃ A' c',r = .slice A' (Qds l p).length c'/\SlE w' A' (Qds l p)/\Ext w w' :=
 (Quh l p A c w hs hl).mono fun _ _ ⟨A',c',h1,h2,h3⟩=>⟨A',c',h1,h2.sl Qab,h3⟩
theorem Q11 (l:List Ev) (A:Option Addr) (c:Nat) (w:World) (hs:SlE w A l) (hl:l.length<900000) :
 Cal Tryz.prog 137 [.slice A l.length c] w fun r w'=>∃ A' c' G,r = .slice A' G.length c'/\(∀ p,p∈G↔Qia l p=true)/\G.length<1000000/\Sl Qbg 1 w' A' G/\Ext w w':=by
 refine Fi Tryz.func137 rfl _ rfl rfl (Hh ?_);intro b1 w1 hn1;conv=>whnf
 have o1:=Xa.made (base:=w.heap.size) hn1 (Nat.le_refl _)
 refine Qd Qa (fun(k:Nat×Option Addr×Nat×List ByteArray) w'=>k.1<=l.length/\Ext w w'/\k.2.2.2.length<=k.1/\(∀ p,p∈k.2.2.2↔Qia (l.take k.1) p=true)/\Sl Qbg 1 w' k.2.1 k.2.2.2/\k.2.2.2.length<=k.2.2.1)
  (fun | (k,B,d,T) => [(0,.slice A l.length c),(3,.slice B T.length d),(4,.int .i64 k)]) (fun k=>l.length-k.1) (0,some ⟨b1,0,none⟩,0,[]) ⟨by simp,hn1.ext,by simp,by simp[Qia],o1.sl Xa.sz,by simp⟩ Rr ?_
 rintro ⟨k,B,d,T⟩ w2 ⟨hk,hx2,hTl,hT,hsl,hcap⟩;simp only at hk hT hTl hsl hcap
 conv=>whnf
 constructor
 . intro hc
   have hc:k<l.length:=by simpa using hc
   obtain⟨a2,rfl,hce⟩:=(hs.ext hx2).get hc;have htk:=Xl l k hc;generalize l[k]=e at hce htk;have hsn:∀ p,Qia (l.take (k+1)) p=(Qia (l.take k) p||(decide (e.kind=14)&&decide (e.person=p))):=fun p=>by rw[htk,Qnb]
   conv=>whnf
   repeat(refine Sg ?_;(conv=>whnf))
   refine⟨a2,Ix,Hh ?_⟩;refine⟨_,cells_at hce (k:=3) rfl,Hh ?_⟩;constructor
   . intro hq
     have hq:e.kind=14:=by simpa using hq
     conv=>whnf
     refine⟨a2,Ix,Hh ?_⟩;refine⟨_,cells_at hce (k:=4) rfl,Hh ?_⟩;refine(Que T e.person B d w2 hsl (by omega) hcap).mono ?_;rintro _ w3 ⟨A3,c3,rfl,hcap3,hs3,hx3⟩;have hpl:=Xaz T e.person
     have hpm:∀ p,p∈Qsu T e.person↔Qia (l.take (k+1)) p=true:=fun p=>by
      rw[put_mem,hsn,hT p,hq,Bool.or_eq_true];refine or_congr Iff.rfl ?_;simp only[decide_true,Bool.true_and,decide_eq_true_eq]
      exact eq_comm
     generalize Qsu T e.person=T1 at hcap3 hs3 hpl hpm ⊢
     conv=>whnf
     refine⟨_,wrap_succ (by omega),Hh ?_⟩
     exact⟨(k+1,A3,c3,T1),by simp only;omega,⟨by simp only;omega,hx2.trans hx3,by simp only;omega,hpm,hs3,hcap3⟩,Rr⟩
   . intro hq
     have hq:¬ e.kind=14:=by simpa using hq
     conv=>whnf
     refine⟨_,wrap_succ (by omega),Hh ?_⟩;refine⟨(k+1,B,d,T),by simp only;omega,⟨by simp only;omega,hx2,by simp only;omega,fun p => ?_,hsl,hcap⟩,Rr⟩;simp only;rw[hsn,hT p];simp[hq]
 . intro hc
   have hc:l.length<=k:=by simpa using hc
   rw[List.take_of_length_le hc] at hT
   conv=>whnf
   exact⟨B,d,T,rfl,hT,by omega,hsl,hx2⟩
theorem Qxg (l:List Ev) (A:Option Addr) (c:Nat) (w:World) (hs:SlE w A l) (hl:l.length<900000) :
 Cal Tryz.prog 69 [.slice A l.length c] w fun r w'=>∃ A' c',r = .slice A' (Qlx l).length c'/\SlE w' A' (Qlx l)/\Ext w w':=by
 refine Fi Tryz.func69 rfl _ rfl rfl (Hh ?_);refine(Q11 l A c w hs hl).mono ?_;rintro _ w1 ⟨AG,cG,G,rfl,hG,hGl,hsG,hx1⟩;conv=>whnf
 refine Qd Qa (fun(k:Nat×Option Addr×Nat×List Ev) w'=>k.1<=G.length/\Ext w1 w'/\k.2.2.2=l.filter (fun e => !inT (G.take k.1) e.person||decide (e.kind=14))/\SlE w' k.2.1 k.2.2.2)
  (fun | (k,B,d,T) => [(3,.slice AG G.length cG),(4,.slice B T.length d),(5,.int .i64 k)]) (fun k=>G.length-k.1) (0,A,c,l) ⟨by simp,Ext.refl _,by simp only[List.take_zero,inT,List.any_nil,Bool.not_false,Bool.true_or];exact(List.filter_eq_self.2 (fun _ _=>rfl)).symm,hs.ext hx1⟩ Rr ?_
 rintro ⟨k,B,d,T⟩ w2 ⟨hk,hx2,hT,hsl⟩;simp only at hk hT hsl;have hTl:T.length<=l.length:=by rw[hT];exact List.length_filter_le _ _
 conv=>whnf
 constructor
 . intro hc
   have hc:k<G.length:=by simpa using hc
   obtain⟨a2,rfl,hce⟩:=(hsG.ext hx2).get hc;have htk:=Xl G k hc;generalize G[k]=p at hce htk
   have hsn:l.filter (fun e => !inT (G.take (k+1)) e.person||decide (e.kind=14))=Qds T p:=by
    unfold Qds;rw[hT,List.filter_filter,htk]
    congr 1
    funext e
    simp only[inT,List.any_append,List.any_cons,List.any_nil,Bool.or_false];rw[show decide (p=e.person)=decide (e.person=p) by simp[eq_comm]]
    cases (G.take k).any (fun x=>decide (x=e.person)) <;> cases decide (e.person=p) <;> cases decide (e.kind=14) <;> rfl
   conv=>whnf
   refine⟨a2,Ix,Hh ?_⟩;refine⟨.string p,Qp hce,Hh ?_⟩;refine(Qr5 T p B d w2 hsl (by omega)).mono ?_;rintro _ w3 ⟨A3,c3,rfl,hs3,hx3⟩;rw[<- hsn] at hs3 ⊢;generalize hT1:l.filter (fun e => !inT (G.take (k+1)) e.person||decide (e.kind=14))=T1 at hs3 ⊢
   conv=>whnf
   refine⟨_,wrap_succ (by omega),Hh ?_⟩
   exact⟨(k+1,A3,c3,T1),by simp only;omega,⟨by simp only;omega,hx2.trans hx3,hT1.symm,hs3⟩,Rr⟩
 . intro hc
   have hc:G.length<=k:=by simpa using hc
   rw[List.take_of_length_le hc] at hT
   have hT':T=Qlx l:=by
    rw[hT];unfold Qlx
    congr 1
    funext e
    unfold Qkj
    congr 2
    rw[Bool.eq_iff_iff,Qf8]
    exact hG e.person
   rw[<- hT']
   conv=>whnf
   exact⟨B,d,rfl,hsl,hx1.trans hx2⟩
theorem Qt8 (l:List Ev) (A:Option Addr) (c:Nat) (w:World) (hs:SlE w A l) (hl:l.length<900000) (hm:∀ e∈l,Xp e=true) :
 Cal Tryz.prog 12 [.slice A l.length c] w fun r w'=>∃ A' c',r = .slice A' (Qd5 l).length c'/\SlE w' A' (Qd5 l)/\((Qd5 l).length<=c'/\∀ a,A'=some a->w.heap.size<=a.block/\a.block<w'.heap.size)/\Ext w w':=by
 have hol:=Qmi l;have hll:=(Qme (Qbs l)).length_le;refine Fi Tryz.func12 rfl _ rfl rfl (Hh ?_);refine(Q41 l A c w hs (by omega) (fun e he=>Qko (hm e he) (Nat.lt_trans (Qb9 (hm e he)) (by decide)))).mono ?_;rintro _ w1 ⟨A1,c1,rfl,hs1,hx1⟩;conv=>whnf
 refine(Qxg (Qbs l) A1 c1 w1 hs1 (by omega)).mono ?_;rintro _ w2 ⟨A2,c2,rfl,hs2,hx2⟩;conv=>whnf
 refine(Q52 (Qlx (Qbs l)) A2 c2 w2 hs2 (by omega)).mono ?_;rintro _ w3 ⟨A3,c3,z,rfl,hp,hsr,hs3,hc3,hx3⟩;have hz:=Q3e hm hp hsr;rw[<- hz]
 conv=>whnf
 exact⟨A3,c3,rfl,hs3,⟨hc3.1,fun a ha=>⟨Nat.le_trans (hx1.trans hx2).size (hc3.2 a ha).1,(hc3.2 a ha).2⟩⟩,(hx1.trans hx2).trans hx3⟩
end Go.Proofs.YteabekcdcphjpaaGreatDoor
