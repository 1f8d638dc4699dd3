/- Several texts in one: Pl7, Cu. -/
import Derived.Test.YtdahooejkjcjiaaGreatDoorGN
import Derived.Test.YtdahooejkjcjiaaGreatDoorGJ
set_option linter.unusedVariables false
set_option linter.unusedSimpArgs false
namespace Go.Proofs.YtdahooejkjcjiaaGreatDoor
open Go.Se Go.RowKit
structure Behind (now:Int) (person:ByteArray) (M:List Ev):Prop where
 at_:∀ e∈M,now<e.at_
 worth:∀ e∈M,Qv e≤0
 person:∀ e∈M,e.person≠person
def inT (l:List ByteArray) (s:ByteArray):Bool:=l.any fun x=>decide (x=s)
theorem Qe1 {l:List ByteArray} {s:ByteArray}:inT l s=true↔s∈l:=by simp[inT]
theorem Qpl {l:List ByteArray} {s:ByteArray}:inT l s=false↔s∉l:=by rw[← Bool.not_eq_true,Qe1]
theorem Qk8 (l:List ByteArray) (s:ByteArray) (A:Option Addr) (c:Nat) (w:World) (hs:Sl Qa8 1 w A l) (hl:l.length<1000000000) :
 Cal Tryz.prog 15 [.slice A l.length c,.string s] w fun r w'=>r = .bool (inT l s)∧w'=w:=by
 refine Fi Tryz.func15 rfl _ rfl rfl ?_;conv=>whnf
 refine Qe Qa (fun(k:Nat) w'=>k≤l.length∧w'=w∧s∉l.take k)
  (fun k => [(0,.slice A l.length c),(1,.string s),(5,.int .i64 k)]) (fun k=>l.length-k) 0 ⟨by omega,rfl,by simp⟩ ⟨rfl,rfl,rfl,trivial⟩ ?_
 rintro k w1 ⟨hk,rfl,hall⟩
 conv=>whnf
 constructor
 · intro hlt
   have hlt:k<l.length:=by simpa using hlt
   obtain⟨a,rfl,hc⟩:=hs.get hlt;have htk:=Xg l k hlt;have hin:=List.getElem_mem hlt;generalize l[k]=x at hc htk hin
   conv=>whnf
   refine⟨a,⟨rfl,by omega,by omega⟩,?_⟩;conv=>whnf
   refine⟨.string x,Qu hc,?_⟩;conv=>whnf
   constructor
   · intro h
     have h:x=s:=by simpa using h
     subst h
     conv=>whnf
     exact⟨by rw[Qe1.2 hin],rfl⟩
   · intro h
     have h:¬ x=s:=by simpa using h
     conv=>whnf
     refine⟨_,wrap_succ (by omega),?_⟩;conv=>whnf
     exact⟨k+1,by omega,⟨by omega,rfl,by rw[htk];simp[hall,Ne.symm h]⟩,⟨rfl,rfl,rfl,trivial⟩⟩
 · intro hge
   have hge:l.length≤k:=by simpa using hge
   rw[List.take_of_length_le hge] at hall
   conv=>whnf
   exact⟨by rw[Qpl.2 hall],rfl⟩
def Qqv (l:List ByteArray) (s:ByteArray):List ByteArray:=if inT l s=true then l else l.takeWhile (fun x=>bLt x s)++s :: l.dropWhile (fun x=>bLt x s)
theorem put_mem (l:List ByteArray) (s x:ByteArray):x∈Qqv l s↔x∈l∨x=s:=by
 unfold Qqv
 split
 · rename_i h
   rw[Qe1] at h
   exact⟨.inl,fun h'=>h'.elim id (fun e=>e ▸ h)⟩
 · have h:=List.takeWhile_append_dropWhile (p:=fun x=>bLt x s) (l:=l)
   constructor
   · intro hx
     rcases List.mem_append.1 hx with hx | hx
     · exact .inl (by rw[← h];exact List.mem_append.2 (.inl hx))
     · rcases List.mem_cons.1 hx with hx | hx
       · exact .inr hx
       · exact .inl (by rw[← h];exact List.mem_append.2 (.inr hx))
   · rintro (hx | hx)
     · rw[← h] at hx
       rcases List.mem_append.1 hx with hx | hx
       · simp[hx]
       · simp[hx]
     · simp[hx]
theorem Q7q (l:List ByteArray) (s:ByteArray):(Qqv l s).length≤l.length+1:=by
 unfold Qqv
 split
 · omega
 · have h:=congrArg List.length (List.takeWhile_append_dropWhile (p:=fun x=>bLt x s) (l:=l))
   rw[List.length_append] at h ⊢;rw[List.length_cons];omega
def Q6t (l:List ByteArray):Prop:=l.Pairwise (fun a b=>bLt a b=true)
theorem Q48 {l:List ByteArray} {s:ByteArray} (h:Q6t l):Q6t (Qqv l s):=by
 unfold Qqv
 split
 · exact h
 · rename_i hs
   rw[Qe1] at hs;have e:=List.takeWhile_append_dropWhile (p:=fun x=>bLt x s) (l:=l);unfold Q6t at *;have h':=h;rw[← e,List.pairwise_append] at h';obtain⟨h1,h2,h3⟩:=h'
   have hlow:∀ x∈l.takeWhile (fun x=>bLt x s),bLt x s=true:=fun x hx=>by
    have:=List.all_takeWhile (p:=fun x=>bLt x s) (l:=l);rw[List.all_eq_true] at this
    exact this x hx
   have hhigh:∀ x∈l.dropWhile (fun x=>bLt x s),bLt s x=true:=by
    cases hd:l.dropWhile (fun x=>bLt x s) with
    | nil=>simp
    | cons y ys =>
      have hy:bLt y s=false:=by
       have:=List.head_dropWhile_not (p:=fun x=>bLt x s) (l:=l) (by rw[hd];simp);simp only[hd,List.head_cons] at this
       exact this
      have hys:y∈l:=by rw[← e,hd];simp
      have hsy:bLt s y=true:=by
       cases hq:bLt s y with
       | true=>rfl
       | false=>exact absurd (Qb2 hq hy ▸ hys) hs
      intro x hx;rcases List.mem_cons.1 hx with rfl | hx
      · exact hsy
      · rw[hd,List.pairwise_cons] at h2
        exact Qaz hsy (h2.1 x hx)
   rw[List.pairwise_append];refine⟨h1,List.pairwise_cons.2 ⟨hhigh,h2⟩,fun a ha b hb => ?_⟩;rcases List.mem_cons.1 hb with rfl | hb
   · exact hlow a ha
   · exact h3 a ha b hb
theorem Qb0 {α:Type} {p:α→Bool} {l:List α} {k:Nat} (hk:k≤l.length) (h1:∀ x∈l.take k,p x=true) (h2:k=l.length∨∃ x,l[k]? = some x∧p x=false):l.takeWhile p=l.take k∧l.dropWhile p=l.drop k:=by
 have hd:(l.drop k).takeWhile p = []∧(l.drop k).dropWhile p=l.drop k:=by
  rcases h2 with rfl | ⟨x,hx,hp⟩
  · simp
  · have hlt:k<l.length:=(List.getElem?_eq_some_iff.1 hx).1
    have hxe:l[k]=x:=by rw[List.getElem?_eq_getElem hlt] at hx;simpa using hx
    rw[List.drop_eq_getElem_cons hlt,hxe]
    simp[hp]
 constructor
 · conv=>lhs;rw[← List.take_append_drop k l]
   rw[List.takeWhile_append_of_pos h1,hd.1,List.append_nil]
 · conv=>lhs;rw[← List.take_append_drop k l]
   rw[List.dropWhile_append_of_pos h1,hd.2]
theorem Q5g (l:List ByteArray) (s:ByteArray) (A:Option Addr) (c:Nat) (w:World) (hs:Sl Qa8 1 w A l) (hl:l.length<1000000) (hcap:l.length≤c) :
 Cal Tryz.prog 38 [.slice A l.length c,.string s] w fun r w'=>∃ A' c',r = .slice A' (Qqv l s).length c'∧(Qqv l s).length≤c'∧Sl Qa8 1 w' A' (Qqv l s)∧(A'=A∨∀ a,A'=some a→w.heap.size≤a.block∧a.block<w'.heap.size)∧Ext w w':=by
 refine Fi Tryz.func38 rfl _ rfl rfl ?_;conv=>whnf
 refine(Qk8 l s A c w hs (by omega)).mono ?_;rintro _ w0 ⟨rfl,hw0⟩;subst hw0
 conv=>whnf
 constructor
 · intro h
   have hp:Qqv l s=l:=if_pos h;rw[hp]
   conv=>whnf
   exact⟨A,c,rfl,hcap,hs,.inl rfl,Ext.refl _⟩
 · intro h
   have hp:Qqv l s=l.takeWhile (fun x=>bLt x s)++s :: l.dropWhile (fun x=>bLt x s):=if_neg (by rw[h];simp)
   conv=>whnf
   refine Qe Qa (fun(k:Nat) w'=>k≤l.length∧w'=w0∧∀ x∈l.take k,bLt x s=true)
    (fun k => [(0,.slice A l.length c),(1,.string s),(5,.int .i64 k)]) (fun k=>l.length-k) 0 ⟨by omega,rfl,by simp⟩ ⟨rfl,rfl,rfl,trivial⟩ ?_
   rintro k w1 ⟨hk,hw1,hall⟩;replace hw1:=hw1.symm;subst hw1
   obtain⟨a1,x,hk1⟩:∃ a1 x,k<l.length→A=some a1∧l[k]? = some x∧w0.cell? (a1.add (k*1))=some (.string x):=by
    by_cases hh:k<l.length
    · obtain⟨a1,h1,h2⟩:=hs.get hh
      exact⟨a1,l[k],fun _=>⟨h1,List.getElem?_eq_getElem hh,Qu h2⟩⟩
    · exact⟨⟨0,0,none⟩,s,fun h=>absurd h hh⟩
   have hd:∀ {p:Nat},decide ((p:Int)<(l.length:Int))=true→p<l.length:=fun h=>by simpa using h
   conv=>whnf
   refine⟨a1,fun hg=>⟨(hk1 (hd hg)).1,by omega,by have:=hd hg;omega⟩,?_⟩;conv=>whnf
   refine⟨.string x,fun hg=>(hk1 (hd hg)).2.2,?_⟩;conv=>whnf
   constructor
   · intro hc
     have hc:(decide ((k:Int)<(l.length:Int))&&bLt x s)=true:=hc;rw[Bool.and_eq_true] at hc;have hlt:=hd hc.1;have htk:=Xg l k hlt;have hxe:l[k]=x:=by have:=(hk1 hlt).2.1;rw[List.getElem?_eq_getElem hlt] at this;simpa using this
     conv=>whnf
     refine⟨_,wrap_succ (by omega),?_⟩;conv=>whnf
     refine⟨k+1,by omega,⟨by omega,rfl,fun y hy => ?_⟩,⟨rfl,rfl,rfl,trivial⟩⟩;rw[htk,hxe] at hy;rcases List.mem_append.1 hy with hy | hy
     · exact hall y hy
     · simp at hy;subst hy;exact hc.2
   · intro hc
     have hc:(decide ((k:Int)<(l.length:Int))&&bLt x s)=false:=hc
     have hend:k=l.length∨∃ x,l[k]? = some x∧bLt x s=false:=by
      by_cases hh:k<l.length
      · refine .inr ⟨x,(hk1 hh).2.1,?_⟩
        have:decide ((k:Int)<(l.length:Int))=true:=by simpa using hh
        rw[this] at hc
        simpa using hc
      · exact .inl (by omega)
     obtain⟨t1,t2⟩:=Qb0 (p:=fun x=>bLt x s) hk hall hend;rw[t1,t2] at hp;clear hk1 hc hend t1 t2 hall;have hsk:=Qab (Qgz hs k) 0 c (by rw[List.length_take];omega);have hsd:=Qab hs k c hcap;rw[List.drop_zero] at hsk;have hkm:k=(l.take k).length:=by rw[List.length_take];omega
     have hdl:l.length-k=(l.drop k).length:=by rw[List.length_drop]
     have htot:(l.take k).length+(l.drop k).length=l.length:=by rw[List.length_take,List.length_drop];omega
     rw[hp];generalize l.take k=T at hsk hkm htot;generalize l.drop k=D at hsd hdl htot
     conv=>whnf
     intro b2 w2 hn2;conv=>whnf
     have o2:=Q9.made (base:=w0.heap.size) hn2 (Nat.le_refl _);refine⟨⟨by omega,by omega,by omega,by omega⟩,?_⟩;conv=>whnf
     refine Qg Q9 (l := []) (news:=T) rfl o2 hkm (hsk.ext hn2.ext) (by simp;omega) hn2.ext.size fun A3 c3 w3 hown3 hg3 hA3 => ?_
     have hx3:=Qi hn2.ext hg3 (Qp o2);rw[List.nil_append] at hown3 ⊢
     conv=>whnf
     intro b4 w4 hn4;conv=>whnf
     refine Qg Q9 (l:=T) (news := [s]) rfl (hown3.ext hn4.ext) rfl (Q9.new1 (x:=s) hn4) (by simp;omega) (hx3.trans hn4.ext).size fun A5 c5 w5 hown5 hg5 hA5 => ?_
     have hx5:=Qi (hx3.trans hn4.ext) hg5 (Qp hown3);generalize hT1:T ++ [s]=T1 at hown5 ⊢;have hT1l:T1.length=T.length+1:=by rw[← hT1];simp
     conv=>whnf
     refine⟨⟨by omega,by omega,by omega,by omega⟩,?_⟩;conv=>whnf
     refine Qg Q9 (l:=T1) (news:=D) rfl hown5 hdl (hsd.ext hx5) (by omega) hx5.size fun A6 c6 w6 hown6 hg6 hA6 => ?_
     have hx6:=Qi hx5 hg6 (Qp hown5);have hfin:T++s :: D=T1++D:=by rw[← hT1];simp
     rw[hfin];generalize T1++D=T2 at hown6 ⊢
     conv=>whnf
     exact⟨A6,c6,rfl,hown6.le,hown6.sl Q9.sz,.inr fun a ha=>hown6.block ha,hx6⟩
theorem Qr8 (l:List ByteArray) (s:ByteArray) (A:Option Addr) (c:Nat) (w:World) (hs:Sl Qa8 1 w A l) (hl:l.length<1000000) (hcap:l.length≤c) :
 Cal Tryz.prog 38 [.slice A l.length c,.string s] w fun r w'=>∃ A' c',r = .slice A' (Qqv l s).length c'∧(Qqv l s).length≤c'∧Sl Qa8 1 w' A' (Qqv l s)∧Ext w w' :=
 (Q5g l s A c w hs hl hcap).mono fun r w' ⟨A',c',h1,h2,h3,_,h5⟩=>⟨A',c',h1,h2,h3,h5⟩
def Qey (l:List Ev) (p:ByteArray):List Ev:=l.filter fun e => !decide (e.person=p)||decide (e.kind=14)
theorem Qsb (l:List Ev) (p:ByteArray) (A:Option Addr) (c:Nat) (w:World) (hs:SlE w A l) (hl:l.length<1000000) :
 Cal Tryz.prog 39 [.slice A l.length c,.string p] w fun r w'=>∃ A' c',r = .slice A' (Qey l p).length c'∧Own evC 8 34 w.heap.size w' A' c' (Qey l p)∧Ext w w':=by
 refine Fi Tryz.func39 rfl _ rfl rfl ?_;conv=>whnf
 intro b1 w1 hn1;conv=>whnf
 have o1:=Qiw.made (base:=w.heap.size) hn1 (Nat.le_refl _)
 refine Qe Qa (fun(k:Nat×Option Addr×Nat×List Ev) w'=>k.1≤l.length∧Ext w w'∧k.2.2.2=Qey (l.take k.1) p∧Own evC 8 34 w.heap.size w' k.2.1 k.2.2.1 k.2.2.2)
  (fun | (k,B,d,T) => [(0,.slice A l.length c),(1,.string p),(5,.slice B T.length d),(6,.int .i64 k)]) (fun k=>l.length-k.1) (0,some ⟨b1,0,none⟩,0,[]) ⟨by simp,hn1.ext,rfl,o1⟩ ⟨rfl,rfl,rfl,rfl,trivial⟩ ?_
 rintro ⟨k,B,d,T⟩ w2 ⟨hk,hx2,hT,hown⟩;simp only at hk hT hown
 have hTl:T.length≤k:=by
  rw[hT];have:=List.length_filter_le (fun e:Ev => !decide (e.person=p)||decide (e.kind=14)) (l.take k);rw[List.length_take] at this;unfold Qey;omega
 conv=>whnf
 constructor
 · intro hc
   have hc:k<l.length:=by simpa using hc
   obtain⟨a2,rfl,hce⟩:=(hs.ext hx2).get hc;have htk:=Xg l k hc;generalize l[k]=e at hce htk
   have hsn:Qey (l.take (k+1)) p=T++if(!decide (e.person=p)||decide (e.kind=14)) then [e] else []:=by
    rw[htk,hT];unfold Qey;rw[List.filter_append]
    congr 1
    simp only[List.filter_cons,List.filter_nil]
   conv=>whnf
   repeat(refine Sg ?_;(conv=>whnf))
   refine⟨a2,⟨rfl,by omega,by omega⟩,?_⟩;conv=>whnf
   refine⟨_,cells_at hce (k:=4) rfl,?_⟩;conv=>whnf
   refine⟨a2,fun _=>⟨rfl,by omega,by omega⟩,?_⟩;conv=>whnf
   refine⟨_,fun _=>cells_at hce (k:=3) rfl,?_⟩;conv=>whnf
   constructor
   · intro hq
     have hq:(!decide (e.person=p)||decide (e.kind=14))=true:=hq;rw[hq,if_pos rfl] at hsn
     conv=>whnf
     refine⟨a2,⟨rfl,by omega,by omega⟩,?_⟩;conv=>whnf
     refine⟨evC e,⟨rfl,hce⟩,?_⟩;conv=>whnf
     intro b3 w3 hn3;conv=>whnf
     refine Qg Qiw (l:=T) (news := [e]) rfl (hown.ext hn3.ext) rfl (Qiw.new1 (x:=e) hn3) (by simp;omega) ((hx2.trans hn3.ext).size) fun A' c' w4 hown4 hg4 hA4 => ?_
     have hx4:=Qi (hx2.trans hn3.ext) hg4 (Qp hown);generalize hT1:T ++ [e]=T1 at hown4 hsn ⊢
     conv=>whnf
     refine⟨_,wrap_succ (by omega),?_⟩;conv=>whnf
     exact⟨(k+1,A',c',T1),by simp only;omega,⟨by simp only;omega,hx4,hsn.symm,hown4⟩,⟨rfl,rfl,rfl,rfl,trivial⟩⟩
   · intro hq
     have hq:(!decide (e.person=p)||decide (e.kind=14))=false:=hq;rw[hq] at hsn;simp only[Bool.false_eq_true,if_false,List.append_nil] at hsn
     conv=>whnf
     refine⟨_,wrap_succ (by omega),?_⟩;conv=>whnf
     exact⟨(k+1,B,d,T),by simp only;omega,⟨by simp only;omega,hx2,hsn.symm,hown⟩,⟨rfl,rfl,rfl,rfl,trivial⟩⟩
 · intro hc
   have hc:l.length≤k:=by simpa using hc
   rw[List.take_of_length_le hc] at hT;rw[← hT]
   conv=>whnf
   exact⟨B,d,rfl,hown,hx2⟩
theorem Qoi (l:List Ev) (A:Option Addr) (c:Nat) (w:World) (hs:SlE w A l) (hl:l.length<900000) :
 Cal Tryz.prog 16 [.slice A l.length c] w fun r w'=>∃ A' c' G,r = .slice A' G.length c'∧(∀ p,p∈G↔Qcc l p=true)∧G.length<1000000∧Sl Qa8 1 w' A' G∧Ext w w':=by
 refine Fi Tryz.func16 rfl _ rfl rfl ?_;conv=>whnf
 intro b1 w1 hn1;conv=>whnf
 have o1:=Q9.made (base:=w.heap.size) hn1 (Nat.le_refl _)
 refine Qe Qa (fun(k:Nat×Option Addr×Nat×List ByteArray) w'=>k.1≤l.length∧Ext w w'∧k.2.2.2.length≤k.1∧(∀ p,p∈k.2.2.2↔Qcc (l.take k.1) p=true)∧Sl Qa8 1 w' k.2.1 k.2.2.2∧k.2.2.2.length≤k.2.2.1)
  (fun | (k,B,d,T) => [(0,.slice A l.length c),(3,.slice B T.length d),(4,.int .i64 k)]) (fun k=>l.length-k.1) (0,some ⟨b1,0,none⟩,0,[]) ⟨by simp,hn1.ext,by simp,by simp[Qcc],o1.sl Q9.sz,by simp⟩ ⟨rfl,rfl,rfl,trivial⟩ ?_
 rintro ⟨k,B,d,T⟩ w2 ⟨hk,hx2,hTl,hT,hsl,hcap⟩;simp only at hk hT hTl hsl hcap
 conv=>whnf
 constructor
 · intro hc
   have hc:k<l.length:=by simpa using hc
   obtain⟨a2,rfl,hce⟩:=(hs.ext hx2).get hc;have htk:=Xg l k hc;generalize l[k]=e at hce htk;have hsn:∀ p,Qcc (l.take (k+1)) p=(Qcc (l.take k) p||(decide (e.kind=14)&&decide (e.person=p))):=fun p=>by rw[htk,Q03]
   conv=>whnf
   repeat(refine Sg ?_;(conv=>whnf))
   refine⟨a2,⟨rfl,by omega,by omega⟩,?_⟩;conv=>whnf
   refine⟨_,cells_at hce (k:=3) rfl,?_⟩;conv=>whnf
   constructor
   · intro hq
     have hq:e.kind=14:=by simpa using hq
     conv=>whnf
     refine⟨a2,⟨rfl,by omega,by omega⟩,?_⟩;conv=>whnf
     refine⟨_,cells_at hce (k:=4) rfl,?_⟩;conv=>whnf
     refine(Qr8 T e.person B d w2 hsl (by omega) hcap).mono ?_;rintro _ w3 ⟨A3,c3,rfl,hcap3,hs3,hx3⟩;have hpl:=Q7q T e.person
     have hpm:∀ p,p∈Qqv T e.person↔Qcc (l.take (k+1)) p=true:=fun p=>by
      rw[put_mem,hsn,hT p,hq,Bool.or_eq_true];refine or_congr Iff.rfl ?_;simp only[decide_true,Bool.true_and,decide_eq_true_eq]
      exact eq_comm
     generalize Qqv T e.person=T1 at hcap3 hs3 hpl hpm ⊢
     conv=>whnf
     refine⟨_,wrap_succ (by omega),?_⟩;conv=>whnf
     exact⟨(k+1,A3,c3,T1),by simp only;omega,⟨by simp only;omega,hx2.trans hx3,by simp only;omega,hpm,hs3,hcap3⟩,⟨rfl,rfl,rfl,trivial⟩⟩
   · intro hq
     have hq:¬ e.kind=14:=by simpa using hq
     conv=>whnf
     refine⟨_,wrap_succ (by omega),?_⟩;conv=>whnf
     refine⟨(k+1,B,d,T),by simp only;omega,⟨by simp only;omega,hx2,by simp only;omega,fun p => ?_,hsl,hcap⟩,⟨rfl,rfl,rfl,trivial⟩⟩;simp only;rw[hsn,hT p];simp[hq]
 · intro hc
   have hc:l.length≤k:=by simpa using hc
   rw[List.take_of_length_le hc] at hT
   conv=>whnf
   exact⟨B,d,T,rfl,hT,by omega,hsl,hx2⟩
end Go.Proofs.YtdahooejkjcjiaaGreatDoor
