import Derived.Test.YtpdonaienhociaaGreatDoorGH
set_option linter.all false
namespace Go.Proofs.YtpdonaienhociaaGreatDoor
open Go.Se Go.RowKit
theorem Xgi (row:List St) (t:Int):(stN row t=0\/∃ s,row[stN row t-1]? = some s/\s.at_<=t)/\(stN row t=row.length\/∃ s,row[stN row t]? = some s/\t<s.at_)/\stN row t<=row.length:=by
 unfold stN
 induction row with
 | nil=>simp
 | cons a row ih =>
   rw[List.takeWhile_cons]
   by_cases h:a.at_<=t
   . rw[if_pos (Su h)];obtain⟨i1,i2,i3⟩:=ih;simp only[Z8];generalize (row.takeWhile fun s=>decide (s.at_<=t)).length=n at *;refine⟨.inr ?_,?_,Om⟩
     . rcases i1 with rfl | ⟨s,hs,hle⟩
       . exact⟨a,by simp,h⟩
       . cases n with
         | zero=>exact⟨a,by simp,h⟩
         | succ n=>exact⟨s,Su hs,hle⟩
     . rcases i2 with h2 | ⟨s,hs,hlt⟩
       . exact .inl Om
       . exact .inr ⟨s,Su hs,hlt⟩
   . rw[if_neg (Su h)];exact⟨.inl rfl,.inr ⟨a,rfl,Om⟩,by simp⟩
def thQ (name:Bj) (t:Int) (e:Ev):Bool:=decide (e.item=name)&&decide (e.at_<=t)
def Qpy (name:Bj) (es:List Ev):St:=es.foldl Qb8 (Qid name)
theorem Qh1 (name:Bj) (es:List Ev) (e:Ev):Qpy name (es ++ [e])=Qb8 (Qpy name es) e:=by simp[Qpy]
theorem Qzk (s:St) (e:Ev):(Qb8 s e).item.name=s.item.name:=by unfold Qb8;split <;> (try split) <;> rfl
def Qtz (name:Bj) (es:List Ev):It:=if es.isEmpty then Qbt else(Qpy name es).item
theorem Qkb {row:List St} {t:Int} (h:∀ s∈row,s.at_<=t):stN row t=row.length:=by
 unfold stN;have:row.takeWhile (fun s=>decide (s.at_<=t))=row:=(by have:=Zce (l₂ := []) (p:=fun s:St=>decide (s.at_<=t)) (l₁:=row) (fun s hs=>by simpa using h s hs);simpa using this);rw[this]
theorem Xah:∀ (cs:List Ev),Rise cs->∀ (name:Bj) (t:Int),
 (stN (Qz cs name) t=0↔cs.filter (thQ name t) = [])/\(stN (Qz cs name) t≠0->(Qz cs name)[stN (Qz cs name) t-1]? = some (Qpy name (cs.filter (thQ name t)))):=by
 refine Qv ?_ ?_
 . intro _ name t;simp[Qz,stN]
 . intro cs e ih h name t;have h1:Rise cs:=(Z4.1 h).1;have h2:=(Z4.1 h).2.2;obtain⟨i1,i2⟩:=ih h1 name t;obtain⟨r1,r2⟩:=Qlf cs h1 name;rw[Qba,Zq];unfold Qff Ql4
   by_cases hn:name=e.item
   . rw[if_pos hn];subst hn;generalize hrow:Qz cs e.item=row at *;have hle:∀ s∈row,s.at_<=e.at_:=fun s hs=>(by obtain⟨e',he',h3,_⟩:=r2 s hs;have:=Qyf (h2 e' he' e (by simp));omega)
     by_cases ht:e.at_<=t
     . have hq:thQ e.item t e=true:=by simp[thQ,ht]
       have hall:∀ s∈row ++ [Qfb row e],s.at_<=t:=fun s hs=>by
        rcases Zj.1 hs with hs | hs
        . have:=hle s hs;omega
        . simp at hs;subst hs;unfold Qfb;rw[Qf8];exact ht
       have hN:stN row t=row.length:=Qkb fun s hs=>hall s (by simp[hs])
       rw[Qkb hall];refine⟨by simp[Zar,hq],fun _ => ?_⟩;simp only[Zar,hq,if_true,Zc0,Qh1];rw[Zo,Za0,Nat.add_sub_cancel,Z5 (Zg _),Nat.sub_self];unfold Qfb;rw[hN] at i1 i2;congr 2
       by_cases h0:row.length=0
       . have h3:=i1.1 h0;rw[h3,Zao.1 h0];rfl
       . rw[List.getLast?_eq_getElem?,i2 h0];rfl
     . have hq:thQ e.item t e=false:=by simp[thQ,ht]
       have hN:stN (row ++ [Qfb row e]) t=stN row t:=by
        unfold stN;rw[List.takeWhile_append];split
        . rw[List.takeWhile_cons_of_neg (by unfold Qfb;rw[Qf8];simpa using ht)];simp;omega
        . rfl
       rw[hN];simp only[Zar,hq,Zag,if_false,Zc0,Zw];refine⟨i1,fun h0 => ?_⟩;have:=(Xgi row t).2.2;rw[Zz Om];exact i2 h0
   . rw[if_neg hn];have hq:thQ name t e=false:=by simp[thQ,Ne.symm hn]
     simp only[Zar,hq,Zag,if_false,Zc0,Zw];exact⟨i1,i2⟩
theorem Qee {cs:List Ev} (h:Rise cs) (name:Bj) (t:Int):Xw cs name t=(Qtz name (cs.filter (thQ name t)),!(cs.filter (thQ name t)).isEmpty):=by
 obtain⟨h1,h2⟩:=Xah cs h name t;unfold Xw Qtz
 by_cases h0:stN (Qz cs name) t=0
 . have h3:=h1.1 h0;rw[h3,h0];cases (Qz cs name)[0-1]? <;> rfl
 . have h3:cs.filter (thQ name t) ≠ []:=fun h=>h0 (h1.2 h)
   rw[h2 h0];simp only[if_neg h0];generalize cs.filter (thQ name t)=F at h3
   cases F with
   | nil=>exact absurd rfl h3
   | cons a es=>rfl
structure Sto {α:Type} (lt:α->α->Bool):Prop where
 irrefl:∀ a,lt a a=false
 trans:∀ {a b c},lt a b=true->lt b c=true->lt a c=true
 tri:∀ {a b},lt a b=false->lt b a=false->a=b
theorem Qtl:Sto bLt:=⟨Xr,Qbv,Qbw⟩
def SG {α:Type} (lt:α->α->Bool) (l:List α):Prop:=l.Pairwise fun x y=>lt x y=true
theorem SG.nodup {α:Type} {lt:α->α->Bool} (O:Sto lt) {l:List α} (h:SG lt l):l.Nodup:=h.imp fun h e=>by rw[e,O.irrefl] at h;cases h
theorem Qwo {α:Type} {lt:α->α->Bool} (O:Sto lt) {a b:α} (h:lt a b=true):lt b a=false:=by
 cases hb:lt b a with
 | false=>rfl
 | true=>have:=O.trans h hb;rw[O.irrefl] at this;cases this
theorem Qwa {α:Type} {lt:α->α->Bool} (O:Sto lt) {l m:List α} (h1:SG lt l) (h2:SG lt m) (hm:∀ x,x∈l↔x∈m):l=m :=
 List.Perm.eq_of_pairwise (le:=fun a b=>lt b a=false) (fun a b _ _ h1 h2=>O.tri h2 h1) (h1.imp fun h=>Qwo O h) (h2.imp fun h=>Qwo O h) (Qhd (h1.nodup O) (h2.nodup O) (fun x hx=>(hm x).1 hx) fun x hx=>(hm x).2 hx)
section
variable {α:Type} [DecidableEq α] {lt:α->α->Bool}
def Q3j (lt:α->α->Bool) (l:List α) (a:α):List α :=
 if(l.dropWhile fun x=>lt x a).head? = some a then l else l.takeWhile (fun x=>lt x a)++a :: l.dropWhile (fun x=>lt x a)
theorem Qsb (a:α):Q3j lt [] a = [a]:=by simp[Q3j]
theorem Qn1 (x:α) (l:List α) (a:α):Q3j lt (x :: l) a=if lt x a=true then x :: Q3j lt l a else if x=a then x :: l else a :: x :: l:=by
 unfold Q3j;rw[List.takeWhile_cons,List.dropWhile_cons]
 cases h:lt x a with
 | true =>
   simp only[if_true];split <;> simp
 | false =>
   simp only[Zag,if_false,List.head?_cons,Zbu,Zan]
theorem Qjo {x a:α}:∀ {l:List α},x∈Q3j lt l a↔x∈l\/x=a
 | []=>by rw[Qsb];simp
 | y :: l=>by
   have ih:=Qjo (x:=x) (a:=a) (l:=l);rw[Qn1];split
   . rw[Zr,ih,Zr];exact or_assoc.symm
   . split
     . next h =>
       subst h;constructor
       . exact .inl
       . rintro (h | rfl)
         . exact h
         . simp
     . rw[Zr];exact or_comm
theorem Qx7 (O:Sto lt) {a:α}:∀ {l:List α},SG lt l->SG lt (Q3j lt l a)
 | [],_=>by rw[Qsb];exact List.pairwise_singleton _ _
 | y :: l,h=>by
   have h':=Z9.1 h;have ih:=Qx7 O (a:=a) h'.2;rw[Qn1];split
   . next hy =>
     refine Z9.2 ⟨fun x hx => ?_,ih⟩;rcases Qjo.1 hx with hx | rfl
     . exact h'.1 x hx
     . exact hy
   . next hy =>
     split
     . exact h
     . next hne =>
       have hay:lt a y=true:=by
        cases hq:lt a y with
        | true=>rfl
        | false=>exact absurd (O.tri (Su hy) hq) hne
       refine Z9.2 ⟨fun x hx => ?_,h⟩;rcases Zr.1 hx with rfl | hx
       . exact hay
       . exact O.trans hay (h'.1 x hx)
def Qft (lt:α->α->Bool) (l:List α):List α:=l.foldl (Q3j lt) []
theorem Qin (l:List α) (a:α):Qft lt (l ++ [a])=Q3j lt (Qft lt l) a:=by unfold Qft;rw[Zt];rfl
theorem Qqj {x:α}:∀ l:List α,x∈Qft lt l↔x∈l:=by
 refine Qv (by simp[Qft]) fun l a ih => ?_
 rw[Qin,Qjo,ih,Zj,Zk]
theorem Q7t (O:Sto lt):∀ l:List α,SG lt (Qft lt l):=by
 refine Qv List.Pairwise.nil fun l a ih => ?_
 rw[Qin];exact Qx7 O ih
theorem Qsa (a:α):∀ l:List α,(Q3j lt l a).length<=l.length+1
 | []=>by rw[Qsb];simp
 | y :: l=>by
   have ih:=Qsa a l;rw[Qn1];split
   . simp;omega
   . split <;> simp
theorem Q3i:∀ l:List α,(Qft lt l).length<=l.length:=by
 refine Qv (by simp[Qft]) fun l a ih => ?_
 rw[Qin];have:=Qsa (lt:=lt) a (Qft lt l);simp;omega
end
theorem Qlz {l:List Bj} (h:l.Nodup):SG bLt (Xi l):=by
 have h1:=Qf6 l;have h2:(Xi l).Pairwise (· ≠ ·):=Zae.1 ((Qbl l).nodup_iff.2 h);refine(List.Pairwise.and h1 h2).imp ?_;rintro a b ⟨h3,h4⟩
 cases hc:bLt a b with
 | true=>rfl
 | false=>exact absurd (Qbw hc h3) h4
theorem Qwe {l:List Int} (h:l.Nodup):(Qew l).Pairwise (· < ·):=by
 have h1:=Qo3 l;have h2:(Qew l).Pairwise (· ≠ ·):=Zae.1 ((Qd9 l).nodup_iff.2 h);refine(List.Pairwise.and h1 h2).imp ?_;rintro a b ⟨h3,h4⟩;omega
theorem Qi0 (l:List Bj):SG bLt (Qcc l):=Qlz (Qfo l)
theorem Q0x (l:List Bj) (s:Bj):Q3j bLt (Qcc l) s=Qcc (l ++ [s]) :=
 Qwa Qtl (Qx7 Qtl (Qi0 l)) (Qi0 _) fun x=>by rw[Qjo,X5,X5,Zj,Zk]
theorem Q91 (l:List Bj):Qcc (Qcc l)=Qcc l:=Qq7 fun x=>X5
abbrev Ad3:=Bj×Int×Bj
def adE (e:Ev):Ad3:=(e.person,e.at_,e.item)
def ahB (a b:Ad3):Bool:=if a.1=b.1 then(if a.2.1=b.2.1 then bLt a.2.2 b.2.2 else decide (a.2.1<b.2.1)) else bLt a.1 b.1
theorem Qna {a b:Ad3}:ahB a b=true↔bLt a.1 b.1=true\/(a.1=b.1/\(a.2.1<b.2.1\/(a.2.1=b.2.1/\bLt a.2.2 b.2.2=true))):=by
 unfold ahB
 by_cases h1:a.1=b.1
 . have hi:bLt a.1 b.1=false:=by rw[h1];exact Xr _
   rw[if_pos h1]
   by_cases h2:a.2.1=b.2.1
   . rw[if_pos h2];constructor
     . intro h;exact .inr ⟨h1,.inr ⟨h2,h⟩⟩
     . rintro (h | ⟨_,h | ⟨_,h⟩⟩)
       . rw[hi] at h;cases h
       . omega
       . exact h
   . rw[if_neg h2,decide_eq_true_eq];constructor
     . intro h;exact .inr ⟨h1,.inl h⟩
     . rintro (h | ⟨_,h | ⟨h,_⟩⟩)
       . rw[hi] at h;cases h
       . exact h
       . exact absurd h h2
 . rw[if_neg h1];constructor
   . exact .inl
   . rintro (h | ⟨h,_⟩)
     . exact h
     . exact absurd h h1
theorem Xet:Sto ahB where
 irrefl a:=by unfold ahB;rw[if_pos rfl,if_pos rfl];exact Xr _
 trans:=by
  intro a b c h k;rw[Qna] at *;rcases h with h | ⟨h,h'⟩ <;> rcases k with k | ⟨k,k'⟩
  . exact .inl (Qbv h k)
  . exact .inl (k ▸ h)
  . exact .inl (h ▸ k)
  . refine .inr ⟨h.trans k,?_⟩;rcases h' with h' | ⟨h',h2⟩ <;> rcases k' with k' | ⟨k',k2⟩
    . exact .inl Om
    . exact .inl Om
    . exact .inl Om
    . exact .inr ⟨Om,Qbv h2 k2⟩
 tri:=by
  intro a b h k;obtain⟨a1,a2,a3⟩:=a;obtain⟨b1,b2,b3⟩:=b;rw[<- Zad,Qna] at h k;simp only at h k;have e1:a1=b1:=Qbw (by rw[<- Zad];exact fun x=>h (.inl x)) (by rw[<- Zad];exact fun x=>k (.inl x));subst e1
  have e2:a2=b2:=by
   rcases Int.lt_trichotomy a2 b2 with x | x | x
   . exact absurd (.inr ⟨rfl,.inl x⟩) h
   . exact x
   . exact absurd (.inr ⟨rfl,.inl x⟩) k
  subst e2;have e3:a3=b3:=Qbw (by rw[<- Zad];exact fun x=>h (.inr ⟨rfl,.inr ⟨rfl,x⟩⟩)) (by rw[<- Zad];exact fun x=>k (.inr ⟨rfl,.inr ⟨rfl,x⟩⟩));rw[e3]
def tks (ss:Ses) (p:Bj):Qer:=(Qe ss p).getD []
theorem Qm1 (s:Ses) (P I:Bj) (T:Int) (p:Bj):tks (Xbj s P T I) p=if p=P then Xc (tks s P) T (Xc ((Qe (tks s P) T).getD []) I true) else tks s p:=by
 unfold tks Xbj;rw[Xn];split <;> rfl
theorem Qg4 {κ β:Type} [DecidableEq κ] {k x:κ} {v:β} {l:List (κ×β)}:x∈(Xc l k v).map (·.1)↔x∈l.map (·.1)\/x=k:=by
 rw[Qed];split
 . next h =>
   constructor
   . exact .inl
   . rintro (h1 | rfl)
     . exact h1
     . exact h
 . rw[Zj,Zk]
theorem Qzw (m:Qer) (T t:Int) (x:List (Bj×Bool)):Xt (Xc m T x) t=if t=T then x.map (·.1) else Xt m t:=by
 unfold Xt;rw[Xn];split <;> rfl
structure Xe2 (ss:Ses) (l:List Ev):Prop where
 keys:ss.Pairwise (fun x y=>x.1≠y.1)
 ticks:∀ p,(tks ss p).Pairwise (fun x y=>x.1≠y.1)
 item:∀ p t i,i∈Xt (tks ss p) t↔∃ e∈l,e.person=p/\e.at_=t/\e.item=i
 tick:∀ p t,t∈(tks ss p).map (·.1)↔∃ e∈l,e.person=p/\e.at_=t
 person:∀ p,p∈ss.map (·.1)↔∃ e∈l,e.person=p
theorem Xgh:∀ l:List Ev,Xe2 (Qic l) l:=by
 refine Qv ⟨List.Pairwise.nil,fun p=>List.Pairwise.nil,fun p t i=>by simp[Qic,tks,Qe,Xt],fun p t=>by simp[Qic,tks,Qe],fun p=>by simp[Qic]⟩ fun l e ih => ?_
 rw[Qzi];refine⟨Qaf ih.keys,fun p => ?_,fun p t i => ?_,fun p t => ?_,fun p => ?_⟩
 . rw[Qm1];split
   . exact Qaf (ih.ticks _)
   . exact ih.ticks p
 . rw[Qm1]
   have hx:(∃ x∈l ++ [e],x.person=p/\x.at_=t/\x.item=i)↔(∃ x∈l,x.person=p/\x.at_=t/\x.item=i)\/(e.person=p/\e.at_=t/\e.item=i):=by
    constructor
    . rintro ⟨x,hx,h⟩;rcases Zj.1 hx with hx | hx
      . exact .inl ⟨x,hx,h⟩
      . rw[Zk] at hx;subst hx;exact .inr h
    . rintro (⟨x,hx,h⟩ | h)
      . exact⟨x,by simp[hx],h⟩
      . exact⟨e,by simp,h⟩
   rw[hx,<- ih.item]
   by_cases hp:p=e.person
   . subst hp;rw[if_pos rfl,Qzw]
     by_cases ht:t=e.at_
     . subst ht;rw[if_pos rfl,Qg4];show (i∈Xt (tks (Qic l) e.person) e.at_\/i=e.item)↔_
       constructor
       . rintro (h | h)
         . exact .inl h
         . exact .inr ⟨rfl,rfl,h.symm⟩
       . rintro (h | ⟨_,_,h⟩)
         . exact .inl h
         . exact .inr h.symm
     . rw[if_neg ht];constructor
       . exact .inl
       . rintro (h | ⟨_,h,_⟩)
         . exact h
         . exact absurd h.symm ht
   . rw[if_neg hp];constructor
     . exact .inl
     . rintro (h | ⟨h,_⟩)
       . exact h
       . exact absurd h.symm hp
 . rw[Qm1]
   have hx:(∃ x∈l ++ [e],x.person=p/\x.at_=t)↔(∃ x∈l,x.person=p/\x.at_=t)\/(e.person=p/\e.at_=t):=by
    constructor
    . rintro ⟨x,hx,h⟩;rcases Zj.1 hx with hx | hx
      . exact .inl ⟨x,hx,h⟩
      . rw[Zk] at hx;subst hx;exact .inr h
    . rintro (⟨x,hx,h⟩ | h)
      . exact⟨x,by simp[hx],h⟩
      . exact⟨e,by simp,h⟩
   rw[hx,<- ih.tick]
   by_cases hp:p=e.person
   . subst hp;rw[if_pos rfl,Qg4];constructor
     . rintro (h | h)
       . exact .inl h
       . exact .inr ⟨rfl,h.symm⟩
     . rintro (h | ⟨_,h⟩)
       . exact .inl h
       . exact .inr h.symm
   . rw[if_neg hp];constructor
     . exact .inl
     . rintro (h | ⟨h,_⟩)
       . exact h
       . exact absurd h.symm hp
 . show p∈(Xc _ _ _).map (·.1)↔_
   rw[Qg4,ih.person];constructor
   . rintro (⟨x,hx,h⟩ | rfl)
     . exact⟨x,by simp[hx],h⟩
     . exact⟨e,by simp,rfl⟩
   . rintro ⟨x,hx,h⟩;rcases Zj.1 hx with hx | hx
     . exact .inl ⟨x,hx,h⟩
     . rw[Zk] at hx;subst hx;exact .inr h.symm
def Qr6 (p:Bj) (k:Qer) (t:Int):List Ad3:=(Qcc (Xt k t)).map fun i=>(p,t,i)
def Qx1 (ss:Ses) (p:Bj):List Ad3:=(Qew ((tks ss p).map (·.1))).flatMap (Qr6 p (tks ss p))
def Xca (ss:Ses):List Ad3:=(Xi (ss.map (·.1))).flatMap (Qx1 ss)
theorem Qn8 {β:Type} {L:List (Int×β)} (h:L.Pairwise (fun x y=>x.1≠y.1)):(L.map (·.1)).Nodup:=by
 rw[Zae,Z7];exact h
theorem Xcc (p:Bj) (k:Qer) (t:Int):SG ahB (Qr6 p k t):=by
 unfold SG Qr6;rw[Z7];refine List.Pairwise.imp ?_ (Qi0 (Xt k t));intro a b h;exact Qna.2 (.inr ⟨rfl,.inr ⟨rfl,h⟩⟩)
theorem Qjm {p:Bj} {k:Qer} {t:Int} {x:Ad3}:x∈Qr6 p k t↔x.1=p/\x.2.1=t/\x.2.2∈Xt k t:=by
 unfold Qr6;rw[Zh];constructor
 . rintro ⟨i,hi,rfl⟩;exact⟨rfl,rfl,X5.1 hi⟩
 . rintro ⟨h1,h2,h3⟩;exact⟨x.2.2,X5.2 h3,by rw[<- h1,<- h2]⟩
theorem Xb9 {ss:Ses} {l:List Ev} (h:Xe2 ss l) (p:Bj):SG ahB (Qx1 ss p):=by
 unfold SG Qx1;rw[List.pairwise_flatMap];refine⟨fun t _=>Xcc _ _ _,(Qwe (Qn8 (h.ticks p))).imp fun hlt x hx y hy => ?_⟩;obtain⟨x1,x2,_⟩:=Qjm.1 hx;obtain⟨y1,y2,_⟩:=Qjm.1 hy;exact Qna.2 (.inr ⟨x1.trans y1.symm,.inl Om⟩)
theorem Qjl {ss:Ses} {l:List Ev} (h:Xe2 ss l) {p:Bj} {x:Ad3}:x∈Qx1 ss p↔x.1=p/\∃ e∈l,adE e=x:=by
 unfold Qx1;rw[Zbb];constructor
 . rintro ⟨t,_,hx⟩;obtain⟨h1,h2,h3⟩:=Qjm.1 hx;obtain⟨e,he,e1,e2,e3⟩:=(h.item _ _ _).1 h3;exact⟨h1,e,he,by unfold adE;rw[e1,e2,e3,<- h1,<- h2]⟩
 . rintro ⟨h1,e,he,rfl⟩;refine⟨e.at_,Qo1.2 ((h.tick _ _).2 ⟨e,he,h1,rfl⟩),Qjm.2 ⟨h1,rfl,(h.item _ _ _).2 ⟨e,he,h1,rfl,rfl⟩⟩⟩
theorem Xcb (l:List Ev):Xca (Qic l)=Qft ahB (l.map adE):=by
 have h:=Xgh l;refine Qwa Xet ?_ (Q7t Xet _) fun x => ?_
 . unfold SG Xca;rw[List.pairwise_flatMap];refine⟨fun p _=>Xb9 h p,(Qlz (Qam h.keys)).imp fun hlt x hx y hy => ?_⟩;have h1:=((Qjl h).1 hx).1;have h2:=((Qjl h).1 hy).1;exact Qna.2 (.inl (by rw[h1,h2];exact hlt))
 . rw[Qqj];unfold Xca;rw[Zbb,Zh];constructor
   . rintro ⟨p,_,hx⟩;exact((Qjl h).1 hx).2
   . rintro ⟨e,he,rfl⟩;exact⟨e.person,Qf4.2 ((h.person _).2 ⟨e,he,rfl⟩),(Qjl h).2 ⟨rfl,e,he,rfl⟩⟩
def Qbn (gap:Int) (acc:List Sn) (a:Ad3):List Sn :=
 match acc.getLast? with
 | some g=>if g.person=a.1/\a.2.1-g.to_<=gap then acc.dropLast ++ [⟨a.1,g.from_,a.2.1,Q3j bLt g.items a.2.2⟩] else acc ++ [⟨a.1,a.2.1,a.2.1,[a.2.2]⟩]
 | none=>acc ++ [⟨a.1,a.2.1,a.2.1,[a.2.2]⟩]
theorem Qle (gap:Int) (acc:List Sn) (g:Sn) (a:Ad3):Qbn gap (acc ++ [g]) a=if g.person=a.1/\a.2.1-g.to_<=gap then acc ++ [⟨a.1,g.from_,a.2.1,Q3j bLt g.items a.2.2⟩] else(acc ++ [g]) ++ [⟨a.1,a.2.1,a.2.1,[a.2.2]⟩]:=by
 unfold Qbn;rw[Zcw,List.getLast?_singleton,Option.some_or,List.dropLast_concat]
def allL (gap:Int) (L:List Ad3):List Sn:=L.foldl (Qbn gap) []
theorem Qrk (gap:Int) (hg:0<=gap) (p:Bj) (t:Int):∀ (its:List Bj) (acc:List Sn) (f:Int) (X:List Bj),(its.map fun i=>((p,t,i):Ad3)).foldl (Qbn gap) (acc ++ [⟨p,f,t,Qcc X⟩])=acc ++ [⟨p,f,t,Qcc (X++its)⟩]
 | [],acc,f,X=>by simp
 | i :: its,acc,f,X=>by
   have ih:=Qrk gap hg p t its acc f (X ++ [i]);rw[Zm,Zap,Qle,if_pos ⟨rfl,Sj⟩,Q0x,ih];simp
theorem Xdg (i:Bj):Qcc [i] = [i]:=by simp[Qcc,Q5u,Xi]
theorem Xbq (gap:Int) (hg:0<=gap) (p:Bj) (k:Qer) (t:Int) (hne:Xt k t ≠ []) :
 (∀ (acc:List Sn),(∀ g,acc.getLast? = some g->g.person≠p\/gap<t-g.to_)->(Qr6 p k t).foldl (Qbn gap) acc=acc ++ [⟨p,t,t,Qcc (Xt k t)⟩]) /\
 (∀ (acc:List Sn) (f u:Int) (X:List Bj),t-u<=gap->(Qr6 p k t).foldl (Qbn gap) (acc ++ [⟨p,f,u,Qcc X⟩])=acc ++ [⟨p,f,t,Qcc (X++Xt k t)⟩]):=by
 have hex:Qcc (Xt k t) ≠ []:=by
  intro h
  cases hq:Xt k t with
  | nil=>exact hne hq
  | cons y l =>
    have:y∈Qcc (Xt k t):=X5.2 (by rw[hq];simp);rw[h] at this;simp at this
 unfold Qr6
 cases hs:Qcc (Xt k t) with
 | nil=>exact absurd hs hex
 | cons i its =>
   have hss:Qcc (i :: its)=Qcc (Xt k t):=by rw[<- hs,Q91]
   refine⟨fun acc hacc => ?_,fun acc f u X hu => ?_⟩
   . have h1:Qbn gap acc (p,t,i)=acc ++ [⟨p,t,t,Qcc [i]⟩]:=by
      unfold Qbn;rw[Xdg]
      cases hl:acc.getLast? with
      | none=>rfl
      | some g =>
        simp only;rw[if_neg];rintro ⟨h2,h3⟩;rcases hacc g hl with h | h
        . exact h h2
        . have h3:t-g.to_<=gap:=h3;omega
     rw[Zm,Zap,h1,Qrk gap hg];rw[show [i]++its=i :: its from rfl,hss,hs]
   . rw[Zm,Zap,Qle,if_pos ⟨rfl,hu⟩,Q0x,Qrk gap hg]
     have:Qcc (X ++ [i]++its)=Qcc (X++Xt k t):=Qq7 fun x=>by
      have hx:x∈i :: its↔x∈Xt k t:=by rw[<- hs];exact X5
      have h4:x∈X ++ [i]++its↔x∈X\/x∈i :: its:=by simp[or_assoc]
      rw[h4,hx,Zj]
     rw[this]
theorem Q2c (gap:Int) (hg:0<=gap) (p:Bj) (k:Qer) (acc:List Sn) (hacc:∀ g,acc.getLast? = some g->g.person≠p):∀ ts:List Int,(∀ t∈ts,Xt k t ≠ [])->(ts.flatMap (Qr6 p k)).foldl (Qbn gap) acc=acc++(Qgv gap k ts).map (Xbm p):=by
 refine Qv (fun _=>by simp[Qgv]) fun ts t ih h => ?_
 have ih:=ih fun x hx=>h x (by simp[hx])
 obtain⟨hA,hB⟩:=Xbq gap hg p k t (h t (by simp));rw[Zbr,Zt,ih,Qhu];simp only[Zat,List.flatMap_nil,Zw];generalize Qgv gap k ts=G;clear ih;unfold Qc8
 cases hG:G.getLast? with
 | none =>
   have:G = []:=Su hG;subst this;simp only[Zb8,Zw,Zm];rw[hA acc fun g hl => .inl (hacc g hl)];rfl
 | some g =>
   obtain⟨G',rfl⟩:∃ G',G=G' ++ [g]:=(by have:=List.getLast?_eq_some_iff.1 hG;obtain⟨ys,h⟩:=this;exact⟨ys,h⟩);simp only[List.dropLast_concat]
   by_cases hc:gap<t-g.2.1
   . rw[if_pos hc,hA _ fun g' hl => ?_]
     . simp[Xbm]
     . rw[Zp,<- Zaa,Zm,Zb8,Zcw,List.getLast?_singleton,Option.some_or] at hl;injection hl with hl;subst hl;exact .inr hc
   . rw[if_neg hc,Zp,<- Zaa,Zm,Zb8];rw[show Xbm p g=⟨p,g.1,g.2.1,Qcc g.2.2⟩ from rfl,hB _ _ _ _ Om,Zp,Zaa];rfl
theorem Q99 {gap:Int} {ss:Ses} {p:Bj} {x:Sn} (h:x∈Qf2 gap ss p):x.person=p:=by
 unfold Qf2 at h;obtain⟨g,_,rfl⟩:=Zh.1 h;rfl
theorem Qp4 (gap:Int) (hg:0<=gap) (ss:Ses) (hne:∀ p t,t∈(tks ss p).map (·.1)->Xt (tks ss p) t ≠ []):∀ (ps:List Bj) (acc:List Sn),ps.Nodup->(∀ g,acc.getLast? = some g->g.person∉ps)->(ps.flatMap (Qx1 ss)).foldl (Qbn gap) acc=acc++ps.flatMap (Qf2 gap ss)
 | [],acc,_,_=>by simp
 | p :: ps,acc,hn,hl=>by
   rw[Zbc] at hn;rw[Zat,Zt,Zat];have h1:(Qx1 ss p).foldl (Qbn gap) acc=acc++Qf2 gap ss p:=Q2c gap hg p (tks ss p) acc (fun g hg he=>hl g hg (by rw[he];simp)) _ fun t ht=>hne p t (Qo1.1 ht)
   rw[h1,Qp4 gap hg ss hne ps _ hn.2 ?_,Zaa];intro g hgl;rw[Zcw] at hgl
   cases hq:(Qf2 gap ss p).getLast? with
   | none =>
     rw[hq,Option.none_or] at hgl;exact fun hm=>hl g hgl (by simp[hm])
   | some x =>
     rw[hq,Option.some_or] at hgl;injection hgl with hgl;subst hgl;rw[Q99 (Zbn hq)];exact hn.1
theorem Xaa (gap:Int) (hg:0<=gap) (l:List Ev):allL gap (Qft ahB (l.map adE))=Qj6 gap (Qic l):=by
 have h:=Xgh l;rw[<- Xcb];unfold allL Xca Qj6;rw[Qp4 gap hg (Qic l) (fun p t ht hne => ?_) _ [] ((Qbl _).nodup_iff.2 (Qam h.keys)) (by simp),Zan];obtain⟨e,he,e1,e2⟩:=(h.tick p t).1 ht;have:=(h.item p t e.item).2 ⟨e,he,e1,e2,rfl⟩;rw[hne] at this;simp at this
theorem Q5q {age half:Int} (h:age<0):Qas age half=0:=by unfold Qas;rw[if_pos h]
theorem Qv3 (r:Bj):Qa7 (Qgr r)=r:=by
 have hl:(Qgr r).data.toList=59 :: r.data.toList:=by unfold Qgr;simp
 have hp:Qc5 (Qgr r)=some 0:=by unfold Qc5;rw[hl];rfl
 unfold Qa7;rw[hp];simp only;apply Q6f;have h2:∀ s:Bj,s.toList=s.data.toList:=fun s=>by rw[ByteArray.toList_eq]
 rw[h2,h2,Qe3,hl];have:(Qgr r).size=r.size+1:=(by have:=congrArg List.length hl;simpa using this);rw[this];simp;exact Zb (by simp)
theorem Xay (s:Bj):Xg (Qgr (Qa7 s))=Xg s:=by rw[Qeo,Qv3,Qeo s]
theorem Qk9:Xg (Qgr ⟨#[]⟩) = []:=by rw[Qeo,Qv3,if_pos rfl]
def Xe3 (l:List Bj):Prop:=(∀ t∈l,Qr t=true)/\SG bLt l/\l.length<=8
theorem Xgo {l:List Bj} (h:Qho l=true) (h8:l.length<=8):Xe3 l:=by
 unfold Qho at h;rw[Zaf] at h;have hk:∀ i (hi:i<l.length),Qr l[i]=true/\(i=0\/bLt (l.getD (i-1) .empty) l[i]=true):=fun i hi=>(by have:=h i (List.mem_range.2 hi);unfold Qws at this;rw[getD_lt hi] at this;simpa using this)
 refine⟨fun t ht => ?_,?_,h8⟩
 . obtain⟨i,hi,rfl⟩:=Za2 ht;exact(hk i hi).1
 . have hs:∀ d i (hi:i+d+1<l.length),bLt (l[i]'Om) (l[i+d+1]'hi)=true:=by
    intro d
    induction d with
    | zero =>
      intro i hi;have:=(hk (i+1) hi).2;rw[Nat.add_sub_cancel,getD_lt Om] at this;rcases this with h | h
      . omega
      . exact h
    | succ d ih =>
      intro i hi;have h1:=ih i Om;have:=(hk (i+(d+1)+1) hi).2;rw[show i+(d+1)+1-1=i+d+1 by omega,getD_lt Om] at this;rcases this with h | h
      . omega
      . exact Qbv h1 h
   unfold SG;rw[Zau];intro i j hi hj hij;have:=hs (j-i-1) i Om;have e:i+(j-i-1)+1=j:=Om;simp only[e] at this;exact this
theorem Xgj (name:Bj):∀ es:List Ev,(∀ e∈es,X0 e=true)->Xe3 (Xg (Qgr (Qpy name es).item.tags)):=by
 refine Qv (fun _ => ?_) fun es e ih h => ?_
 . show Xe3 (Xg (Qgr ⟨#[]⟩))
   rw[Qk9];exact⟨by simp,List.Pairwise.nil,by simp⟩
 . have ih:=ih fun x hx=>h x (by simp[hx])
   have he:=h e (by simp);rw[Qh1];unfold Qb8;split
   . next hk =>
     show Xe3 (Xg (Qgr (Qa7 e.text)))
     rw[Xay]
     have hl:Qc1 e.text=true:=by
      rcases Qbj (Qb9.1 he).kind with hq | hq | hq | hq | hq | hq | hq
      all_goals first | (exfalso;omega) | exact hq.2.2.2.1
     unfold Qc1 at hl;simp only[Zl] at hl;exact Xgo hl.2.1 (Su hl.2.2)
   . split
     . exact ih
     . exact ih
theorem Qn5 (name:Bj) (es:List Ev) (h:∀ e∈es,X0 e=true):Xe3 (Xg (Qgr (Qtz name es).tags)):=by
 unfold Qtz;split
 . show Xe3 (Xg (Qgr ⟨#[]⟩))
   rw[Qk9];exact⟨by simp,List.Pairwise.nil,by simp⟩
 . exact Xgj name es h
def Xaw (cs:List Ev) (e:Ev):List Bj:=if e.item=⟨#[]⟩ then [] else Xg (Qgr (Qtz e.item (cs.filter (thQ e.item e.at_))).tags)
def Q9u (z:List Ev):List Ev×List Row:=z.foldl (fun s e=>(s.1 ++ [e],s.2++if peB e=true then [(e,Xaw (Ql s.1) e)] else [])) ([],[])
def Qv6 (z:List Ev):List Row:=(Q9u z).2
theorem Xgc:∀ z:List Ev,(Q9u z).1=z:=by
 refine Qv rfl fun z e ih => ?_
 unfold Q9u at *;rw[Zt];simp only[Zap,List.foldl_nil];rw[ih]
theorem Q4q (z:List Ev) (e:Ev):Qv6 (z ++ [e])=Qv6 z++if peB e=true then [(e,Xaw (Ql z) e)] else []:=by
 have h:=Xgc z;unfold Qv6 Q9u at *;rw[Zt];simp only[Zap,List.foldl_nil];rw[h]
theorem Qzp {l:List Bj} {t x:Bj}:x∈Qb0 l t↔x∈l\/(x=t/\Qr t=true):=by
 unfold Qb0;split
 . next h =>
   rw[Zj,Zk];have hn:Qr t=true:=by simp at h;exact h.1
   simp[hn]
 . next h =>
   constructor
   . exact .inl
   . rintro (h1 | ⟨rfl,h2⟩)
     . exact h1
     . rw[h2,Bool.true_and,Zad,Bool.not_eq_false',Lib.containsS_iff] at h;exact h
theorem Xav {x:Bj} (tg:List Bj):x∈Qbo tg↔x∈tg/\Qr x=true:=by
 have:∀ (tg l:List Bj),x∈tg.foldl Qb0 l↔x∈l\/(x∈tg/\Qr x=true):=by
  intro tg
  induction tg with
  | nil=>intro l;simp
  | cons t tg ih =>
    intro l;rw[Zap,ih,Qzp,Zr];constructor
    . rintro ((h | ⟨rfl,h⟩) | ⟨h1,h2⟩)
      . exact .inl h
      . exact .inr ⟨.inl rfl,h⟩
      . exact .inr ⟨.inr h1,h2⟩
    . rintro (h | ⟨rfl | h1,h2⟩)
      . exact .inl (.inl h)
      . exact .inl (.inr ⟨rfl,h2⟩)
      . exact .inr ⟨h1,h2⟩
 unfold Qbo;rw[this];simp
theorem Qzq (tg:List Bj):(Qbo tg).Nodup:=by
 have:∀ (tg l:List Bj),l.Nodup->(tg.foldl Qb0 l).Nodup:=by
  intro tg
  induction tg with
  | nil=>intro l h;exact h
  | cons t tg ih =>
    intro l h;rw[Zap];refine ih _ ?_;unfold Qb0;split
    . next hc =>
      have hn:t∉l:=(by intro hm;have:=(Lib.containsS_iff _ _).2 hm;rw[this] at hc;simp at hc);rw[Zcy];refine⟨h,by simp,?_⟩;intro a ha b hb;rw[Zk] at hb;subst hb;exact fun e=>hn (e ▸ ha)
    . exact h
 exact this tg [] List.nodup_nil
theorem Qdp {z:List Ev} (h:∀ e∈z,X0 e=true):∀ e∈Ql z,X0 e=true:=fun e he=>h e (Ze.1 he).1
theorem Qda {z:List Ev} (h:Rise z):Rise (Ql z):=h.sublist Zaw
theorem Xax {cs:List Ev} (hr:Rise cs) (hm:∀ e∈cs,X0 e=true) (ht:∀ e∈cs,thB e=true) (e:Ev) (x:Bj):x∈Qbo (Qbd cs e)↔x∈Xaw cs e:=by
 have hsub:∀ y∈cs.filter (thQ e.item e.at_),X0 y=true:=fun y hy=>hm y (Ze.1 hy).1
 have htg:=Qn5 e.item (cs.filter (thQ e.item e.at_)) hsub;rw[Xav];unfold Qbd Xaw;rw[Qee hr];simp only
 by_cases h0:cs.filter (thQ e.item e.at_) = []
 . rw[h0];simp only[List.isEmpty_nil,Zcs,Zag,if_false,List.not_mem_nil,false_and];have:Xg (Qgr (Qtz e.item []).tags) = []:=Qk9;rw[this];simp
 . have h1:(cs.filter (thQ e.item e.at_)).isEmpty=false:=Su h0;rw[h1];simp only[Zc3,if_true]
   have h2:e.item≠⟨#[]⟩:=by
    intro hi
    cases hq:cs.filter (thQ e.item e.at_) with
    | nil=>exact h0 hq
    | cons y l =>
      have hy:y∈cs.filter (thQ e.item e.at_):=by rw[hq];simp
      have hyc:=Ze.1 hy;have hyi:y.item=e.item:=(by have:=hyc.2;unfold thQ at this;simp at this;exact this.1)
      have hyn:Qr y.item=true:=by
       have hk:=ht y hyc.1;unfold thB at hk;simp only[decide_eq_true_eq] at hk;rcases Qbj (Qb9.1 (hm y hyc.1)).kind with hq | hq | hq | hq | hq | hq | hq
       all_goals first | (exfalso;omega) | exact hq.2.2.1
      rw[hyi,hi] at hyn;exact absurd hyn (by decide)
   rw[if_neg h2];constructor
   . exact fun h=>h.1
   . exact fun h=>⟨h,htg.1 x h⟩
def Xew (half now:Int) (R:List Row) (t:Bj):Int:=((R.filter fun r=>decide (t∈r.2)).map fun r=>Qp1 half now r.1).sum
theorem Xa6 (half now:Int) (R:List Row) (r:Row) (t:Bj):Xew half now (R ++ [r]) t=Xew half now R t+if t∈r.2 then Qp1 half now r.1 else 0:=by
 unfold Xew;rw[Zq,Zp,Zbd]
 by_cases h:t∈r.2 <;> simp[h]
theorem Qox (R:List Row) (r:Row) (person:Bj):rowsOf (R ++ [r]) person=rowsOf R person++if r.1.person=person then [r] else []:=by
 unfold rowsOf;rw[Zq]
 by_cases h:r.1.person=person <;> simp[h]
theorem Q0n (width:Int) (z:List Ev) (e:Ev):(Qi width (z ++ [e])).rs=(Qi width z).rs++if peB e=true then [(e,Qbo (Qbd (Ql z) e))] else []:=by
 have hc:=(Qbz width z).1;rw[Qcz];unfold Qdw peB thB
 by_cases h1:e.kind=11\/e.kind=12\/e.kind=13
 . simp[h1]
 . rw[if_neg h1]
   by_cases h2:e.kind=14
   . simp[h2]
   . rw[if_neg h2,<- hc];simp only[h1,h2,decide_false,Zc3,Bool.and_self,if_true];split <;> rfl
theorem Xdv (width half now:Int) (person t:Bj):∀ z:List Ev,Rise z->(∀ e∈z,X0 e=true)->Q12 half now (rowsOf (Qi width z).rs person) t=Xew half now (rowsOf (Qv6 z) person) t:=by
 refine Qv (fun _ _=>by simp[Qi,Q5s,rowsOf,Q12,Xew,Qv6,Q9u]) fun z e ih hr hm => ?_
 have hr1:Rise z:=(Z4.1 hr).1;have hm1:∀ x∈z,X0 x=true:=fun x hx=>hm x (by simp[hx])
 have ih:=ih hr1 hm1;rw[Q0n,Q4q]
 cases hp:peB e with
 | false=>simpa using ih
 | true =>
   rw[if_pos rfl,if_pos rfl,Qox,Qox];simp only
   by_cases hq:e.person=person
   . rw[if_pos hq,if_pos hq,Xa6,<- ih];have hs:=Xax (Qda hr1) (Qdp hm1) (fun x hx=>(Ze.1 hx).2) e t;unfold Q12;rw[Zq,Zp,Zbd];congr 1
     by_cases h1:t∈Xaw (Ql z) e
     . rw[if_pos h1]
       by_cases h2:e.at_<=now
       . simp[h2,hs.2 h1]
       . have:Qp1 half now e=0:=(by unfold Qp1;rw[Q5q Om];simp);simp[h2,this]
     . rw[if_neg h1];have h3:¬ t∈Qbo (Qbd (Ql z) e):=fun h=>h1 (hs.1 h)
       simp[h3]
   . rw[if_neg hq,if_neg hq,Zw,Zw,ih]
theorem Qeg (width:Int):∀ z:List Ev,Rise z->(∀ e∈z,X0 e=true)->∀ r∈(Qi width z).rs,X0 r.1=true/\r.2.Nodup/\r.2.length<=8:=by
 refine Qv (fun _ _ r hr=>by simp[Qi,Q5s] at hr) fun z e ih hR hm => ?_
 have hr1:Rise z:=(Z4.1 hR).1;have hm1:∀ x∈z,X0 x=true:=fun x hx=>hm x (by simp[hx])
 have ih:=ih hr1 hm1;rw[Q0n];intro r hr;rcases Zj.1 hr with hr | hr
 . exact ih r hr
 . split at hr
   . rw[Zk] at hr;subst hr;refine⟨hm e (by simp),Qzq _,Zv (Qwt _) ?_⟩;unfold Qbd;split
     . rw[Qee (Qda hr1)];exact(Qn5 e.item _ fun y hy=>Qdp hm1 y (Ze.1 hy).1).2.2
     . simp
   . simp at hr
def Ql3 (f:Bj->Int) (tags:List Bj):Int:=(tags.map f).sum
theorem Xap (x:Bj) (n:Int):∀ tags:List Bj,tags.Nodup->(tags.map fun t=>if t=x then n else 0).sum=if x∈tags then n else 0
 | [],_=>by simp
 | a :: tags,h=>by
   rw[Zbc] at h;have ih:=Xap x n tags h.2;rw[Zm,Za9,ih]
   by_cases hx:a=x
   . subst hx;rw[if_pos rfl,if_neg h.1,if_pos (by simp)];omega
   . rw[if_neg hx]
     by_cases h2:x∈tags
     . rw[if_pos h2,if_pos (by simp[h2])];omega
     . rw[if_neg h2,if_neg (by simp[h2];exact fun e=>hx e.symm)];omega
theorem Xao {α:Type} (f g:α->Int):∀ l:List α,(l.map fun x=>f x+g x).sum=(l.map f).sum+(l.map g).sum
 | []=>rfl
 | x :: l=>by
   have:=Xao f g l;simp only[Zm,Za9];omega
theorem Q1w {tags:List Bj} (ht:tags.Nodup):∀ L:List (Bj×Int),L.Pairwise (fun x y=>x.1≠y.1)->((L.filter fun x=>decide (x.1∈tags)).map (·.2)).sum=(tags.map fun t=>(Qe L t).getD 0).sum
 | [],_=>by
   have:(tags.map fun t=>(Qe ([]:List (Bj×Int)) t).getD 0).sum=0:=Ql2 _ fun x _=>rfl
   rw[this];rfl
 | x :: L,h=>by
   rw[Z9] at h;have ih:=Q1w ht L h.2;have h0:Qe L x.1=none:=Qd6.2 fun y hy e=>h.1 y hy e.symm
   have hs:(tags.map fun t=>(Qe (x :: L) t).getD 0)=tags.map fun t=>(if t=x.1 then x.2 else 0)+(Qe L t).getD 0:=by
    apply Za7;intro t _;rw[Qcn]
    by_cases hx:t=x.1
    . rw[if_pos hx,if_pos hx,hx,h0];simp
    . rw[if_neg hx,if_neg hx];omega
   rw[hs,Xao,Xap _ _ _ ht,<- ih,Zar]
   by_cases hx:x.1∈tags
   . rw[if_pos (by simp[hx]),if_pos hx,Zm,Za9]
   . rw[if_neg (by simp[hx]),if_neg hx];omega
theorem Qt5 {L:List (Bj×Int)} (h:L.Pairwise (fun x y=>x.1≠y.1)) (hp:∀ t,0<=(Qe L t).getD 0) (t:Bj):(Qe (L.filter fun x=>decide (0<x.2)) t).getD 0=(Qe L t).getD 0:=by
 induction L with
 | nil=>rfl
 | cons x L ih =>
   rw[Z9] at h;have h0:Qe L x.1=none:=Qd6.2 fun y hy e=>h.1 y hy e.symm
   have hp':∀ t,0<=(Qe L t).getD 0:=fun t=>by
    by_cases hx:t=x.1
    . rw[hx,h0];simp
    . have:=hp t;rw[Qcn,if_neg hx] at this;exact this
   have ih:=ih h.2 hp';have hx0:0<=x.2:=(by have:=hp x.1;rw[Qcn,if_pos rfl] at this;exact this);rw[Zar]
   by_cases h1:0<x.2
   . rw[if_pos (Su h1),Qcn,Qcn];split
     . rfl
     . exact ih
   . rw[if_neg (Su h1),ih,Qcn];split
     . next hx =>
       rw[hx,h0];simp;omega
     . rfl
theorem Xa1 {half now:Int} {rows:List Row} (hr:∀ r∈rows,X0 r.1=true/\r.2.Nodup) (hl:rows.length<1000000) {tags:List Bj} (ht:tags.Nodup) {F:List (Bj×Int)} (hF:F.Perm (Xgr half now rows)) :
 ((F.filter fun x=>decide (x.1∈tags)).map (·.2)).sum=Ql3 (Q12 half now rows) tags:=by
 rw[Q1j ((hF.filter _).map _)];have hk:=Xa7 half now rows;have hk2:(Xgr half now rows).Pairwise (fun x y=>x.1≠y.1):=hk.sublist Zaw;rw[Q1w ht _ hk2];unfold Ql3;congr 1;apply Za7;intro t _;have hg:=fun t=>Xa8 half now t rows hr hl
 unfold Xgr;rw[Qt5 hk fun t=>by rw[(hg t).1];exact(hg t).2.1];exact(hg t).1
def Q4k (c:Cfg) (fresh old:Int):Int:=if fresh=0\/fresh<c.floor then 0 else min (fresh*1048576/(old+1)) 1099511627776
abbrev Ct:=Bj×Int
def Qi3 (x:Ct):List Value := [.string x.1,Vj x.2]
theorem Qml (x:Ct):(Qi3 x).length=2:=rfl
theorem Qjf (x:Ct):∀ u∈Qi3 x,u.oneCell'=true:=by simp[Qi3,Value.oneCell']
theorem Xdc:Ql9 Tryz.prog 247 251 Qi3 2 24:=⟨by kernel_rfl,⟨_,ty251_ok,rfl,rfl⟩,by251,by decide,by decide,Qml,Qjf⟩
theorem Xbf {z:List Ev} (h:∀ e∈z,X0 e=true):∀ e∈z.filter wpB,X0 e=true:=fun e he=>h e (Ze.1 he).1
theorem Qvn {e:Ev} (h:X0 e=true):0<=e.at_/\e.at_<=1099511627776:=by
 have:=(Qb9.1 h).at_;exact this
theorem Xed {c:Cfg} (h:Qw6 c=true):(1<=c.half/\c.half<=1099511627776)/\(1<=c.width/\c.width<=1099511627776)/\(1<=c.span/\c.span<=1099511627776)/\c.span.tmod c.width=0/\(0<=c.gap/\c.gap<=1099511627776)/\(0<=c.floor/\c.floor<=1048576)/\(0<=c.crowd/\c.crowd<=1048576):=by
 unfold Qw6 inB at h;simp only[Zl,decide_eq_true_eq] at h;obtain⟨⟨⟨⟨⟨⟨h1,h2⟩,h3⟩,h4⟩,h5⟩,h6⟩,h7⟩:=h;exact⟨h1,h2,h3,h4,h5,h6,h7⟩
theorem Q7j {n:Int} (h:1<=n/\n<=1099511627776):Xd n=n:=by unfold Xd;omega
theorem Qjh {t width:Int} (hw:1<=width) (h:-4398046511104<=t/\t<=4398046511104) : -4398046511104<=t/width/\t/width<=4398046511104:=by
 constructor
 . rw[Int.le_ediv_iff_mul_le Om];have : -4398046511104*width <= -4398046511104*1:=Int.mul_le_mul_of_nonpos_left Om Om;omega
 . rcases Int.lt_or_le t 0 with h1 | h1
   . have:=Int.ediv_neg_of_neg_of_pos h1 (show 0<width by omega);omega
   . have:=Zcq width h1;omega
theorem Qpc {w:World} {T:Nat->Prop} (person:Bj):∀ {D:List (Ev×SV)} {rs:List Row},Qm8 w T D rs->Qm8 w T (Xy D person) (rowsOf rs person)
 | [],rs,h=>by
   have:rs = []:=by have:=h.len;simpa using this.symm
   subst this;exact h
 | d :: D,[],h=>by have:=h.len;simp at this
 | d :: D,r :: rs,h=>by
   have h0:=h.ev 0 d r rfl rfl;have hT:Qm8 w T D rs:=⟨by have:=h.len;simpa using this,fun i d r hd hr=>h.ev (i+1) d r hd hr⟩;have ih:=Qpc person hT;unfold Xy rowsOf at *;simp only[Zar,h0.1];split
   . refine⟨by simp[ih.len],fun i d' r' hd hr => ?_⟩
     cases i with
     | zero =>
       simp at hd hr;subst hd;subst hr;exact h0
     | succ i=>exact ih.ev i d' r' (Su hd) (Su hr)
   . exact ih
theorem Qdr {w w1 w2:World} {T:Nat->Prop} (hx:Ext w w1) (hT:∀ k,T k->w.heap.size<=k) (hM:Mod T w1 w2):Ext w w2 :=
 (Qn (Mod.of_ext (S:=fun _=>False) hx) (hM.mono fun k _ hk => .inr (hT k hk))).ext fun _ _ h=>h
def Qg0 (c:Cfg) (z:List Ev):List Sn:=Qj6 (Q7d c.gap) (Qic (z.filter wpB))
def Xi8 (c:Cfg) (z:List Ev) (person item:Bj):Int:=1048576*(Qmb (Qg0 c z) item (Qej z person)).1/(Qmb (Qg0 c z) item (Qej z person)).2
def Qmd (z:List Ev) (item:Bj) (now:Int):It:=Qtz item ((Ql z).filter (thQ item now))
def Qis (c:Cfg) (now:Int):Int:=now-now.tmod (Xd c.width)
