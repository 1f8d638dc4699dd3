/- Several texts in one: Ct, Pl5, Pl6, Sm. -/
import Derived.Test.YtohkipkjleldpaaGreatDoorGF
import Derived.Test.YtohkipkjleldpaaGreatDoorGC
import Derived.Test.YtohkipkjleldpaaGreatDoorGH
set_option linter.unusedVariables false
set_option linter.unusedSimpArgs false
namespace Go.Proofs.YtohkipkjleldpaaGreatDoor
open Go.Se Go.RowKit
theorem Xbg (row:List St) (t:Int):(stN row t=0∨∃ s,row[stN row t-1]? = some s∧s.at_≤t)∧(stN row t=row.length∨∃ s,row[stN row t]? = some s∧t<s.at_)∧stN row t≤row.length:=by
 unfold stN
 induction row with
 | nil=>simp
 | cons a row ih =>
   rw[List.takeWhile_cons]
   by_cases h:a.at_≤t
   · rw[if_pos (by simpa using h)]
     obtain⟨i1,i2,i3⟩:=ih;simp only[List.length_cons];generalize (row.takeWhile fun s=>decide (s.at_≤t)).length=n at *;refine⟨.inr ?_,?_,by omega⟩
     · rcases i1 with rfl | ⟨s,hs,hle⟩
       · exact⟨a,by simp,h⟩
       · cases n with
         | zero=>exact⟨a,by simp,h⟩
         | succ n=>exact⟨s,by simpa using hs,hle⟩
     · rcases i2 with h2 | ⟨s,hs,hlt⟩
       · exact .inl (by omega)
       · exact .inr ⟨s,by simpa using hs,hlt⟩
   · rw[if_neg (by simpa using h)]
     exact⟨.inl rfl,.inr ⟨a,rfl,by omega⟩,by simp⟩
def thQ (name:ByteArray) (t:Int) (e:Ev):Bool:=decide (e.item=name)&&decide (e.at_≤t)
def Q1c (name:ByteArray) (es:List Ev):St:=es.foldl Qb9 (Qio name)
theorem Qoi (name:ByteArray) (es:List Ev) (e:Ev):Q1c name (es ++ [e])=Qb9 (Q1c name es) e:=by simp[Q1c]
theorem Qwm (s:St) (e:Ev):(Qb9 s e).item.name=s.item.name:=by unfold Qb9;split <;> (try split) <;> rfl
def Xdo (name:ByteArray) (es:List Ev):It:=if es.isEmpty then Qc6 else(Q1c name es).item
theorem Qit {row:List St} {t:Int} (h:∀ s∈row,s.at_≤t):stN row t=row.length:=by
 unfold stN
 have:row.takeWhile (fun s=>decide (s.at_≤t))=row:=by
  have:=List.takeWhile_append_of_pos (l₂ := []) (p:=fun s:St=>decide (s.at_≤t)) (l₁:=row) (fun s hs=>by simpa using h s hs)
  simpa using this
 rw[this]
theorem Q5z:∀ (cs:List Ev),Rise cs→∀ (name:ByteArray) (t:Int),
 (stN (Qw cs name) t=0↔cs.filter (thQ name t) = [])∧(stN (Qw cs name) t≠0→(Qw cs name)[stN (Qw cs name) t-1]? = some (Q1c name (cs.filter (thQ name t)))):=by
 refine Qu ?_ ?_
 · intro _ name t
   simp[Qw,stN]
 · intro cs e ih h name t
   have h1:Rise cs:=(List.pairwise_append.1 h).1;have h2:=(List.pairwise_append.1 h).2.2;obtain⟨i1,i2⟩:=ih h1 name t;obtain⟨r1,r2⟩:=Qjx cs h1 name;rw[Qba,List.filter_append];unfold Qfa Qkl
   by_cases hn:name=e.item
   · rw[if_pos hn]
     subst hn;generalize hrow:Qw cs e.item=row at *
     have hle:∀ s∈row,s.at_≤e.at_:=fun s hs=>by
      obtain⟨e',he',h3,_⟩:=r2 s hs;have:=Q34 (h2 e' he' e (by simp));omega
     by_cases ht:e.at_≤t
     · have hq:thQ e.item t e=true:=by simp[thQ,ht]
       have hall:∀ s∈row ++ [Qe7 row e],s.at_≤t:=fun s hs=>by
        rcases List.mem_append.1 hs with hs | hs
        · have:=hle s hs;omega
        · simp at hs;subst hs;unfold Qe7;rw[Qgf];exact ht
       have hN:stN row t=row.length:=Qit fun s hs=>hall s (by simp[hs])
       rw[Qit hall];refine⟨by simp[List.filter_cons,hq],fun _ => ?_⟩;simp only[List.filter_cons,hq,if_true,List.filter_nil,Qoi];rw[List.length_append,List.length_singleton,Nat.add_sub_cancel,List.getElem?_append_right (Nat.le_refl _),Nat.sub_self];unfold Qe7;rw[hN] at i1 i2
       congr 2
       by_cases h0:row.length=0
       · have h3:=i1.1 h0
         rw[h3,List.length_eq_zero_iff.1 h0]
         rfl
       · rw[List.getLast?_eq_getElem?,i2 h0];rfl
     · have hq:thQ e.item t e=false:=by simp[thQ,ht]
       have hN:stN (row ++ [Qe7 row e]) t=stN row t:=by
        unfold stN;rw[List.takeWhile_append]
        split
        · rw[List.takeWhile_cons_of_neg (by unfold Qe7;rw[Qgf];simpa using ht)]
          simp;omega
        · rfl
       rw[hN];simp only[List.filter_cons,hq,Bool.false_eq_true,if_false,List.filter_nil,List.append_nil];refine⟨i1,fun h0 => ?_⟩;have:=(Xbg row t).2.2;rw[List.getElem?_append_left (by omega)]
       exact i2 h0
   · rw[if_neg hn]
     have hq:thQ name t e=false:=by simp[thQ,Ne.symm hn]
     simp only[List.filter_cons,hq,Bool.false_eq_true,if_false,List.filter_nil,List.append_nil]
     exact⟨i1,i2⟩
theorem Q2r {cs:List Ev} (h:Rise cs) (name:ByteArray) (t:Int):X6 cs name t=(Xdo name (cs.filter (thQ name t)),!(cs.filter (thQ name t)).isEmpty):=by
 obtain⟨h1,h2⟩:=Q5z cs h name t;unfold X6 Xdo
 by_cases h0:stN (Qw cs name) t=0
 · have h3:=h1.1 h0
   rw[h3,h0]
   cases (Qw cs name)[0-1]? <;> rfl
 · have h3:cs.filter (thQ name t) ≠ []:=fun h=>h0 (h1.2 h)
   rw[h2 h0];simp only[if_neg h0];generalize cs.filter (thQ name t)=F at h3
   cases F with
   | nil=>exact absurd rfl h3
   | cons a es=>rfl
structure Sto {α:Type} (lt:α→α→Bool):Prop where
 irrefl:∀ a,lt a a=false
 trans:∀ {a b c},lt a b=true→lt b c=true→lt a c=true
 tri:∀ {a b},lt a b=false→lt b a=false→a=b
theorem Qyf:Sto bLt:=⟨Xj,Qa2,Qa9⟩
def SG {α:Type} (lt:α→α→Bool) (l:List α):Prop:=l.Pairwise fun x y=>lt x y=true
theorem SG.nodup {α:Type} {lt:α→α→Bool} (O:Sto lt) {l:List α} (h:SG lt l):l.Nodup:=h.imp fun h e=>by rw[e,O.irrefl] at h;cases h
theorem Qti {α:Type} {lt:α→α→Bool} (O:Sto lt) {a b:α} (h:lt a b=true):lt b a=false:=by
 cases hb:lt b a with
 | false=>rfl
 | true=>have:=O.trans h hb;rw[O.irrefl] at this;cases this
theorem Qs4 {α:Type} {lt:α→α→Bool} (O:Sto lt) {l m:List α} (h1:SG lt l) (h2:SG lt m) (hm:∀ x,x∈l↔x∈m):l=m :=
 List.Perm.eq_of_pairwise (le:=fun a b=>lt b a=false) (fun a b _ _ h1 h2=>O.tri h2 h1) (h1.imp fun h=>Qti O h) (h2.imp fun h=>Qti O h) (Qec (h1.nodup O) (h2.nodup O) (fun x hx=>(hm x).1 hx) fun x hx=>(hm x).2 hx)
section
variable {α:Type} [DecidableEq α] {lt:α→α→Bool}
def Qzz (lt:α→α→Bool) (l:List α) (a:α):List α :=
 if(l.dropWhile fun x=>lt x a).head? = some a then l else l.takeWhile (fun x=>lt x a)++a :: l.dropWhile (fun x=>lt x a)
theorem Qpm (a:α):Qzz lt [] a = [a]:=by simp[Qzz]
theorem Qlq (x:α) (l:List α) (a:α):Qzz lt (x :: l) a=if lt x a=true then x :: Qzz lt l a else if x=a then x :: l else a :: x :: l:=by
 unfold Qzz;rw[List.takeWhile_cons,List.dropWhile_cons]
 cases h:lt x a with
 | true =>
   simp only[if_true]
   split <;> simp
 | false =>
   simp only[Bool.false_eq_true,if_false,List.head?_cons,Option.some.injEq,List.nil_append]
theorem Qib {x a:α}:∀ {l:List α},x∈Qzz lt l a↔x∈l∨x=a
 | []=>by rw[Qpm];simp
 | y :: l=>by
   have ih:=Qib (x:=x) (a:=a) (l:=l);rw[Qlq]
   split
   · rw[List.mem_cons,ih,List.mem_cons];exact or_assoc.symm
   · split
     · next h =>
       subst h;constructor
       · exact .inl
       · rintro (h | rfl)
         · exact h
         · simp
     · rw[List.mem_cons];exact or_comm
theorem Qvb (O:Sto lt) {a:α}:∀ {l:List α},SG lt l→SG lt (Qzz lt l a)
 | [],_=>by rw[Qpm];exact List.pairwise_singleton _ _
 | y :: l,h=>by
   have h':=List.pairwise_cons.1 h;have ih:=Qvb O (a:=a) h'.2;rw[Qlq]
   split
   · next hy =>
     refine List.pairwise_cons.2 ⟨fun x hx => ?_,ih⟩;rcases Qib.1 hx with hx | rfl
     · exact h'.1 x hx
     · exact hy
   · next hy =>
     split
     · exact h
     · next hne =>
       have hay:lt a y=true:=by
        cases hq:lt a y with
        | true=>rfl
        | false=>exact absurd (O.tri (by simpa using hy) hq) hne
       refine List.pairwise_cons.2 ⟨fun x hx => ?_,h⟩;rcases List.mem_cons.1 hx with rfl | hx
       · exact hay
       · exact O.trans hay (h'.1 x hx)
def Qeu (lt:α→α→Bool) (l:List α):List α:=l.foldl (Qzz lt) []
theorem Qhf (l:List α) (a:α):Qeu lt (l ++ [a])=Qzz lt (Qeu lt l) a:=by unfold Qeu;rw[List.foldl_append];rfl
theorem Qns {x:α}:∀ l:List α,x∈Qeu lt l↔x∈l:=by
 refine Qu (by simp[Qeu]) fun l a ih => ?_
 rw[Qhf,Qib,ih,List.mem_append,List.mem_singleton]
theorem Q3o (O:Sto lt):∀ l:List α,SG lt (Qeu lt l):=by
 refine Qu List.Pairwise.nil fun l a ih => ?_
 rw[Qhf]
 exact Qvb O ih
theorem Qpl (a:α):∀ l:List α,(Qzz lt l a).length≤l.length+1
 | []=>by rw[Qpm];simp
 | y :: l=>by
   have ih:=Qpl a l;rw[Qlq]
   split
   · simp;omega
   · split <;> simp
theorem Qzy:∀ l:List α,(Qeu lt l).length≤l.length:=by
 refine Qu (by simp[Qeu]) fun l a ih => ?_
 rw[Qhf];have:=Qpl (lt:=lt) a (Qeu lt l)
 simp;omega
end
theorem Qkc {l:List ByteArray} (h:l.Nodup):SG bLt (Xb l):=by
 have h1:=Qe6 l;have h2:(Xb l).Pairwise (· ≠ ·):=List.nodup_iff_pairwise_ne.1 ((Qa6 l).nodup_iff.2 h);refine(List.Pairwise.and h1 h2).imp ?_;rintro a b ⟨h3,h4⟩
 cases hc:bLt a b with
 | true=>rfl
 | false=>exact absurd (Qa9 hc h3) h4
theorem Qs8 {l:List Int} (h:l.Nodup):(Qd4 l).Pairwise (· < ·):=by
 have h1:=Qmm l;have h2:(Qd4 l).Pairwise (· ≠ ·):=List.nodup_iff_pairwise_ne.1 ((Qdm l).nodup_iff.2 h);refine(List.Pairwise.and h1 h2).imp ?_;rintro a b ⟨h3,h4⟩;omega
theorem Qhn (l:List ByteArray):SG bLt (Qbt l):=Qkc (Qes l)
theorem Qxk (l:List ByteArray) (s:ByteArray):Qzz bLt (Qbt l) s=Qbt (l ++ [s]) :=
 Qs4 Qyf (Qvb Qyf (Qhn l)) (Qhn _) fun x=>by rw[Qib,Xp,Xp,List.mem_append,List.mem_singleton]
theorem Q5m (l:List ByteArray):Qbt (Qbt l)=Qbt l:=Qog fun x=>Xp
abbrev Ad3:=ByteArray×Int×ByteArray
def adE (e:Ev):Ad3:=(e.person,e.at_,e.item)
def ahB (a b:Ad3):Bool:=if a.1=b.1 then(if a.2.1=b.2.1 then bLt a.2.2 b.2.2 else decide (a.2.1<b.2.1)) else bLt a.1 b.1
theorem Qlc {a b:Ad3}:ahB a b=true↔bLt a.1 b.1=true∨(a.1=b.1∧(a.2.1<b.2.1∨(a.2.1=b.2.1∧bLt a.2.2 b.2.2=true))):=by
 unfold ahB
 by_cases h1:a.1=b.1
 · have hi:bLt a.1 b.1=false:=by rw[h1];exact Xj _
   rw[if_pos h1]
   by_cases h2:a.2.1=b.2.1
   · rw[if_pos h2]
     constructor
     · intro h;exact .inr ⟨h1,.inr ⟨h2,h⟩⟩
     · rintro (h | ⟨_,h | ⟨_,h⟩⟩)
       · rw[hi] at h;cases h
       · omega
       · exact h
   · rw[if_neg h2,decide_eq_true_eq]
     constructor
     · intro h;exact .inr ⟨h1,.inl h⟩
     · rintro (h | ⟨_,h | ⟨h,_⟩⟩)
       · rw[hi] at h;cases h
       · exact h
       · exact absurd h h2
 · rw[if_neg h1]
   constructor
   · exact .inl
   · rintro (h | ⟨h,_⟩)
     · exact h
     · exact absurd h h1
theorem Q9j:Sto ahB where
 irrefl a:=by unfold ahB;rw[if_pos rfl,if_pos rfl];exact Xj _
 trans:=by
  intro a b c h k;rw[Qlc] at *;rcases h with h | ⟨h,h'⟩ <;> rcases k with k | ⟨k,k'⟩
  · exact .inl (Qa2 h k)
  · exact .inl (k ▸ h)
  · exact .inl (h ▸ k)
  · refine .inr ⟨h.trans k,?_⟩
    rcases h' with h' | ⟨h',h2⟩ <;> rcases k' with k' | ⟨k',k2⟩
    · exact .inl (by omega)
    · exact .inl (by omega)
    · exact .inl (by omega)
    · exact .inr ⟨by omega,Qa2 h2 k2⟩
 tri:=by
  intro a b h k;obtain⟨a1,a2,a3⟩:=a;obtain⟨b1,b2,b3⟩:=b;rw[← Bool.not_eq_true,Qlc] at h k;simp only at h k;have e1:a1=b1:=Qa9 (by rw[← Bool.not_eq_true];exact fun x=>h (.inl x)) (by rw[← Bool.not_eq_true];exact fun x=>k (.inl x));subst e1
  have e2:a2=b2:=by
   rcases Int.lt_trichotomy a2 b2 with x | x | x
   · exact absurd (.inr ⟨rfl,.inl x⟩) h
   · exact x
   · exact absurd (.inr ⟨rfl,.inl x⟩) k
  subst e2;have e3:a3=b3:=Qa9 (by rw[← Bool.not_eq_true];exact fun x=>h (.inr ⟨rfl,.inr ⟨rfl,x⟩⟩)) (by rw[← Bool.not_eq_true];exact fun x=>k (.inr ⟨rfl,.inr ⟨rfl,x⟩⟩));rw[e3]
def tks (ss:Ses) (p:ByteArray):Qd1:=(Qe ss p).getD []
theorem Qk5 (s:Ses) (P I:ByteArray) (T:Int) (p:ByteArray):tks (Q6o s P T I) p=if p=P then Q7 (tks s P) T (Q7 ((Qe (tks s P) T).getD []) I true) else tks s p:=by
 unfold tks Q6o;rw[Xg]
 split <;> rfl
theorem Qfy {κ β:Type} [DecidableEq κ] {k x:κ} {v:β} {l:List (κ×β)}:x∈(Q7 l k v).map (·.1)↔x∈l.map (·.1)∨x=k:=by
 rw[Qcu]
 split
 · next h =>
   constructor
   · exact .inl
   · rintro (h1 | rfl)
     · exact h1
     · exact h
 · rw[List.mem_append,List.mem_singleton]
theorem Qwt (m:Qd1) (T t:Int) (x:List (ByteArray×Bool)):Xk (Q7 m T x) t=if t=T then x.map (·.1) else Xk m t:=by
 unfold Xk;rw[Xg]
 split <;> rfl
structure Q9u (ss:Ses) (l:List Ev):Prop where
 keys:ss.Pairwise (fun x y=>x.1≠y.1)
 ticks:∀ p,(tks ss p).Pairwise (fun x y=>x.1≠y.1)
 item:∀ p t i,i∈Xk (tks ss p) t↔∃ e∈l,e.person=p∧e.at_=t∧e.item=i
 tick:∀ p t,t∈(tks ss p).map (·.1)↔∃ e∈l,e.person=p∧e.at_=t
 person:∀ p,p∈ss.map (·.1)↔∃ e∈l,e.person=p
theorem Xbf:∀ l:List Ev,Q9u (Qg7 l) l:=by
 refine Qu ⟨List.Pairwise.nil,fun p=>List.Pairwise.nil,fun p t i=>by simp[Qg7,tks,Qe,Xk],fun p t=>by simp[Qg7,tks,Qe],fun p=>by simp[Qg7]⟩ fun l e ih => ?_
 rw[Qwk];refine⟨X5 ih.keys,fun p => ?_,fun p t i => ?_,fun p t => ?_,fun p => ?_⟩
 · rw[Qk5]
   split
   · exact X5 (ih.ticks _)
   · exact ih.ticks p
 · rw[Qk5]
   have hx:(∃ x∈l ++ [e],x.person=p∧x.at_=t∧x.item=i)↔(∃ x∈l,x.person=p∧x.at_=t∧x.item=i)∨(e.person=p∧e.at_=t∧e.item=i):=by
    constructor
    · rintro ⟨x,hx,h⟩
      rcases List.mem_append.1 hx with hx | hx
      · exact .inl ⟨x,hx,h⟩
      · rw[List.mem_singleton] at hx;subst hx;exact .inr h
    · rintro (⟨x,hx,h⟩ | h)
      · exact⟨x,by simp[hx],h⟩
      · exact⟨e,by simp,h⟩
   rw[hx,← ih.item]
   by_cases hp:p=e.person
   · subst hp
     rw[if_pos rfl,Qwt]
     by_cases ht:t=e.at_
     · subst ht
       rw[if_pos rfl,Qfy];show (i∈Xk (tks (Qg7 l) e.person) e.at_∨i=e.item)↔_
       constructor
       · rintro (h | h)
         · exact .inl h
         · exact .inr ⟨rfl,rfl,h.symm⟩
       · rintro (h | ⟨_,_,h⟩)
         · exact .inl h
         · exact .inr h.symm
     · rw[if_neg ht]
       constructor
       · exact .inl
       · rintro (h | ⟨_,h,_⟩)
         · exact h
         · exact absurd h.symm ht
   · rw[if_neg hp]
     constructor
     · exact .inl
     · rintro (h | ⟨h,_⟩)
       · exact h
       · exact absurd h.symm hp
 · rw[Qk5]
   have hx:(∃ x∈l ++ [e],x.person=p∧x.at_=t)↔(∃ x∈l,x.person=p∧x.at_=t)∨(e.person=p∧e.at_=t):=by
    constructor
    · rintro ⟨x,hx,h⟩
      rcases List.mem_append.1 hx with hx | hx
      · exact .inl ⟨x,hx,h⟩
      · rw[List.mem_singleton] at hx;subst hx;exact .inr h
    · rintro (⟨x,hx,h⟩ | h)
      · exact⟨x,by simp[hx],h⟩
      · exact⟨e,by simp,h⟩
   rw[hx,← ih.tick]
   by_cases hp:p=e.person
   · subst hp
     rw[if_pos rfl,Qfy];constructor
     · rintro (h | h)
       · exact .inl h
       · exact .inr ⟨rfl,h.symm⟩
     · rintro (h | ⟨_,h⟩)
       · exact .inl h
       · exact .inr h.symm
   · rw[if_neg hp]
     constructor
     · exact .inl
     · rintro (h | ⟨h,_⟩)
       · exact h
       · exact absurd h.symm hp
 · show p∈(Q7 _ _ _).map (·.1)↔_
   rw[Qfy,ih.person];constructor
   · rintro (⟨x,hx,h⟩ | rfl)
     · exact⟨x,by simp[hx],h⟩
     · exact⟨e,by simp,rfl⟩
   · rintro ⟨x,hx,h⟩
     rcases List.mem_append.1 hx with hx | hx
     · exact .inl ⟨x,hx,h⟩
     · rw[List.mem_singleton] at hx;subst hx;exact .inr h.symm
def Qpi (p:ByteArray) (k:Qd1) (t:Int):List Ad3:=(Qbt (Xk k t)).map fun i=>(p,t,i)
def Qu4 (ss:Ses) (p:ByteArray):List Ad3:=(Qd4 ((tks ss p).map (·.1))).flatMap (Qpi p (tks ss p))
def Q7m (ss:Ses):List Ad3:=(Xb (ss.map (·.1))).flatMap (Qu4 ss)
theorem Qlu {β:Type} {L:List (Int×β)} (h:L.Pairwise (fun x y=>x.1≠y.1)):(L.map (·.1)).Nodup:=by
 rw[List.nodup_iff_pairwise_ne,List.pairwise_map];exact h
theorem Q7o (p:ByteArray) (k:Qd1) (t:Int):SG ahB (Qpi p k t):=by
 unfold SG Qpi;rw[List.pairwise_map];refine List.Pairwise.imp ?_ (Qhn (Xk k t));intro a b h
 exact Qlc.2 (.inr ⟨rfl,.inr ⟨rfl,h⟩⟩)
theorem Qh9 {p:ByteArray} {k:Qd1} {t:Int} {x:Ad3}:x∈Qpi p k t↔x.1=p∧x.2.1=t∧x.2.2∈Xk k t:=by
 unfold Qpi;rw[List.mem_map];constructor
 · rintro ⟨i,hi,rfl⟩;exact⟨rfl,rfl,Xp.1 hi⟩
 · rintro ⟨h1,h2,h3⟩;exact⟨x.2.2,Xp.2 h3,by rw[← h1,← h2]⟩
theorem Q7l {ss:Ses} {l:List Ev} (h:Q9u ss l) (p:ByteArray):SG ahB (Qu4 ss p):=by
 unfold SG Qu4;rw[List.pairwise_flatMap];refine⟨fun t _=>Q7o _ _ _,(Qs8 (Qlu (h.ticks p))).imp fun hlt x hx y hy => ?_⟩;obtain⟨x1,x2,_⟩:=Qh9.1 hx;obtain⟨y1,y2,_⟩:=Qh9.1 hy
 exact Qlc.2 (.inr ⟨x1.trans y1.symm,.inl (by omega)⟩)
theorem Qh8 {ss:Ses} {l:List Ev} (h:Q9u ss l) {p:ByteArray} {x:Ad3}:x∈Qu4 ss p↔x.1=p∧∃ e∈l,adE e=x:=by
 unfold Qu4;rw[List.mem_flatMap];constructor
 · rintro ⟨t,_,hx⟩
   obtain⟨h1,h2,h3⟩:=Qh9.1 hx;obtain⟨e,he,e1,e2,e3⟩:=(h.item _ _ _).1 h3
   exact⟨h1,e,he,by unfold adE;rw[e1,e2,e3,← h1,← h2]⟩
 · rintro ⟨h1,e,he,rfl⟩
   refine⟨e.at_,Qmk.2 ((h.tick _ _).2 ⟨e,he,h1,rfl⟩),Qh9.2 ⟨h1,rfl,(h.item _ _ _).2 ⟨e,he,h1,rfl,rfl⟩⟩⟩
theorem Q7n (l:List Ev):Q7m (Qg7 l)=Qeu ahB (l.map adE):=by
 have h:=Xbf l;refine Qs4 Q9j ?_ (Q3o Q9j _) fun x => ?_
 · unfold SG Q7m
   rw[List.pairwise_flatMap];refine⟨fun p _=>Q7l h p,(Qkc (Xx h.keys)).imp fun hlt x hx y hy => ?_⟩;have h1:=((Qh8 h).1 hx).1;have h2:=((Qh8 h).1 hy).1
   exact Qlc.2 (.inl (by rw[h1,h2];exact hlt))
 · rw[Qns]
   unfold Q7m;rw[List.mem_flatMap,List.mem_map];constructor
   · rintro ⟨p,_,hx⟩
     exact((Qh8 h).1 hx).2
   · rintro ⟨e,he,rfl⟩
     exact⟨e.person,Qgc.2 ((h.person _).2 ⟨e,he,rfl⟩),(Qh8 h).2 ⟨rfl,e,he,rfl⟩⟩
def Qa8 (gap:Int) (acc:List Sn) (a:Ad3):List Sn :=
 match acc.getLast? with
 | some g=>if g.person=a.1∧a.2.1-g.to_≤gap then acc.dropLast ++ [⟨a.1,g.from_,a.2.1,Qzz bLt g.items a.2.2⟩] else acc ++ [⟨a.1,a.2.1,a.2.1,[a.2.2]⟩]
 | none=>acc ++ [⟨a.1,a.2.1,a.2.1,[a.2.2]⟩]
theorem Qjw (gap:Int) (acc:List Sn) (g:Sn) (a:Ad3):Qa8 gap (acc ++ [g]) a=if g.person=a.1∧a.2.1-g.to_≤gap then acc ++ [⟨a.1,g.from_,a.2.1,Qzz bLt g.items a.2.2⟩] else(acc ++ [g]) ++ [⟨a.1,a.2.1,a.2.1,[a.2.2]⟩]:=by
 unfold Qa8;rw[List.getLast?_append,List.getLast?_singleton,Option.some_or,List.dropLast_concat]
def allL (gap:Int) (L:List Ad3):List Sn:=L.foldl (Qa8 gap) []
theorem Qov (gap:Int) (hg:0≤gap) (p:ByteArray) (t:Int):∀ (its:List ByteArray) (acc:List Sn) (f:Int) (X:List ByteArray),(its.map fun i=>((p,t,i):Ad3)).foldl (Qa8 gap) (acc ++ [⟨p,f,t,Qbt X⟩])=acc ++ [⟨p,f,t,Qbt (X++its)⟩]
 | [],acc,f,X=>by simp
 | i :: its,acc,f,X=>by
   have ih:=Qov gap hg p t its acc f (X ++ [i]);rw[List.map_cons,List.foldl_cons,Qjw,if_pos ⟨rfl,by simp only;omega⟩,Qxk,ih]
   simp
theorem Q8h (i:ByteArray):Qbt [i] = [i]:=by simp[Qbt,Q1x,Xb]
theorem Q6x (gap:Int) (hg:0≤gap) (p:ByteArray) (k:Qd1) (t:Int) (hne:Xk k t ≠ []) :
 (∀ (acc:List Sn),(∀ g,acc.getLast? = some g→g.person≠p∨gap<t-g.to_)→(Qpi p k t).foldl (Qa8 gap) acc=acc ++ [⟨p,t,t,Qbt (Xk k t)⟩]) ∧
 (∀ (acc:List Sn) (f u:Int) (X:List ByteArray),t-u≤gap→(Qpi p k t).foldl (Qa8 gap) (acc ++ [⟨p,f,u,Qbt X⟩])=acc ++ [⟨p,f,t,Qbt (X++Xk k t)⟩]):=by
 have hex:Qbt (Xk k t) ≠ []:=by
  intro h
  cases hq:Xk k t with
  | nil=>exact hne hq
  | cons y l =>
    have:y∈Qbt (Xk k t):=Xp.2 (by rw[hq];simp);rw[h] at this
    simp at this
 unfold Qpi
 cases hs:Qbt (Xk k t) with
 | nil=>exact absurd hs hex
 | cons i its =>
   have hss:Qbt (i :: its)=Qbt (Xk k t):=by rw[← hs,Q5m]
   refine⟨fun acc hacc => ?_,fun acc f u X hu => ?_⟩
   · have h1:Qa8 gap acc (p,t,i)=acc ++ [⟨p,t,t,Qbt [i]⟩]:=by
      unfold Qa8;rw[Q8h]
      cases hl:acc.getLast? with
      | none=>rfl
      | some g =>
        simp only;rw[if_neg];rintro ⟨h2,h3⟩;rcases hacc g hl with h | h
        · exact h h2
        · have h3:t-g.to_≤gap:=h3
          omega
     rw[List.map_cons,List.foldl_cons,h1,Qov gap hg];rw[show [i]++its=i :: its from rfl,hss,hs]
   · rw[List.map_cons,List.foldl_cons,Qjw,if_pos ⟨rfl,hu⟩,Qxk,Qov gap hg]
     have:Qbt (X ++ [i]++its)=Qbt (X++Xk k t):=Qog fun x=>by
      have hx:x∈i :: its↔x∈Xk k t:=by rw[← hs];exact Xp
      have h4:x∈X ++ [i]++its↔x∈X∨x∈i :: its:=by simp[or_assoc]
      rw[h4,hx,List.mem_append]
     rw[this]
theorem Qy0 (gap:Int) (hg:0≤gap) (p:ByteArray) (k:Qd1) (acc:List Sn) (hacc:∀ g,acc.getLast? = some g→g.person≠p):∀ ts:List Int,(∀ t∈ts,Xk k t ≠ [])→(ts.flatMap (Qpi p k)).foldl (Qa8 gap) acc=acc++(Qfr gap k ts).map (Q6s p):=by
 refine Qu (fun _=>by simp[Qfr]) fun ts t ih h => ?_
 have ih:=ih fun x hx=>h x (by simp[hx])
 obtain⟨hA,hB⟩:=Q6x gap hg p k t (h t (by simp));rw[List.flatMap_append,List.foldl_append,ih,Qgq];simp only[List.flatMap_cons,List.flatMap_nil,List.append_nil];generalize Qfr gap k ts=G;clear ih;unfold Qck
 cases hG:G.getLast? with
 | none =>
   have:G = []:=by simpa using hG
   subst this;simp only[List.map_nil,List.append_nil,List.map_cons];rw[hA acc fun g hl => .inl (hacc g hl)]
   rfl
 | some g =>
   obtain⟨G',rfl⟩:∃ G',G=G' ++ [g]:=by
    have:=List.getLast?_eq_some_iff.1 hG;obtain⟨ys,h⟩:=this
    exact⟨ys,h⟩
   simp only[List.dropLast_concat]
   by_cases hc:gap<t-g.2.1
   · rw[if_pos hc,hA _ fun g' hl => ?_]
     · simp[Q6s]
     · rw[List.map_append,← List.append_assoc,List.map_cons,List.map_nil,List.getLast?_append,List.getLast?_singleton,Option.some_or] at hl
       injection hl with hl;subst hl
       exact .inr hc
   · rw[if_neg hc,List.map_append,← List.append_assoc,List.map_cons,List.map_nil]
     rw[show Q6s p g=⟨p,g.1,g.2.1,Qbt g.2.2⟩ from rfl,hB _ _ _ _ (by omega),List.map_append,List.append_assoc]
     rfl
theorem Q5s {gap:Int} {ss:Ses} {p:ByteArray} {x:Sn} (h:x∈Qe2 gap ss p):x.person=p:=by
 unfold Qe2 at h;obtain⟨g,_,rfl⟩:=List.mem_map.1 h
 rfl
theorem Qnf (gap:Int) (hg:0≤gap) (ss:Ses) (hne:∀ p t,t∈(tks ss p).map (·.1)→Xk (tks ss p) t ≠ []):∀ (ps:List ByteArray) (acc:List Sn),ps.Nodup→(∀ g,acc.getLast? = some g→g.person∉ps)→(ps.flatMap (Qu4 ss)).foldl (Qa8 gap) acc=acc++ps.flatMap (Qe2 gap ss)
 | [],acc,_,_=>by simp
 | p :: ps,acc,hn,hl=>by
   rw[List.nodup_cons] at hn;rw[List.flatMap_cons,List.foldl_append,List.flatMap_cons];have h1:(Qu4 ss p).foldl (Qa8 gap) acc=acc++Qe2 gap ss p:=Qy0 gap hg p (tks ss p) acc (fun g hg he=>hl g hg (by rw[he];simp)) _ fun t ht=>hne p t (Qmk.1 ht)
   rw[h1,Qnf gap hg ss hne ps _ hn.2 ?_,List.append_assoc];intro g hgl;rw[List.getLast?_append] at hgl
   cases hq:(Qe2 gap ss p).getLast? with
   | none =>
     rw[hq,Option.none_or] at hgl
     exact fun hm=>hl g hgl (by simp[hm])
   | some x =>
     rw[hq,Option.some_or] at hgl;injection hgl with hgl;subst hgl;rw[Q5s (List.mem_of_getLast? hq)]
     exact hn.1
theorem Q5t (gap:Int) (hg:0≤gap) (l:List Ev):allL gap (Qeu ahB (l.map adE))=Qim gap (Qg7 l):=by
 have h:=Xbf l;rw[← Q7n];unfold allL Q7m Qim;rw[Qnf gap hg (Qg7 l) (fun p t ht hne => ?_) _ [] ((Qa6 _).nodup_iff.2 (Xx h.keys)) (by simp),List.nil_append];obtain⟨e,he,e1,e2⟩:=(h.tick p t).1 ht;have:=(h.item p t e.item).2 ⟨e,he,e1,e2,rfl⟩;rw[hne] at this
 simp at this
theorem Qsy (r:ByteArray):Qau (Qqm r)=r:=by
 have hl:(Qqm r).data.toList=59 :: r.data.toList:=by unfold Qqm;simp
 have hp:Qci (Qqm r)=some 0:=by unfold Qci;rw[hl];rfl
 unfold Qau;rw[hp];simp only
 apply Q2f
 have h2:∀ s:ByteArray,s.toList=s.data.toList:=fun s=>by rw[ByteArray.toList_eq]
 rw[h2,h2,Qea,hl]
 have:(Qqm r).size=r.size+1:=by
  have:=congrArg List.length hl
  simpa using this
 rw[this]
 simp
 exact List.take_of_length_le (by simp)
theorem Q6a (s:ByteArray):Xf (Qqm (Qau s))=Xf s:=by rw[Qdy,Qsy,Qdy s]
theorem Qol:Xf (Qqm ⟨#[]⟩) = []:=by rw[Qdy,Qsy,if_pos rfl]
def Xb3 (l:List ByteArray):Prop:=(∀ t∈l,Qn t=true)∧SG bLt l∧l.length≤8
theorem Xbl {l:List ByteArray} (h:Qgh l=true) (h8:l.length≤8):Xb3 l:=by
 unfold Qgh at h;rw[List.all_eq_true] at h
 have hk:∀ i (hi:i<l.length),Qn l[i]=true∧(i=0∨bLt (l.getD (i-1) .empty) l[i]=true):=fun i hi=>by
  have:=h i (List.mem_range.2 hi);unfold Qtn at this;rw[getD_lt hi] at this
  simpa using this
 refine⟨fun t ht => ?_,?_,h8⟩
 · obtain⟨i,hi,rfl⟩:=List.getElem_of_mem ht
   exact(hk i hi).1
 · have hs:∀ d i (hi:i+d+1<l.length),bLt (l[i]'(by omega)) (l[i+d+1]'hi)=true:=by
    intro d
    induction d with
    | zero =>
      intro i hi;have:=(hk (i+1) hi).2;rw[Nat.add_sub_cancel,getD_lt (by omega)] at this;rcases this with h | h
      · omega
      · exact h
    | succ d ih =>
      intro i hi;have h1:=ih i (by omega);have:=(hk (i+(d+1)+1) hi).2;rw[show i+(d+1)+1-1=i+d+1 by omega,getD_lt (by omega)] at this;rcases this with h | h
      · omega
      · exact Qa2 h1 h
   unfold SG;rw[List.pairwise_iff_getElem];intro i j hi hj hij;have:=hs (j-i-1) i (by omega);have e:i+(j-i-1)+1=j:=by omega
   simp only[e] at this
   exact this
theorem Xbh (name:ByteArray):∀ es:List Ev,(∀ e∈es,Xn e=true)→Xb3 (Xf (Qqm (Q1c name es).item.tags)):=by
 refine Qu (fun _ => ?_) fun es e ih h => ?_
 · show Xb3 (Xf (Qqm ⟨#[]⟩))
   rw[Qol]
   exact⟨by simp,List.Pairwise.nil,by simp⟩
 · have ih:=ih fun x hx=>h x (by simp[hx])
   have he:=h e (by simp);rw[Qoi];unfold Qb9
   split
   · next hk =>
     show Xb3 (Xf (Qqm (Qau e.text)))
     rw[Q6a]
     have hl:Qcc e.text=true:=by
      rcases Qa4 (Qbq.1 he).kind with hq | hq | hq | hq | hq | hq | hq
      all_goals first | (exfalso;omega) | exact hq.2.2.2.1
     unfold Qcc at hl;simp only[Bool.and_eq_true] at hl
     exact Xbl hl.2.1 (by simpa using hl.2.2)
   · split
     · exact ih
     · exact ih
theorem Xav (name:ByteArray) (es:List Ev) (h:∀ e∈es,Xn e=true):Xb3 (Xf (Qqm (Xdo name es).tags)):=by
 unfold Xdo
 split
 · show Xb3 (Xf (Qqm ⟨#[]⟩))
   rw[Qol]
   exact⟨by simp,List.Pairwise.nil,by simp⟩
 · exact Xbh name es h
theorem Qwq (tg:List ByteArray):(Qbr tg).Nodup:=by
 have:∀ (tg l:List ByteArray),l.Nodup→(tg.foldl Qcg l).Nodup:=by
  intro tg
  induction tg with
  | nil=>intro l h;exact h
  | cons t tg ih =>
    intro l h;rw[List.foldl_cons];refine ih _ ?_;unfold Qcg
    split
    · next hc =>
      have hn:t∉l:=by
       intro hm;have:=(Lib.containsS_iff _ _).2 hm;rw[this] at hc
       simp at hc
      rw[List.nodup_append];refine⟨h,by simp,?_⟩;intro a ha b hb;rw[List.mem_singleton] at hb;subst hb
      exact fun e=>hn (e ▸ ha)
    · exact h
 exact this tg [] List.nodup_nil
theorem Q6d {z:List Ev} (h:∀ e∈z,Xn e=true):∀ e∈Xa z,Xn e=true:=fun e he=>h e (List.mem_filter.1 he).1
theorem Q1m {z:List Ev} (h:Rise z):Rise (Xa z):=h.sublist List.filter_sublist
theorem Q7d (width:Int) (z:List Ev) (e:Ev):(Ql width (z ++ [e])).rs=(Ql width z).rs++if peB e=true then [(e,Qbr (Qbe (Xa z) e))] else []:=by
 have hc:=(Qdt width z).1;rw[Qbh];unfold Qcx peB thB
 by_cases h1:e.kind=11∨e.kind=12∨e.kind=13
 · simp[h1]
 · rw[if_neg h1]
   by_cases h2:e.kind=14
   · simp[h2]
   · rw[if_neg h2,← hc]
     simp only[h1,h2,decide_false,Bool.not_false,Bool.and_self,if_true]
     split <;> rfl
theorem Quq (width:Int):∀ z:List Ev,Rise z→(∀ e∈z,Xn e=true)→∀ r∈(Ql width z).rs,Xn r.1=true∧r.2.Nodup∧r.2.length≤8:=by
 refine Qu (fun _ _ r hr=>by simp[Ql,Q10] at hr) fun z e ih hR hm => ?_
 have hr1:Rise z:=(List.pairwise_append.1 hR).1;have hm1:∀ x∈z,Xn x=true:=fun x hx=>hm x (by simp[hx])
 have ih:=ih hr1 hm1;rw[Q7d];intro r hr;rcases List.mem_append.1 hr with hr | hr
 · exact ih r hr
 · split at hr
   · rw[List.mem_singleton] at hr
     subst hr;refine⟨hm e (by simp),Qwq _,Nat.le_trans (Qto _) ?_⟩;unfold Qbe
     split
     · rw[Q2r (Q1m hr1)]
       exact(Xav e.item _ fun y hy=>Q6d hm1 y (List.mem_filter.1 hy).1).2.2
     · simp
   · simp at hr
abbrev Ct:=ByteArray×Int
def Qm2 (x:Ct):List Value := [.string x.1,.int .i64 x.2]
theorem Qo4 (x:Ct):(Qm2 x).length=2:=rfl
theorem Qo5 (x:Ct):∀ u∈Qm2 x,u.oneCell'=true:=by simp[Qm2,Value.oneCell']
theorem Xc1:Qne Tryz.prog 356 360 Qm2 2 24:=⟨by kernel_rfl,⟨_,ty360_ok,rfl,rfl⟩,by360,by decide,by decide,Qo4,Qo5⟩
theorem Q9q {z:List Ev} (h:∀ e∈z,Xn e=true):∀ e∈z.filter wpB,Xn e=true:=fun e he=>h e (List.mem_filter.1 he).1
theorem Qsl {e:Ev} (h:Xn e=true):0≤e.at_∧e.at_≤1099511627776:=by
 have:=(Qbq.1 h).at_
 exact this
theorem Xcg {c:Cfg} (h:Qt3 c=true):(1≤c.half∧c.half≤1099511627776)∧(1≤c.width∧c.width≤1099511627776)∧(1≤c.span∧c.span≤1099511627776)∧c.span.tmod c.width=0∧(0≤c.gap∧c.gap≤1099511627776)∧(0≤c.floor∧c.floor≤1048576)∧(0≤c.crowd∧c.crowd≤1048576):=by
 unfold Qt3 inB at h;simp only[Bool.and_eq_true,decide_eq_true_eq] at h;obtain⟨⟨⟨⟨⟨⟨h1,h2⟩,h3⟩,h4⟩,h5⟩,h6⟩,h7⟩:=h
 exact⟨h1,h2,h3,h4,h5,h6,h7⟩
theorem Xas {n:Int} (h:1≤n∧n≤1099511627776):Xr n=n:=by unfold Xr;omega
theorem Qh4 {t width:Int} (hw:1≤width) (h:-4398046511104≤t∧t≤4398046511104) : -4398046511104≤t/width∧t/width≤4398046511104:=by
 constructor
 · rw[Int.le_ediv_iff_mul_le (by omega)]
   have : -4398046511104*width ≤ -4398046511104*1:=Int.mul_le_mul_of_nonpos_left (by omega) (by omega);omega
 · rcases Int.lt_or_le t 0 with h1 | h1
   · have:=Int.ediv_neg_of_neg_of_pos h1 (show 0<width by omega)
     omega
   · have:=Int.ediv_le_self width h1
     omega
theorem Qg3.ext {w w1:World} {T:Nat→Prop} {D:List (Ev×SV)} {rs:List Row} (h:Qg3 w T D rs) (hT:∀ k,T k→k<w.heap.size) (hx:Ext w w1):Qg3 w1 T D rs :=
 ⟨h.len,fun i d r hd hr=>by
  obtain⟨h1,h2,h3,h4⟩:=h.ev i d r hd hr
  exact⟨h1,h2,h3.ext hx,h4⟩⟩
theorem Qpg {w w1 w2:World} {T:Nat→Prop} (hx:Ext w w1) (hT:∀ k,T k→w.heap.size≤k) (hM:Mod T w1 w2):Ext w w2 :=
 (Qp (Mod.of_ext (S:=fun _=>False) hx) (hM.mono fun k _ hk => .inr (hT k hk))).ext fun _ _ h=>h
def Qk1 (c:Cfg) (z:List Ev):List Sn:=Qim (Q3c c.gap) (Qg7 (z.filter wpB))
def Q0p (c:Cfg) (now:Int):Int:=now-now.tmod (Xr c.width)
end Go.Proofs.YtohkipkjleldpaaGreatDoor
