/- Several texts in one: Ct, Pl5, Pl6, Sm. -/
import Derived.Test.YtagijlhciclafaaGreatDoorGF
import Derived.Test.YtagijlhciclafaaGreatDoorGC
import Derived.Test.YtagijlhciclafaaGreatDoorGH
set_option linter.unusedVariables false
set_option linter.unusedSimpArgs false
namespace Go.Proofs.YtagijlhciclafaaGreatDoor
open Go.Se Go.RowKit
theorem Q8w (row:List St) (t:Int):(stN row t=0∨∃ s,row[stN row t-1]? = some s∧s.at_≤t)∧(stN row t=row.length∨∃ s,row[stN row t]? = some s∧t<s.at_)∧stN row t≤row.length:=by
 unfold stN
 induction row with
 | nil=>simp
 | cons a row ih =>
   rw[List.takeWhile_cons]
   by_cases h:a.at_≤t
   · rw[if_pos (by simpa using h)]
     obtain⟨i1,i2,i3⟩:=ih;simp only[List.length_cons];generalize (row.takeWhile fun s=>decide (s.at_≤t)).length=n at *;refine⟨.inr ?_,?_,by omega⟩
     · rcases i1 with rfl | ⟨s,hs,hle⟩
       · exact⟨a,by simp,h⟩
       · cases n with
         | zero=>exact⟨a,by simp,h⟩
         | succ n=>exact⟨s,by simpa using hs,hle⟩
     · rcases i2 with h2 | ⟨s,hs,hlt⟩
       · exact .inl (by omega)
       · exact .inr ⟨s,by simpa using hs,hlt⟩
   · rw[if_neg (by simpa using h)]
     exact⟨.inl rfl,.inr ⟨a,rfl,by omega⟩,by simp⟩
def thQ (name:ByteArray) (t:Int) (e:Ev):Bool:=decide (e.item=name)&&decide (e.at_≤t)
def Q0c (name:ByteArray) (es:List Ev):St:=es.foldl Qce (Qi5 name)
theorem Qox (name:ByteArray) (es:List Ev) (e:Ev):Q0c name (es ++ [e])=Qce (Q0c name es) e:=by simp[Q0c]
theorem Qv7 (s:St) (e:Ev):(Qce s e).item.name=s.item.name:=by unfold Qce;split <;> (try split) <;> rfl
def Xat (name:ByteArray) (es:List Ev):It:=if es.isEmpty then Qdg else(Q0c name es).item
theorem Qja {row:List St} {t:Int} (h:∀ s∈row,s.at_≤t):stN row t=row.length:=by
 unfold stN
 have:row.takeWhile (fun s=>decide (s.at_≤t))=row:=by
  have:=List.takeWhile_append_of_pos (l₂ := []) (p:=fun s:St=>decide (s.at_≤t)) (l₁:=row) (fun s hs=>by simpa using h s hs)
  simpa using this
 rw[this]
theorem Q34:∀ (cs:List Ev),Rise cs→∀ (name:ByteArray) (t:Int),
 (stN (Q5 cs name) t=0↔cs.filter (thQ name t) = [])∧(stN (Q5 cs name) t≠0→(Q5 cs name)[stN (Q5 cs name) t-1]? = some (Q0c name (cs.filter (thQ name t)))):=by
 refine Qy ?_ ?_
 · intro _ name t
   simp[Q5,stN]
 · intro cs e ih h name t
   have h1:Rise cs:=(List.pairwise_append.1 h).1;have h2:=(List.pairwise_append.1 h).2.2;obtain⟨i1,i2⟩:=ih h1 name t;obtain⟨r1,r2⟩:=Qkg cs h1 name;rw[Qbo,List.filter_append];unfold Qfk Qk8
   by_cases hn:name=e.item
   · rw[if_pos hn]
     subst hn;generalize hrow:Q5 cs e.item=row at *
     have hle:∀ s∈row,s.at_≤e.at_:=fun s hs=>by
      obtain⟨e',he',h3,_⟩:=r2 s hs;have:=Q2g (h2 e' he' e (by simp));omega
     by_cases ht:e.at_≤t
     · have hq:thQ e.item t e=true:=by simp[thQ,ht]
       have hall:∀ s∈row ++ [Qfh row e],s.at_≤t:=fun s hs=>by
        rcases List.mem_append.1 hs with hs | hs
        · have:=hle s hs;omega
        · simp at hs;subst hs;unfold Qfh;rw[Qgq];exact ht
       have hN:stN row t=row.length:=Qja fun s hs=>hall s (by simp[hs])
       rw[Qja hall];refine⟨by simp[List.filter_cons,hq],fun _ => ?_⟩;simp only[List.filter_cons,hq,if_true,List.filter_nil,Qox];rw[List.length_append,List.length_singleton,Nat.add_sub_cancel,List.getElem?_append_right (Nat.le_refl _),Nat.sub_self];unfold Qfh;rw[hN] at i1 i2
       congr 2
       by_cases h0:row.length=0
       · have h3:=i1.1 h0
         rw[h3,List.length_eq_zero_iff.1 h0]
         rfl
       · rw[List.getLast?_eq_getElem?,i2 h0];rfl
     · have hq:thQ e.item t e=false:=by simp[thQ,ht]
       have hN:stN (row ++ [Qfh row e]) t=stN row t:=by
        unfold stN;rw[List.takeWhile_append]
        split
        · rw[List.takeWhile_cons_of_neg (by unfold Qfh;rw[Qgq];simpa using ht)]
          simp;omega
        · rfl
       rw[hN];simp only[List.filter_cons,hq,Bool.false_eq_true,if_false,List.filter_nil,List.append_nil];refine⟨i1,fun h0 => ?_⟩;have:=(Q8w row t).2.2;rw[List.getElem?_append_left (by omega)]
       exact i2 h0
   · rw[if_neg hn]
     have hq:thQ name t e=false:=by simp[thQ,Ne.symm hn]
     simp only[List.filter_cons,hq,Bool.false_eq_true,if_false,List.filter_nil,List.append_nil]
     exact⟨i1,i2⟩
theorem Q1e {cs:List Ev} (h:Rise cs) (name:ByteArray) (t:Int):Xa cs name t=(Xat name (cs.filter (thQ name t)),!(cs.filter (thQ name t)).isEmpty):=by
 obtain⟨h1,h2⟩:=Q34 cs h name t;unfold Xa Xat
 by_cases h0:stN (Q5 cs name) t=0
 · have h3:=h1.1 h0
   rw[h3,h0]
   cases (Q5 cs name)[0-1]? <;> rfl
 · have h3:cs.filter (thQ name t) ≠ []:=fun h=>h0 (h1.2 h)
   rw[h2 h0];simp only[if_neg h0];generalize cs.filter (thQ name t)=F at h3
   cases F with
   | nil=>exact absurd rfl h3
   | cons a es=>rfl
structure Sto {α:Type} (lt:α→α→Bool):Prop where
 irrefl:∀ a,lt a a=false
 trans:∀ {a b c},lt a b=true→lt b c=true→lt a c=true
 tri:∀ {a b},lt a b=false→lt b a=false→a=b
theorem Qxz:Sto bLt:=⟨Xn,Qbd,Qbh⟩
def SG {α:Type} (lt:α→α→Bool) (l:List α):Prop:=l.Pairwise fun x y=>lt x y=true
theorem SG.nodup {α:Type} {lt:α→α→Bool} (O:Sto lt) {l:List α} (h:SG lt l):l.Nodup:=h.imp fun h e=>by rw[e,O.irrefl] at h;cases h
theorem Qtn {α:Type} {lt:α→α→Bool} (O:Sto lt) {a b:α} (h:lt a b=true):lt b a=false:=by
 cases hb:lt b a with
 | false=>rfl
 | true=>have:=O.trans h hb;rw[O.irrefl] at this;cases this
theorem Qta {α:Type} {lt:α→α→Bool} (O:Sto lt) {l m:List α} (h1:SG lt l) (h2:SG lt m) (hm:∀ x,x∈l↔x∈m):l=m :=
 List.Perm.eq_of_pairwise (le:=fun a b=>lt b a=false) (fun a b _ _ h1 h2=>O.tri h2 h1) (h1.imp fun h=>Qtn O h) (h2.imp fun h=>Qtn O h) (Qgh (h1.nodup O) (h2.nodup O) (fun x hx=>(hm x).1 hx) fun x hx=>(hm x).2 hx)
section
variable {α:Type} [DecidableEq α] {lt:α→α→Bool}
def Qy3 (lt:α→α→Bool) (l:List α) (a:α):List α :=
 if(l.dropWhile fun x=>lt x a).head? = some a then l else l.takeWhile (fun x=>lt x a)++a :: l.dropWhile (fun x=>lt x a)
theorem Qpz (a:α):Qy3 lt [] a = [a]:=by simp[Qy3]
theorem Ql9 (x:α) (l:List α) (a:α):Qy3 lt (x :: l) a=if lt x a=true then x :: Qy3 lt l a else if x=a then x :: l else a :: x :: l:=by
 unfold Qy3;rw[List.takeWhile_cons,List.dropWhile_cons]
 cases h:lt x a with
 | true =>
   simp only[if_true]
   split <;> simp
 | false =>
   simp only[Bool.false_eq_true,if_false,List.head?_cons,Option.some.injEq,List.nil_append]
theorem Qin {x a:α}:∀ {l:List α},x∈Qy3 lt l a↔x∈l∨x=a
 | []=>by rw[Qpz];simp
 | y :: l=>by
   have ih:=Qin (x:=x) (a:=a) (l:=l);rw[Ql9]
   split
   · rw[List.mem_cons,ih,List.mem_cons];exact or_assoc.symm
   · split
     · next h =>
       subst h;constructor
       · exact .inl
       · rintro (h | rfl)
         · exact h
         · simp
     · rw[List.mem_cons];exact or_comm
theorem Qu4 (O:Sto lt) {a:α}:∀ {l:List α},SG lt l→SG lt (Qy3 lt l a)
 | [],_=>by rw[Qpz];exact List.pairwise_singleton _ _
 | y :: l,h=>by
   have h':=List.pairwise_cons.1 h;have ih:=Qu4 O (a:=a) h'.2;rw[Ql9]
   split
   · next hy =>
     refine List.pairwise_cons.2 ⟨fun x hx => ?_,ih⟩;rcases Qin.1 hx with hx | rfl
     · exact h'.1 x hx
     · exact hy
   · next hy =>
     split
     · exact h
     · next hne =>
       have hay:lt a y=true:=by
        cases hq:lt a y with
        | true=>rfl
        | false=>exact absurd (O.tri (by simpa using hy) hq) hne
       refine List.pairwise_cons.2 ⟨fun x hx => ?_,h⟩;rcases List.mem_cons.1 hx with rfl | hx
       · exact hay
       · exact O.trans hay (h'.1 x hx)
def Qe6 (lt:α→α→Bool) (l:List α):List α:=l.foldl (Qy3 lt) []
theorem Qht (l:List α) (a:α):Qe6 lt (l ++ [a])=Qy3 lt (Qe6 lt l) a:=by unfold Qe6;rw[List.foldl_append];rfl
theorem Qod {x:α}:∀ l:List α,x∈Qe6 lt l↔x∈l:=by
 refine Qy (by simp[Qe6]) fun l a ih => ?_
 rw[Qht,Qin,ih,List.mem_append,List.mem_singleton]
theorem Q13 (O:Sto lt):∀ l:List α,SG lt (Qe6 lt l):=by
 refine Qy List.Pairwise.nil fun l a ih => ?_
 rw[Qht]
 exact Qu4 O ih
theorem Qpy (a:α):∀ l:List α,(Qy3 lt l a).length≤l.length+1
 | []=>by rw[Qpz];simp
 | y :: l=>by
   have ih:=Qpy a l;rw[Ql9]
   split
   · simp;omega
   · split <;> simp
theorem Qy2:∀ l:List α,(Qe6 lt l).length≤l.length:=by
 refine Qy (by simp[Qe6]) fun l a ih => ?_
 rw[Qht];have:=Qpy (lt:=lt) a (Qe6 lt l)
 simp;omega
end
theorem Qkv {l:List ByteArray} (h:l.Nodup):SG bLt (Xc l):=by
 have h1:=Qef l;have h2:(Xc l).Pairwise (· ≠ ·):=List.nodup_iff_pairwise_ne.1 ((Qa2 l).nodup_iff.2 h);refine(List.Pairwise.and h1 h2).imp ?_;rintro a b ⟨h3,h4⟩
 cases hc:bLt a b with
 | true=>rfl
 | false=>exact absurd (Qbh hc h3) h4
theorem Qtd {l:List Int} (h:l.Nodup):(Qek l).Pairwise (· < ·):=by
 have h1:=Qm7 l;have h2:(Qek l).Pairwise (· ≠ ·):=List.nodup_iff_pairwise_ne.1 ((Qdw l).nodup_iff.2 h);refine(List.Pairwise.and h1 h2).imp ?_;rintro a b ⟨h3,h4⟩;omega
theorem Qh3 (l:List ByteArray):SG bLt (Qbx l):=Qkv (Qbt l)
theorem Qw9 (l:List ByteArray) (s:ByteArray):Qy3 bLt (Qbx l) s=Qbx (l ++ [s]) :=
 Qta Qxz (Qu4 Qxz (Qh3 l)) (Qh3 _) fun x=>by rw[Qin,Xu,Xu,List.mem_append,List.mem_singleton]
theorem Q3t (l:List ByteArray):Qbx (Qbx l)=Qbx l:=Qj6 fun x=>Xu
abbrev Ad3:=ByteArray×Int×ByteArray
def adE (e:Ev):Ad3:=(e.person,e.at_,e.item)
def ahB (a b:Ad3):Bool:=if a.1=b.1 then(if a.2.1=b.2.1 then bLt a.2.2 b.2.2 else decide (a.2.1<b.2.1)) else bLt a.1 b.1
theorem Qlr {a b:Ad3}:ahB a b=true↔bLt a.1 b.1=true∨(a.1=b.1∧(a.2.1<b.2.1∨(a.2.1=b.2.1∧bLt a.2.2 b.2.2=true))):=by
 unfold ahB
 by_cases h1:a.1=b.1
 · have hi:bLt a.1 b.1=false:=by rw[h1];exact Xn _
   rw[if_pos h1]
   by_cases h2:a.2.1=b.2.1
   · rw[if_pos h2]
     constructor
     · intro h;exact .inr ⟨h1,.inr ⟨h2,h⟩⟩
     · rintro (h | ⟨_,h | ⟨_,h⟩⟩)
       · rw[hi] at h;cases h
       · omega
       · exact h
   · rw[if_neg h2,decide_eq_true_eq]
     constructor
     · intro h;exact .inr ⟨h1,.inl h⟩
     · rintro (h | ⟨_,h | ⟨h,_⟩⟩)
       · rw[hi] at h;cases h
       · exact h
       · exact absurd h h2
 · rw[if_neg h1]
   constructor
   · exact .inl
   · rintro (h | ⟨h,_⟩)
     · exact h
     · exact absurd h h1
theorem Q7c:Sto ahB where
 irrefl a:=by unfold ahB;rw[if_pos rfl,if_pos rfl];exact Xn _
 trans:=by
  intro a b c h k;rw[Qlr] at *;rcases h with h | ⟨h,h'⟩ <;> rcases k with k | ⟨k,k'⟩
  · exact .inl (Qbd h k)
  · exact .inl (k ▸ h)
  · exact .inl (h ▸ k)
  · refine .inr ⟨h.trans k,?_⟩
    rcases h' with h' | ⟨h',h2⟩ <;> rcases k' with k' | ⟨k',k2⟩
    · exact .inl (by omega)
    · exact .inl (by omega)
    · exact .inl (by omega)
    · exact .inr ⟨by omega,Qbd h2 k2⟩
 tri:=by
  intro a b h k;obtain⟨a1,a2,a3⟩:=a;obtain⟨b1,b2,b3⟩:=b;rw[← Bool.not_eq_true,Qlr] at h k;simp only at h k;have e1:a1=b1:=Qbh (by rw[← Bool.not_eq_true];exact fun x=>h (.inl x)) (by rw[← Bool.not_eq_true];exact fun x=>k (.inl x));subst e1
  have e2:a2=b2:=by
   rcases Int.lt_trichotomy a2 b2 with x | x | x
   · exact absurd (.inr ⟨rfl,.inl x⟩) h
   · exact x
   · exact absurd (.inr ⟨rfl,.inl x⟩) k
  subst e2;have e3:a3=b3:=Qbh (by rw[← Bool.not_eq_true];exact fun x=>h (.inr ⟨rfl,.inr ⟨rfl,x⟩⟩)) (by rw[← Bool.not_eq_true];exact fun x=>k (.inr ⟨rfl,.inr ⟨rfl,x⟩⟩));rw[e3]
def tks (ss:Ses) (p:ByteArray):Qeh:=(Qd ss p).getD []
theorem Qlm (s:Ses) (P I:ByteArray) (T:Int) (p:ByteArray):tks (Q4l s P T I) p=if p=P then Xd (tks s P) T (Xd ((Qd (tks s P) T).getD []) I true) else tks s p:=by
 unfold tks Q4l;rw[X0]
 split <;> rfl
theorem Qgb {κ β:Type} [DecidableEq κ] {k x:κ} {v:β} {l:List (κ×β)}:x∈(Xd l k v).map (·.1)↔x∈l.map (·.1)∨x=k:=by
 rw[Qe0]
 split
 · next h =>
   constructor
   · exact .inl
   · rintro (h1 | rfl)
     · exact h1
     · exact h
 · rw[List.mem_append,List.mem_singleton]
theorem Qwf (m:Qeh) (T t:Int) (x:List (ByteArray×Bool)):Xt (Xd m T x) t=if t=T then x.map (·.1) else Xt m t:=by
 unfold Xt;rw[X0]
 split <;> rfl
structure Q7k (ss:Ses) (l:List Ev):Prop where
 keys:ss.Pairwise (fun x y=>x.1≠y.1)
 ticks:∀ p,(tks ss p).Pairwise (fun x y=>x.1≠y.1)
 item:∀ p t i,i∈Xt (tks ss p) t↔∃ e∈l,e.person=p∧e.at_=t∧e.item=i
 tick:∀ p t,t∈(tks ss p).map (·.1)↔∃ e∈l,e.person=p∧e.at_=t
 person:∀ p,p∈ss.map (·.1)↔∃ e∈l,e.person=p
theorem Q8v:∀ l:List Ev,Q7k (Qhk l) l:=by
 refine Qy ⟨List.Pairwise.nil,fun p=>List.Pairwise.nil,fun p t i=>by simp[Qhk,tks,Qd,Xt],fun p t=>by simp[Qhk,tks,Qd],fun p=>by simp[Qhk]⟩ fun l e ih => ?_
 rw[Qv5];refine⟨Qao ih.keys,fun p => ?_,fun p t i => ?_,fun p t => ?_,fun p => ?_⟩
 · rw[Qlm]
   split
   · exact Qao (ih.ticks _)
   · exact ih.ticks p
 · rw[Qlm]
   have hx:(∃ x∈l ++ [e],x.person=p∧x.at_=t∧x.item=i)↔(∃ x∈l,x.person=p∧x.at_=t∧x.item=i)∨(e.person=p∧e.at_=t∧e.item=i):=by
    constructor
    · rintro ⟨x,hx,h⟩
      rcases List.mem_append.1 hx with hx | hx
      · exact .inl ⟨x,hx,h⟩
      · rw[List.mem_singleton] at hx;subst hx;exact .inr h
    · rintro (⟨x,hx,h⟩ | h)
      · exact⟨x,by simp[hx],h⟩
      · exact⟨e,by simp,h⟩
   rw[hx,← ih.item]
   by_cases hp:p=e.person
   · subst hp
     rw[if_pos rfl,Qwf]
     by_cases ht:t=e.at_
     · subst ht
       rw[if_pos rfl,Qgb];show (i∈Xt (tks (Qhk l) e.person) e.at_∨i=e.item)↔_
       constructor
       · rintro (h | h)
         · exact .inl h
         · exact .inr ⟨rfl,rfl,h.symm⟩
       · rintro (h | ⟨_,_,h⟩)
         · exact .inl h
         · exact .inr h.symm
     · rw[if_neg ht]
       constructor
       · exact .inl
       · rintro (h | ⟨_,h,_⟩)
         · exact h
         · exact absurd h.symm ht
   · rw[if_neg hp]
     constructor
     · exact .inl
     · rintro (h | ⟨h,_⟩)
       · exact h
       · exact absurd h.symm hp
 · rw[Qlm]
   have hx:(∃ x∈l ++ [e],x.person=p∧x.at_=t)↔(∃ x∈l,x.person=p∧x.at_=t)∨(e.person=p∧e.at_=t):=by
    constructor
    · rintro ⟨x,hx,h⟩
      rcases List.mem_append.1 hx with hx | hx
      · exact .inl ⟨x,hx,h⟩
      · rw[List.mem_singleton] at hx;subst hx;exact .inr h
    · rintro (⟨x,hx,h⟩ | h)
      · exact⟨x,by simp[hx],h⟩
      · exact⟨e,by simp,h⟩
   rw[hx,← ih.tick]
   by_cases hp:p=e.person
   · subst hp
     rw[if_pos rfl,Qgb];constructor
     · rintro (h | h)
       · exact .inl h
       · exact .inr ⟨rfl,h.symm⟩
     · rintro (h | ⟨_,h⟩)
       · exact .inl h
       · exact .inr h.symm
   · rw[if_neg hp]
     constructor
     · exact .inl
     · rintro (h | ⟨h,_⟩)
       · exact h
       · exact absurd h.symm hp
 · show p∈(Xd _ _ _).map (·.1)↔_
   rw[Qgb,ih.person];constructor
   · rintro (⟨x,hx,h⟩ | rfl)
     · exact⟨x,by simp[hx],h⟩
     · exact⟨e,by simp,rfl⟩
   · rintro ⟨x,hx,h⟩
     rcases List.mem_append.1 hx with hx | hx
     · exact .inl ⟨x,hx,h⟩
     · rw[List.mem_singleton] at hx;subst hx;exact .inr h.symm
def Qpu (p:ByteArray) (k:Qeh) (t:Int):List Ad3:=(Qbx (Xt k t)).map fun i=>(p,t,i)
def Qux (ss:Ses) (p:ByteArray):List Ad3:=(Qek ((tks ss p).map (·.1))).flatMap (Qpu p (tks ss p))
def Q5g (ss:Ses):List Ad3:=(Xc (ss.map (·.1))).flatMap (Qux ss)
theorem Qme {β:Type} {L:List (Int×β)} (h:L.Pairwise (fun x y=>x.1≠y.1)):(L.map (·.1)).Nodup:=by
 rw[List.nodup_iff_pairwise_ne,List.pairwise_map];exact h
theorem Q5i (p:ByteArray) (k:Qeh) (t:Int):SG ahB (Qpu p k t):=by
 unfold SG Qpu;rw[List.pairwise_map];refine List.Pairwise.imp ?_ (Qh3 (Xt k t));intro a b h
 exact Qlr.2 (.inr ⟨rfl,.inr ⟨rfl,h⟩⟩)
theorem Qil {p:ByteArray} {k:Qeh} {t:Int} {x:Ad3}:x∈Qpu p k t↔x.1=p∧x.2.1=t∧x.2.2∈Xt k t:=by
 unfold Qpu;rw[List.mem_map];constructor
 · rintro ⟨i,hi,rfl⟩;exact⟨rfl,rfl,Xu.1 hi⟩
 · rintro ⟨h1,h2,h3⟩;exact⟨x.2.2,Xu.2 h3,by rw[← h1,← h2]⟩
theorem Q5f {ss:Ses} {l:List Ev} (h:Q7k ss l) (p:ByteArray):SG ahB (Qux ss p):=by
 unfold SG Qux;rw[List.pairwise_flatMap];refine⟨fun t _=>Q5i _ _ _,(Qtd (Qme (h.ticks p))).imp fun hlt x hx y hy => ?_⟩;obtain⟨x1,x2,_⟩:=Qil.1 hx;obtain⟨y1,y2,_⟩:=Qil.1 hy
 exact Qlr.2 (.inr ⟨x1.trans y1.symm,.inl (by omega)⟩)
theorem Qik {ss:Ses} {l:List Ev} (h:Q7k ss l) {p:ByteArray} {x:Ad3}:x∈Qux ss p↔x.1=p∧∃ e∈l,adE e=x:=by
 unfold Qux;rw[List.mem_flatMap];constructor
 · rintro ⟨t,_,hx⟩
   obtain⟨h1,h2,h3⟩:=Qil.1 hx;obtain⟨e,he,e1,e2,e3⟩:=(h.item _ _ _).1 h3
   exact⟨h1,e,he,by unfold adE;rw[e1,e2,e3,← h1,← h2]⟩
 · rintro ⟨h1,e,he,rfl⟩
   refine⟨e.at_,Qm5.2 ((h.tick _ _).2 ⟨e,he,h1,rfl⟩),Qil.2 ⟨h1,rfl,(h.item _ _ _).2 ⟨e,he,h1,rfl,rfl⟩⟩⟩
theorem Q5h (l:List Ev):Q5g (Qhk l)=Qe6 ahB (l.map adE):=by
 have h:=Q8v l;refine Qta Q7c ?_ (Q13 Q7c _) fun x => ?_
 · unfold SG Q5g
   rw[List.pairwise_flatMap];refine⟨fun p _=>Q5f h p,(Qkv (X3 h.keys)).imp fun hlt x hx y hy => ?_⟩;have h1:=((Qik h).1 hx).1;have h2:=((Qik h).1 hy).1
   exact Qlr.2 (.inl (by rw[h1,h2];exact hlt))
 · rw[Qod]
   unfold Q5g;rw[List.mem_flatMap,List.mem_map];constructor
   · rintro ⟨p,_,hx⟩
     exact((Qik h).1 hx).2
   · rintro ⟨e,he,rfl⟩
     exact⟨e.person,Qee.2 ((h.person _).2 ⟨e,he,rfl⟩),(Qik h).2 ⟨rfl,e,he,rfl⟩⟩
def Qbn (gap:Int) (acc:List Sn) (a:Ad3):List Sn :=
 match acc.getLast? with
 | some g=>if g.person=a.1∧a.2.1-g.to_≤gap then acc.dropLast ++ [⟨a.1,g.from_,a.2.1,Qy3 bLt g.items a.2.2⟩] else acc ++ [⟨a.1,a.2.1,a.2.1,[a.2.2]⟩]
 | none=>acc ++ [⟨a.1,a.2.1,a.2.1,[a.2.2]⟩]
theorem Qkf (gap:Int) (acc:List Sn) (g:Sn) (a:Ad3):Qbn gap (acc ++ [g]) a=if g.person=a.1∧a.2.1-g.to_≤gap then acc ++ [⟨a.1,g.from_,a.2.1,Qy3 bLt g.items a.2.2⟩] else(acc ++ [g]) ++ [⟨a.1,a.2.1,a.2.1,[a.2.2]⟩]:=by
 unfold Qbn;rw[List.getLast?_append,List.getLast?_singleton,Option.some_or,List.dropLast_concat]
def allL (gap:Int) (L:List Ad3):List Sn:=L.foldl (Qbn gap) []
theorem Qo9 (gap:Int) (hg:0≤gap) (p:ByteArray) (t:Int):∀ (its:List ByteArray) (acc:List Sn) (f:Int) (X:List ByteArray),(its.map fun i=>((p,t,i):Ad3)).foldl (Qbn gap) (acc ++ [⟨p,f,t,Qbx X⟩])=acc ++ [⟨p,f,t,Qbx (X++its)⟩]
 | [],acc,f,X=>by simp
 | i :: its,acc,f,X=>by
   have ih:=Qo9 gap hg p t its acc f (X ++ [i]);rw[List.map_cons,List.foldl_cons,Qkf,if_pos ⟨rfl,by simp only;omega⟩,Qw9,ih]
   simp
theorem Q6c (i:ByteArray):Qbx [i] = [i]:=by simp[Qbx,Qr3,Xc]
theorem Q4u (gap:Int) (hg:0≤gap) (p:ByteArray) (k:Qeh) (t:Int) (hne:Xt k t ≠ []) :
 (∀ (acc:List Sn),(∀ g,acc.getLast? = some g→g.person≠p∨gap<t-g.to_)→(Qpu p k t).foldl (Qbn gap) acc=acc ++ [⟨p,t,t,Qbx (Xt k t)⟩]) ∧
 (∀ (acc:List Sn) (f u:Int) (X:List ByteArray),t-u≤gap→(Qpu p k t).foldl (Qbn gap) (acc ++ [⟨p,f,u,Qbx X⟩])=acc ++ [⟨p,f,t,Qbx (X++Xt k t)⟩]):=by
 have hex:Qbx (Xt k t) ≠ []:=by
  intro h
  cases hq:Xt k t with
  | nil=>exact hne hq
  | cons y l =>
    have:y∈Qbx (Xt k t):=Xu.2 (by rw[hq];simp);rw[h] at this
    simp at this
 unfold Qpu
 cases hs:Qbx (Xt k t) with
 | nil=>exact absurd hs hex
 | cons i its =>
   have hss:Qbx (i :: its)=Qbx (Xt k t):=by rw[← hs,Q3t]
   refine⟨fun acc hacc => ?_,fun acc f u X hu => ?_⟩
   · have h1:Qbn gap acc (p,t,i)=acc ++ [⟨p,t,t,Qbx [i]⟩]:=by
      unfold Qbn;rw[Q6c]
      cases hl:acc.getLast? with
      | none=>rfl
      | some g =>
        simp only;rw[if_neg];rintro ⟨h2,h3⟩;rcases hacc g hl with h | h
        · exact h h2
        · have h3:t-g.to_≤gap:=h3
          omega
     rw[List.map_cons,List.foldl_cons,h1,Qo9 gap hg];rw[show [i]++its=i :: its from rfl,hss,hs]
   · rw[List.map_cons,List.foldl_cons,Qkf,if_pos ⟨rfl,hu⟩,Qw9,Qo9 gap hg]
     have:Qbx (X ++ [i]++its)=Qbx (X++Xt k t):=Qj6 fun x=>by
      have hx:x∈i :: its↔x∈Xt k t:=by rw[← hs];exact Xu
      have h4:x∈X ++ [i]++its↔x∈X∨x∈i :: its:=by simp[or_assoc]
      rw[h4,hx,List.mem_append]
     rw[this]
theorem Qyb (gap:Int) (hg:0≤gap) (p:ByteArray) (k:Qeh) (acc:List Sn) (hacc:∀ g,acc.getLast? = some g→g.person≠p):∀ ts:List Int,(∀ t∈ts,Xt k t ≠ [])→(ts.flatMap (Qpu p k)).foldl (Qbn gap) acc=acc++(Qf6 gap k ts).map (Q4q p):=by
 refine Qy (fun _=>by simp[Qf6]) fun ts t ih h => ?_
 have ih:=ih fun x hx=>h x (by simp[hx])
 obtain⟨hA,hB⟩:=Q4u gap hg p k t (h t (by simp));rw[List.flatMap_append,List.foldl_append,ih,Qgy];simp only[List.flatMap_cons,List.flatMap_nil,List.append_nil];generalize Qf6 gap k ts=G;clear ih;unfold Qcz
 cases hG:G.getLast? with
 | none =>
   have:G = []:=by simpa using hG
   subst this;simp only[List.map_nil,List.append_nil,List.map_cons];rw[hA acc fun g hl => .inl (hacc g hl)]
   rfl
 | some g =>
   obtain⟨G',rfl⟩:∃ G',G=G' ++ [g]:=by
    have:=List.getLast?_eq_some_iff.1 hG;obtain⟨ys,h⟩:=this
    exact⟨ys,h⟩
   simp only[List.dropLast_concat]
   by_cases hc:gap<t-g.2.1
   · rw[if_pos hc,hA _ fun g' hl => ?_]
     · simp[Q4q]
     · rw[List.map_append,← List.append_assoc,List.map_cons,List.map_nil,List.getLast?_append,List.getLast?_singleton,Option.some_or] at hl
       injection hl with hl;subst hl
       exact .inr hc
   · rw[if_neg hc,List.map_append,← List.append_assoc,List.map_cons,List.map_nil]
     rw[show Q4q p g=⟨p,g.1,g.2.1,Qbx g.2.2⟩ from rfl,hB _ _ _ _ (by omega),List.map_append,List.append_assoc]
     rfl
theorem Q3x {gap:Int} {ss:Ses} {p:ByteArray} {x:Sn} (h:x∈Qff gap ss p):x.person=p:=by
 unfold Qff at h;obtain⟨g,_,rfl⟩:=List.mem_map.1 h
 rfl
theorem Qn1 (gap:Int) (hg:0≤gap) (ss:Ses) (hne:∀ p t,t∈(tks ss p).map (·.1)→Xt (tks ss p) t ≠ []):∀ (ps:List ByteArray) (acc:List Sn),ps.Nodup→(∀ g,acc.getLast? = some g→g.person∉ps)→(ps.flatMap (Qux ss)).foldl (Qbn gap) acc=acc++ps.flatMap (Qff gap ss)
 | [],acc,_,_=>by simp
 | p :: ps,acc,hn,hl=>by
   rw[List.nodup_cons] at hn;rw[List.flatMap_cons,List.foldl_append,List.flatMap_cons];have h1:(Qux ss p).foldl (Qbn gap) acc=acc++Qff gap ss p:=Qyb gap hg p (tks ss p) acc (fun g hg he=>hl g hg (by rw[he];simp)) _ fun t ht=>hne p t (Qm5.1 ht)
   rw[h1,Qn1 gap hg ss hne ps _ hn.2 ?_,List.append_assoc];intro g hgl;rw[List.getLast?_append] at hgl
   cases hq:(Qff gap ss p).getLast? with
   | none =>
     rw[hq,Option.none_or] at hgl
     exact fun hm=>hl g hgl (by simp[hm])
   | some x =>
     rw[hq,Option.some_or] at hgl;injection hgl with hgl;subst hgl;rw[Q3x (List.mem_of_getLast? hq)]
     exact hn.1
theorem Q3y (gap:Int) (hg:0≤gap) (l:List Ev):allL gap (Qe6 ahB (l.map adE))=Qi2 gap (Qhk l):=by
 have h:=Q8v l;rw[← Q5h];unfold allL Q5g Qi2;rw[Qn1 gap hg (Qhk l) (fun p t ht hne => ?_) _ [] ((Qa2 _).nodup_iff.2 (X3 h.keys)) (by simp),List.nil_append];obtain⟨e,he,e1,e2⟩:=(h.tick p t).1 ht;have:=(h.item p t e.item).2 ⟨e,he,e1,e2,rfl⟩;rw[hne] at this
 simp at this
theorem Qs2 (r:ByteArray):Qa5 (Qqy r)=r:=by
 have hl:(Qqy r).data.toList=59 :: r.data.toList:=by unfold Qqy;simp
 have hp:Qaj (Qqy r)=some 0:=by unfold Qaj;rw[hl];rfl
 unfold Qa5;rw[hp];simp only
 apply Q07
 have h2:∀ s:ByteArray,s.toList=s.data.toList:=fun s=>by rw[ByteArray.toList_eq]
 rw[h2,h2,Qem,hl]
 have:(Qqy r).size=r.size+1:=by
  have:=congrArg List.length hl
  simpa using this
 rw[this]
 simp
 exact List.take_of_length_le (by simp)
theorem Q39 (s:ByteArray):Qz (Qqy (Qa5 s))=Qz s:=by rw[Qed,Qs2,Qed s]
theorem Qo1:Qz (Qqy ⟨#[]⟩) = []:=by rw[Qed,Qs2,if_pos rfl]
def Q9i (l:List ByteArray):Prop:=(∀ t∈l,Qm t=true)∧SG bLt l∧l.length≤8
theorem Q83 {l:List ByteArray} (h:Qf4 l=true) (h8:l.length≤8):Q9i l:=by
 unfold Qf4 at h;rw[List.all_eq_true] at h
 have hk:∀ i (hi:i<l.length),Qm l[i]=true∧(i=0∨bLt (l.getD (i-1) .empty) l[i]=true):=fun i hi=>by
  have:=h i (List.mem_range.2 hi);unfold Qnd at this;rw[getD_lt hi] at this
  simpa using this
 refine⟨fun t ht => ?_,?_,h8⟩
 · obtain⟨i,hi,rfl⟩:=List.getElem_of_mem ht
   exact(hk i hi).1
 · have hs:∀ d i (hi:i+d+1<l.length),bLt (l[i]'(by omega)) (l[i+d+1]'hi)=true:=by
    intro d
    induction d with
    | zero =>
      intro i hi;have:=(hk (i+1) hi).2;rw[Nat.add_sub_cancel,getD_lt (by omega)] at this;rcases this with h | h
      · omega
      · exact h
    | succ d ih =>
      intro i hi;have h1:=ih i (by omega);have:=(hk (i+(d+1)+1) hi).2;rw[show i+(d+1)+1-1=i+d+1 by omega,getD_lt (by omega)] at this;rcases this with h | h
      · omega
      · exact Qbd h1 h
   unfold SG;rw[List.pairwise_iff_getElem];intro i j hi hj hij;have:=hs (j-i-1) i (by omega);have e:i+(j-i-1)+1=j:=by omega
   simp only[e] at this
   exact this
theorem Q8x (name:ByteArray):∀ es:List Ev,(∀ e∈es,X4 e=true)→Q9i (Qz (Qqy (Q0c name es).item.tags)):=by
 refine Qy (fun _ => ?_) fun es e ih h => ?_
 · show Q9i (Qz (Qqy ⟨#[]⟩))
   rw[Qo1]
   exact⟨by simp,List.Pairwise.nil,by simp⟩
 · have ih:=ih fun x hx=>h x (by simp[hx])
   have he:=h e (by simp);rw[Qox];unfold Qce
   split
   · next hk =>
     show Q9i (Qz (Qqy (Qa5 e.text)))
     rw[Q39]
     have hl:Qbk e.text=true:=by
      rcases Qbv (Qco.1 he).kind with hq | hq | hq | hq | hq | hq | hq
      all_goals first | (exfalso;omega) | exact hq.2.2.2.1
     unfold Qbk at hl;simp only[Bool.and_eq_true] at hl
     exact Q83 hl.2.1 (by simpa using hl.2.2)
   · split
     · exact ih
     · exact ih
theorem Q8b (name:ByteArray) (es:List Ev) (h:∀ e∈es,X4 e=true):Q9i (Qz (Qqy (Xat name es).tags)):=by
 unfold Xat
 split
 · show Q9i (Qz (Qqy ⟨#[]⟩))
   rw[Qo1]
   exact⟨by simp,List.Pairwise.nil,by simp⟩
 · exact Q8x name es h
theorem Qwb (tg:List ByteArray):(Qb3 tg).Nodup:=by
 have:∀ (tg l:List ByteArray),l.Nodup→(tg.foldl Qct l).Nodup:=by
  intro tg
  induction tg with
  | nil=>intro l h;exact h
  | cons t tg ih =>
    intro l h;rw[List.foldl_cons];refine ih _ ?_;unfold Qct
    split
    · next hc =>
      have hn:t∉l:=by
       intro hm;have:=(Lib.containsS_iff _ _).2 hm;rw[this] at hc
       simp at hc
      rw[List.nodup_append];refine⟨h,by simp,?_⟩;intro a ha b hb;rw[List.mem_singleton] at hb;subst hb
      exact fun e=>hn (e ▸ ha)
    · exact h
 exact this tg [] List.nodup_nil
theorem Q4b {z:List Ev} (h:∀ e∈z,X4 e=true):∀ e∈Qn z,X4 e=true:=fun e he=>h e (List.mem_filter.1 he).1
theorem Q0j {z:List Ev} (h:Rise z):Rise (Qn z):=h.sublist List.filter_sublist
theorem Q48 (width:Int) (z:List Ev) (e:Ev):(Qe width (z ++ [e])).rs=(Qe width z).rs++if peB e=true then [(e,Qb3 (Qbr (Qn z) e))] else []:=by
 have hc:=(Qar width z).1;rw[Qcm];unfold Qcv peB thB
 by_cases h1:e.kind=11∨e.kind=12∨e.kind=13
 · simp[h1]
 · rw[if_neg h1]
   by_cases h2:e.kind=14
   · simp[h2]
   · rw[if_neg h2,← hc]
     simp only[h1,h2,decide_false,Bool.not_false,Bool.and_self,if_true]
     split <;> rfl
theorem Qlz (width:Int):∀ z:List Ev,Rise z→(∀ e∈z,X4 e=true)→∀ r∈(Qe width z).rs,X4 r.1=true∧r.2.Nodup∧r.2.length≤8:=by
 refine Qy (fun _ _ r hr=>by simp[Qe,Qt8] at hr) fun z e ih hR hm => ?_
 have hr1:Rise z:=(List.pairwise_append.1 hR).1;have hm1:∀ x∈z,X4 x=true:=fun x hx=>hm x (by simp[hx])
 have ih:=ih hr1 hm1;rw[Q48];intro r hr;rcases List.mem_append.1 hr with hr | hr
 · exact ih r hr
 · split at hr
   · rw[List.mem_singleton] at hr
     subst hr;refine⟨hm e (by simp),Qwb _,Nat.le_trans (Qts _) ?_⟩;unfold Qbr
     split
     · rw[Q1e (Q0j hr1)]
       exact(Q8b e.item _ fun y hy=>Q4b hm1 y (List.mem_filter.1 hy).1).2.2
     · simp
   · simp at hr
abbrev Ct:=ByteArray×Int
def Qns (x:Ct):List Value := [.string x.1,.int .i64 x.2]
theorem Qpi (x:Ct):(Qns x).length=2:=rfl
theorem Qpj (x:Ct):∀ u∈Qns x,u.oneCell'=true:=by simp[Qns,Value.oneCell']
theorem Xag:Qrg Tryz.prog 73 78 Qns 2 24:=⟨by kernel_rfl,⟨_,ty78_ok,rfl,rfl⟩,by78,by decide,by decide,Qpi,Qpj⟩
theorem Q7g {z:List Ev} (h:∀ e∈z,X4 e=true):∀ e∈z.filter wpB,X4 e=true:=fun e he=>h e (List.mem_filter.1 he).1
theorem Q2q {e:Ev} (h:X4 e=true):0≤e.at_∧e.at_≤1099511627776:=by
 have:=(Qco.1 h).at_
 exact this
theorem Q61 {c:Cfg} (h:Qrq c=true):(1≤c.half∧c.half≤1099511627776)∧(1≤c.width∧c.width≤1099511627776)∧(1≤c.span∧c.span≤1099511627776)∧c.span.tmod c.width=0∧(0≤c.gap∧c.gap≤1099511627776)∧(0≤c.floor∧c.floor≤1048576)∧(0≤c.crowd∧c.crowd≤1048576):=by
 unfold Qrq inB at h;simp only[Bool.and_eq_true,decide_eq_true_eq] at h;obtain⟨⟨⟨⟨⟨⟨h1,h2⟩,h3⟩,h4⟩,h5⟩,h6⟩,h7⟩:=h
 exact⟨h1,h2,h3,h4,h5,h6,h7⟩
theorem Q1y {n:Int} (h:1≤n∧n≤1099511627776):Xk n=n:=by unfold Xk;omega
theorem Qii {t width:Int} (hw:1≤width) (h:-4398046511104≤t∧t≤4398046511104) : -4398046511104≤t/width∧t/width≤4398046511104:=by
 constructor
 · rw[Int.le_ediv_iff_mul_le (by omega)]
   have : -4398046511104*width ≤ -4398046511104*1:=Int.mul_le_mul_of_nonpos_left (by omega) (by omega);omega
 · rcases Int.lt_or_le t 0 with h1 | h1
   · have:=Int.ediv_neg_of_neg_of_pos h1 (show 0<width by omega)
     omega
   · have:=Int.ediv_le_self width h1
     omega
theorem Qlq.ext {w w1:World} {T:Nat→Prop} {D:List (Ev×SV)} {rs:List Row} (h:Qlq w T D rs) (hT:∀ k,T k→k<w.heap.size) (hx:Ext w w1):Qlq w1 T D rs :=
 ⟨h.len,fun i d r hd hr=>by
  obtain⟨h1,h2,h3,h4⟩:=h.ev i d r hd hr
  exact⟨h1,h2,h3.ext hx,h4⟩⟩
theorem Qat {w w1 w2:World} {T:Nat→Prop} (hx:Ext w w1) (hT:∀ k,T k→w.heap.size≤k) (hM:Mod T w1 w2):Ext w w2 :=
 (Qr (Mod.of_ext (S:=fun _=>False) hx) (hM.mono fun k _ hk => .inr (hT k hk))).ext fun _ _ h=>h
def Qgo (c:Cfg) (z:List Ev):List Sn:=Qi2 (Q1u c.gap) (Qhk (z.filter wpB))
def Qvk (c:Cfg) (now:Int):Int:=now-now.tmod (Xk c.width)
end Go.Proofs.YtagijlhciclafaaGreatDoor
