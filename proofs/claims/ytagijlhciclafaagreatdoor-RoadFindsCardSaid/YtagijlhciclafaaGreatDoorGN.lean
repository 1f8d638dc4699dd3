/- Several texts in one: Ct, Pl5, Pl6, Sm. -/
import Derived.Test.YtagijlhciclafaaGreatDoorGF
import Derived.Test.YtagijlhciclafaaGreatDoorGC
import Derived.Test.YtagijlhciclafaaGreatDoorGH
set_option linter.unusedVariables false
set_option linter.unusedSimpArgs false
namespace Go.Proofs.YtagijlhciclafaaGreatDoor
open Go.Se Go.RowKit
theorem Qp0 (row:List St) (t:Int):(stN row t=0∨∃ s,row[stN row t-1]? = some s∧s.at_≤t)∧(stN row t=row.length∨∃ s,row[stN row t]? = some s∧t<s.at_)∧stN row t≤row.length:=by
 unfold stN
 induction row with
 | nil=>simp
 | cons a row ih =>
   rw[List.takeWhile_cons]
   by_cases h:a.at_≤t
   · rw[if_pos (by simpa using h)]
     obtain⟨i1,i2,i3⟩:=ih;simp only[List.length_cons];generalize (row.takeWhile fun s=>decide (s.at_≤t)).length=n at *;refine⟨.inr ?_,?_,by omega⟩
     · rcases i1 with rfl | ⟨s,hs,hle⟩
       · exact⟨a,by simp,h⟩
       · cases n with
         | zero=>exact⟨a,by simp,h⟩
         | succ n=>exact⟨s,by simpa using hs,hle⟩
     · rcases i2 with h2 | ⟨s,hs,hlt⟩
       · exact .inl (by omega)
       · exact .inr ⟨s,by simpa using hs,hlt⟩
   · rw[if_neg (by simpa using h)]
     exact⟨.inl rfl,.inr ⟨a,rfl,by omega⟩,by simp⟩
def thQ (name:ByteArray) (t:Int) (e:Ev):Bool:=decide (e.item=name)&&decide (e.at_≤t)
def Qku (name:ByteArray) (es:List Ev):St:=es.foldl stStep (stInit name)
theorem Qez (name:ByteArray) (es:List Ev) (e:Ev):Qku name (es ++ [e])=stStep (Qku name es) e:=by simp[Qku]
theorem Qis (s:St) (e:Ev):(stStep s e).item.name=s.item.name:=by unfold stStep;split <;> (try split) <;> rfl
def Qq6 (name:ByteArray) (es:List Ev):It:=if es.isEmpty then zeroIt else(Qku name es).item
theorem Qb7 {row:List St} {t:Int} (h:∀ s∈row,s.at_≤t):stN row t=row.length:=by
 unfold stN
 have:row.takeWhile (fun s=>decide (s.at_≤t))=row:=by
  have:=List.takeWhile_append_of_pos (l₂ := []) (p:=fun s:St=>decide (s.at_≤t)) (l₁:=row) (fun s hs=>by simpa using h s hs)
  simpa using this
 rw[this]
theorem Qm3:∀ (cs:List Ev),Rise cs→∀ (name:ByteArray) (t:Int),
 (stN (catRows cs name) t=0↔cs.filter (thQ name t) = [])∧(stN (catRows cs name) t≠0→(catRows cs name)[stN (catRows cs name) t-1]? = some (Qku name (cs.filter (thQ name t)))):=by
 refine snoc_ind ?_ ?_
 · intro _ name t
   simp[catRows,stN]
 · intro cs e ih h name t
   have h1:Rise cs:=(List.pairwise_append.1 h).1;have h2:=(List.pairwise_append.1 h).2.2;obtain⟨i1,i2⟩:=ih h1 name t;obtain⟨r1,r2⟩:=catRows_rise cs h1 name;rw[catRows_snoc,List.filter_append];unfold catStep updR
   by_cases hn:name=e.item
   · rw[if_pos hn]
     subst hn;generalize hrow:catRows cs e.item=row at *
     have hle:∀ s∈row,s.at_≤e.at_:=fun s hs=>by
      obtain⟨e',he',h3,_⟩:=r2 s hs;have:=less_at (h2 e' he' e (by simp));omega
     by_cases ht:e.at_≤t
     · have hq:thQ e.item t e=true:=by simp[thQ,ht]
       have hall:∀ s∈row ++ [stNext row e],s.at_≤t:=fun s hs=>by
        rcases List.mem_append.1 hs with hs | hs
        · have:=hle s hs;omega
        · simp at hs;subst hs;unfold stNext;rw[stStep_at];exact ht
       have hN:stN row t=row.length:=Qb7 fun s hs=>hall s (by simp[hs])
       rw[Qb7 hall];refine⟨by simp[List.filter_cons,hq],fun _ => ?_⟩;simp only[List.filter_cons,hq,if_true,List.filter_nil,Qez];rw[List.length_append,List.length_singleton,Nat.add_sub_cancel,List.getElem?_append_right (Nat.le_refl _),Nat.sub_self];unfold stNext;rw[hN] at i1 i2
       congr 2
       by_cases h0:row.length=0
       · have h3:=i1.1 h0
         rw[h3,List.length_eq_zero_iff.1 h0]
         rfl
       · rw[List.getLast?_eq_getElem?,i2 h0];rfl
     · have hq:thQ e.item t e=false:=by simp[thQ,ht]
       have hN:stN (row ++ [stNext row e]) t=stN row t:=by
        unfold stN;rw[List.takeWhile_append]
        split
        · rw[List.takeWhile_cons_of_neg (by unfold stNext;rw[stStep_at];simpa using ht)]
          simp;omega
        · rfl
       rw[hN];simp only[List.filter_cons,hq,Bool.false_eq_true,if_false,List.filter_nil,List.append_nil];refine⟨i1,fun h0 => ?_⟩;have:=(Qp0 row t).2.2;rw[List.getElem?_append_left (by omega)]
       exact i2 h0
   · rw[if_neg hn]
     have hq:thQ name t e=false:=by simp[thQ,Ne.symm hn]
     simp only[List.filter_cons,hq,Bool.false_eq_true,if_false,List.filter_nil,List.append_nil]
     exact⟨i1,i2⟩
theorem Qlf {cs:List Ev} (h:Rise cs) (name:ByteArray) (t:Int):catAt cs name t=(Qq6 name (cs.filter (thQ name t)),!(cs.filter (thQ name t)).isEmpty):=by
 obtain⟨h1,h2⟩:=Qm3 cs h name t;unfold catAt Qq6
 by_cases h0:stN (catRows cs name) t=0
 · have h3:=h1.1 h0
   rw[h3,h0]
   cases (catRows cs name)[0-1]? <;> rfl
 · have h3:cs.filter (thQ name t) ≠ []:=fun h=>h0 (h1.2 h)
   rw[h2 h0];simp only[if_neg h0];generalize cs.filter (thQ name t)=F at h3
   cases F with
   | nil=>exact absurd rfl h3
   | cons a es=>rfl
structure Sto {α:Type} (lt:α→α→Bool):Prop where
 irrefl:∀ a,lt a a=false
 trans:∀ {a b c},lt a b=true→lt b c=true→lt a c=true
 tri:∀ {a b},lt a b=false→lt b a=false→a=b
theorem Qjj:Sto bLt:=⟨bLt_irrefl,bLt_trans,bLt_tri⟩
def SG {α:Type} (lt:α→α→Bool) (l:List α):Prop:=l.Pairwise fun x y=>lt x y=true
theorem SG.nodup {α:Type} {lt:α→α→Bool} (O:Sto lt) {l:List α} (h:SG lt l):l.Nodup:=h.imp fun h e=>by rw[e,O.irrefl] at h;cases h
theorem Qhe {α:Type} {lt:α→α→Bool} (O:Sto lt) {a b:α} (h:lt a b=true):lt b a=false:=by
 cases hb:lt b a with
 | false=>rfl
 | true=>have:=O.trans h hb;rw[O.irrefl] at this;cases this
theorem Qg8 {α:Type} {lt:α→α→Bool} (O:Sto lt) {l m:List α} (h1:SG lt l) (h2:SG lt m) (hm:∀ x,x∈l↔x∈m):l=m :=
 List.Perm.eq_of_pairwise (le:=fun a b=>lt b a=false) (fun a b _ _ h1 h2=>O.tri h2 h1) (h1.imp fun h=>Qhe O h) (h2.imp fun h=>Qhe O h) (perm_of_subs (h1.nodup O) (h2.nodup O) (fun x hx=>(hm x).1 hx) fun x hx=>(hm x).2 hx)
section
variable {α:Type} [DecidableEq α] {lt:α→α→Bool}
def Qj5 (lt:α→α→Bool) (l:List α) (a:α):List α :=
 if(l.dropWhile fun x=>lt x a).head? = some a then l else l.takeWhile (fun x=>lt x a)++a :: l.dropWhile (fun x=>lt x a)
theorem Qfj (a:α):Qj5 lt [] a = [a]:=by simp[Qj5]
theorem Qdk (x:α) (l:List α) (a:α):Qj5 lt (x :: l) a=if lt x a=true then x :: Qj5 lt l a else if x=a then x :: l else a :: x :: l:=by
 unfold Qj5;rw[List.takeWhile_cons,List.dropWhile_cons]
 cases h:lt x a with
 | true =>
   simp only[if_true]
   split <;> simp
 | false =>
   simp only[Bool.false_eq_true,if_false,List.head?_cons,Option.some.injEq,List.nil_append]
theorem Qbv {x a:α}:∀ {l:List α},x∈Qj5 lt l a↔x∈l∨x=a
 | []=>by rw[Qfj];simp
 | y :: l=>by
   have ih:=Qbv (x:=x) (a:=a) (l:=l);rw[Qdk]
   split
   · rw[List.mem_cons,ih,List.mem_cons];exact or_assoc.symm
   · split
     · next h =>
       subst h;constructor
       · exact .inl
       · rintro (h | rfl)
         · exact h
         · simp
     · rw[List.mem_cons];exact or_comm
theorem Qh4 (O:Sto lt) {a:α}:∀ {l:List α},SG lt l→SG lt (Qj5 lt l a)
 | [],_=>by rw[Qfj];exact List.pairwise_singleton _ _
 | y :: l,h=>by
   have h':=List.pairwise_cons.1 h;have ih:=Qh4 O (a:=a) h'.2;rw[Qdk]
   split
   · next hy =>
     refine List.pairwise_cons.2 ⟨fun x hx => ?_,ih⟩;rcases Qbv.1 hx with hx | rfl
     · exact h'.1 x hx
     · exact hy
   · next hy =>
     split
     · exact h
     · next hne =>
       have hay:lt a y=true:=by
        cases hq:lt a y with
        | true=>rfl
        | false=>exact absurd (O.tri (by simpa using hy) hq) hne
       refine List.pairwise_cons.2 ⟨fun x hx => ?_,h⟩;rcases List.mem_cons.1 hx with rfl | hx
       · exact hay
       · exact O.trans hay (h'.1 x hx)
def Qab (lt:α→α→Bool) (l:List α):List α:=l.foldl (Qj5 lt) []
theorem Qbf (l:List α) (a:α):Qab lt (l ++ [a])=Qj5 lt (Qab lt l) a:=by unfold Qab;rw[List.foldl_append];rfl
theorem Qeo {x:α}:∀ l:List α,x∈Qab lt l↔x∈l:=by
 refine snoc_ind (by simp[Qab]) fun l a ih => ?_
 rw[Qbf,Qbv,ih,List.mem_append,List.mem_singleton]
theorem Ql0 (O:Sto lt):∀ l:List α,SG lt (Qab lt l):=by
 refine snoc_ind List.Pairwise.nil fun l a ih => ?_
 rw[Qbf]
 exact Qh4 O ih
theorem Qfi (a:α):∀ l:List α,(Qj5 lt l a).length≤l.length+1
 | []=>by rw[Qfj];simp
 | y :: l=>by
   have ih:=Qfi a l;rw[Qdk]
   split
   · simp;omega
   · split <;> simp
theorem Qj4:∀ l:List α,(Qab lt l).length≤l.length:=by
 refine snoc_ind (by simp[Qab]) fun l a ih => ?_
 rw[Qbf];have:=Qfi (lt:=lt) a (Qab lt l)
 simp;omega
end
theorem Qcz {l:List ByteArray} (h:l.Nodup):SG bLt (sortT l):=by
 have h1:=sortT_srt l;have h2:(sortT l).Pairwise (· ≠ ·):=List.nodup_iff_pairwise_ne.1 ((sortT_perm l).nodup_iff.2 h);refine(List.Pairwise.and h1 h2).imp ?_;rintro a b ⟨h3,h4⟩
 cases hc:bLt a b with
 | true=>rfl
 | false=>exact absurd (bLt_tri hc h3) h4
theorem Qha {l:List Int} (h:l.Nodup):(sortI l).Pairwise (· < ·):=by
 have h1:=sortI_srt l;have h2:(sortI l).Pairwise (· ≠ ·):=List.nodup_iff_pairwise_ne.1 ((sortI_perm l).nodup_iff.2 h);refine(List.Pairwise.and h1 h2).imp ?_;rintro a b ⟨h3,h4⟩;omega
theorem Qbn (l:List ByteArray):SG bLt (Q5 l):=Qcz (Qz l)
theorem Qi6 (l:List ByteArray) (s:ByteArray):Qj5 bLt (Q5 l) s=Q5 (l ++ [s]) :=
 Qg8 Qjj (Qh4 Qjj (Qbn l)) (Qbn _) fun x=>by rw[Qbv,Qg,Qg,List.mem_append,List.mem_singleton]
theorem Qmw (l:List ByteArray):Q5 (Q5 l)=Q5 l:=Qcj fun x=>Qg
abbrev Ad3:=ByteArray×Int×ByteArray
def adE (e:Ev):Ad3:=(e.person,e.at_,e.item)
def ahB (a b:Ad3):Bool:=if a.1=b.1 then(if a.2.1=b.2.1 then bLt a.2.2 b.2.2 else decide (a.2.1<b.2.1)) else bLt a.1 b.1
theorem Qdc {a b:Ad3}:ahB a b=true↔bLt a.1 b.1=true∨(a.1=b.1∧(a.2.1<b.2.1∨(a.2.1=b.2.1∧bLt a.2.2 b.2.2=true))):=by
 unfold ahB
 by_cases h1:a.1=b.1
 · have hi:bLt a.1 b.1=false:=by rw[h1];exact bLt_irrefl _
   rw[if_pos h1]
   by_cases h2:a.2.1=b.2.1
   · rw[if_pos h2]
     constructor
     · intro h;exact .inr ⟨h1,.inr ⟨h2,h⟩⟩
     · rintro (h | ⟨_,h | ⟨_,h⟩⟩)
       · rw[hi] at h;cases h
       · omega
       · exact h
   · rw[if_neg h2,decide_eq_true_eq]
     constructor
     · intro h;exact .inr ⟨h1,.inl h⟩
     · rintro (h | ⟨_,h | ⟨h,_⟩⟩)
       · rw[hi] at h;cases h
       · exact h
       · exact absurd h h2
 · rw[if_neg h1]
   constructor
   · exact .inl
   · rintro (h | ⟨h,_⟩)
     · exact h
     · exact absurd h h1
theorem Qo5:Sto ahB where
 irrefl a:=by unfold ahB;rw[if_pos rfl,if_pos rfl];exact bLt_irrefl _
 trans:=by
  intro a b c h k;rw[Qdc] at *;rcases h with h | ⟨h,h'⟩ <;> rcases k with k | ⟨k,k'⟩
  · exact .inl (bLt_trans h k)
  · exact .inl (k ▸ h)
  · exact .inl (h ▸ k)
  · refine .inr ⟨h.trans k,?_⟩
    rcases h' with h' | ⟨h',h2⟩ <;> rcases k' with k' | ⟨k',k2⟩
    · exact .inl (by omega)
    · exact .inl (by omega)
    · exact .inl (by omega)
    · exact .inr ⟨by omega,bLt_trans h2 k2⟩
 tri:=by
  intro a b h k;obtain⟨a1,a2,a3⟩:=a;obtain⟨b1,b2,b3⟩:=b;rw[← Bool.not_eq_true,Qdc] at h k;simp only at h k;have e1:a1=b1:=bLt_tri (by rw[← Bool.not_eq_true];exact fun x=>h (.inl x)) (by rw[← Bool.not_eq_true];exact fun x=>k (.inl x));subst e1
  have e2:a2=b2:=by
   rcases Int.lt_trichotomy a2 b2 with x | x | x
   · exact absurd (.inr ⟨rfl,.inl x⟩) h
   · exact x
   · exact absurd (.inr ⟨rfl,.inl x⟩) k
  subst e2;have e3:a3=b3:=bLt_tri (by rw[← Bool.not_eq_true];exact fun x=>h (.inr ⟨rfl,.inr ⟨rfl,x⟩⟩)) (by rw[← Bool.not_eq_true];exact fun x=>k (.inr ⟨rfl,.inr ⟨rfl,x⟩⟩));rw[e3]
def tks (ss:Ses) (p:ByteArray):X3:=(alook ss p).getD []
theorem Qda (s:Ses) (P I:ByteArray) (T:Int) (p:ByteArray):tks (addS s P T I) p=if p=P then aset (tks s P) T (aset ((alook (tks s P) T).getD []) I true) else tks s p:=by
 unfold tks addS;rw[alook_aset]
 split <;> rfl
theorem Qat {κ β:Type} [DecidableEq κ] {k x:κ} {v:β} {l:List (κ×β)}:x∈(aset l k v).map (·.1)↔x∈l.map (·.1)∨x=k:=by
 rw[aset_keys]
 split
 · next h =>
   constructor
   · exact .inl
   · rintro (h1 | rfl)
     · exact h1
     · exact h
 · rw[List.mem_append,List.mem_singleton]
theorem Qiv (m:X3) (T t:Int) (x:List (ByteArray×Bool)):Qe (aset m T x) t=if t=T then x.map (·.1) else Qe m t:=by
 unfold Qe;rw[alook_aset]
 split <;> rfl
structure Qpb (ss:Ses) (l:List Ev):Prop where
 keys:ss.Pairwise (fun x y=>x.1≠y.1)
 ticks:∀ p,(tks ss p).Pairwise (fun x y=>x.1≠y.1)
 item:∀ p t i,i∈Qe (tks ss p) t↔∃ e∈l,e.person=p∧e.at_=t∧e.item=i
 tick:∀ p t,t∈(tks ss p).map (·.1)↔∃ e∈l,e.person=p∧e.at_=t
 person:∀ p,p∈ss.map (·.1)↔∃ e∈l,e.person=p
theorem Qpz:∀ l:List Ev,Qpb (Qbc l) l:=by
 refine snoc_ind ⟨List.Pairwise.nil,fun p=>List.Pairwise.nil,fun p t i=>by simp[Qbc,tks,alook,Qe],fun p t=>by simp[Qbc,tks,alook],fun p=>by simp[Qbc]⟩ fun l e ih => ?_
 rw[Qir];refine⟨aset_pairwise ih.keys,fun p => ?_,fun p t i => ?_,fun p t => ?_,fun p => ?_⟩
 · rw[Qda]
   split
   · exact aset_pairwise (ih.ticks _)
   · exact ih.ticks p
 · rw[Qda]
   have hx:(∃ x∈l ++ [e],x.person=p∧x.at_=t∧x.item=i)↔(∃ x∈l,x.person=p∧x.at_=t∧x.item=i)∨(e.person=p∧e.at_=t∧e.item=i):=by
    constructor
    · rintro ⟨x,hx,h⟩
      rcases List.mem_append.1 hx with hx | hx
      · exact .inl ⟨x,hx,h⟩
      · rw[List.mem_singleton] at hx;subst hx;exact .inr h
    · rintro (⟨x,hx,h⟩ | h)
      · exact⟨x,by simp[hx],h⟩
      · exact⟨e,by simp,h⟩
   rw[hx,← ih.item]
   by_cases hp:p=e.person
   · subst hp
     rw[if_pos rfl,Qiv]
     by_cases ht:t=e.at_
     · subst ht
       rw[if_pos rfl,Qat];show (i∈Qe (tks (Qbc l) e.person) e.at_∨i=e.item)↔_
       constructor
       · rintro (h | h)
         · exact .inl h
         · exact .inr ⟨rfl,rfl,h.symm⟩
       · rintro (h | ⟨_,_,h⟩)
         · exact .inl h
         · exact .inr h.symm
     · rw[if_neg ht]
       constructor
       · exact .inl
       · rintro (h | ⟨_,h,_⟩)
         · exact h
         · exact absurd h.symm ht
   · rw[if_neg hp]
     constructor
     · exact .inl
     · rintro (h | ⟨h,_⟩)
       · exact h
       · exact absurd h.symm hp
 · rw[Qda]
   have hx:(∃ x∈l ++ [e],x.person=p∧x.at_=t)↔(∃ x∈l,x.person=p∧x.at_=t)∨(e.person=p∧e.at_=t):=by
    constructor
    · rintro ⟨x,hx,h⟩
      rcases List.mem_append.1 hx with hx | hx
      · exact .inl ⟨x,hx,h⟩
      · rw[List.mem_singleton] at hx;subst hx;exact .inr h
    · rintro (⟨x,hx,h⟩ | h)
      · exact⟨x,by simp[hx],h⟩
      · exact⟨e,by simp,h⟩
   rw[hx,← ih.tick]
   by_cases hp:p=e.person
   · subst hp
     rw[if_pos rfl,Qat];constructor
     · rintro (h | h)
       · exact .inl h
       · exact .inr ⟨rfl,h.symm⟩
     · rintro (h | ⟨_,h⟩)
       · exact .inl h
       · exact .inr h.symm
   · rw[if_neg hp]
     constructor
     · exact .inl
     · rintro (h | ⟨h,_⟩)
       · exact h
       · exact absurd h.symm hp
 · show p∈(aset _ _ _).map (·.1)↔_
   rw[Qat,ih.person];constructor
   · rintro (⟨x,hx,h⟩ | rfl)
     · exact⟨x,by simp[hx],h⟩
     · exact⟨e,by simp,rfl⟩
   · rintro ⟨x,hx,h⟩
     rcases List.mem_append.1 hx with hx | hx
     · exact .inl ⟨x,hx,h⟩
     · rw[List.mem_singleton] at hx;subst hx;exact .inr h.symm
def Qfe (p:ByteArray) (k:X3) (t:Int):List Ad3:=(Q5 (Qe k t)).map fun i=>(p,t,i)
def Qhz (ss:Ses) (p:ByteArray):List Ad3:=(sortI ((tks ss p).map (·.1))).flatMap (Qfe p (tks ss p))
def Qnz (ss:Ses):List Ad3:=(sortT (ss.map (·.1))).flatMap (Qhz ss)
theorem Qdn {β:Type} {L:List (Int×β)} (h:L.Pairwise (fun x y=>x.1≠y.1)):(L.map (·.1)).Nodup:=by
 rw[List.nodup_iff_pairwise_ne,List.pairwise_map];exact h
theorem Qn1 (p:ByteArray) (k:X3) (t:Int):SG ahB (Qfe p k t):=by
 unfold SG Qfe;rw[List.pairwise_map];refine List.Pairwise.imp ?_ (Qbn (Qe k t));intro a b h
 exact Qdc.2 (.inr ⟨rfl,.inr ⟨rfl,h⟩⟩)
theorem Qbu {p:ByteArray} {k:X3} {t:Int} {x:Ad3}:x∈Qfe p k t↔x.1=p∧x.2.1=t∧x.2.2∈Qe k t:=by
 unfold Qfe;rw[List.mem_map];constructor
 · rintro ⟨i,hi,rfl⟩;exact⟨rfl,rfl,Qg.1 hi⟩
 · rintro ⟨h1,h2,h3⟩;exact⟨x.2.2,Qg.2 h3,by rw[← h1,← h2]⟩
theorem Qny {ss:Ses} {l:List Ev} (h:Qpb ss l) (p:ByteArray):SG ahB (Qhz ss p):=by
 unfold SG Qhz;rw[List.pairwise_flatMap];refine⟨fun t _=>Qn1 _ _ _,(Qha (Qdn (h.ticks p))).imp fun hlt x hx y hy => ?_⟩;obtain⟨x1,x2,_⟩:=Qbu.1 hx;obtain⟨y1,y2,_⟩:=Qbu.1 hy
 exact Qdc.2 (.inr ⟨x1.trans y1.symm,.inl (by omega)⟩)
theorem Qbt {ss:Ses} {l:List Ev} (h:Qpb ss l) {p:ByteArray} {x:Ad3}:x∈Qhz ss p↔x.1=p∧∃ e∈l,adE e=x:=by
 unfold Qhz;rw[List.mem_flatMap];constructor
 · rintro ⟨t,_,hx⟩
   obtain⟨h1,h2,h3⟩:=Qbu.1 hx;obtain⟨e,he,e1,e2,e3⟩:=(h.item _ _ _).1 h3
   exact⟨h1,e,he,by unfold adE;rw[e1,e2,e3,← h1,← h2]⟩
 · rintro ⟨h1,e,he,rfl⟩
   refine⟨e.at_,sortI_mem.2 ((h.tick _ _).2 ⟨e,he,h1,rfl⟩),Qbu.2 ⟨h1,rfl,(h.item _ _ _).2 ⟨e,he,h1,rfl,rfl⟩⟩⟩
theorem Qn0 (l:List Ev):Qnz (Qbc l)=Qab ahB (l.map adE):=by
 have h:=Qpz l;refine Qg8 Qo5 ?_ (Ql0 Qo5 _) fun x => ?_
 · unfold SG Qnz
   rw[List.pairwise_flatMap];refine⟨fun p _=>Qny h p,(Qcz (Qi h.keys)).imp fun hlt x hx y hy => ?_⟩;have h1:=((Qbt h).1 hx).1;have h2:=((Qbt h).1 hy).1
   exact Qdc.2 (.inl (by rw[h1,h2];exact hlt))
 · rw[Qeo]
   unfold Qnz;rw[List.mem_flatMap,List.mem_map];constructor
   · rintro ⟨p,_,hx⟩
     exact((Qbt h).1 hx).2
   · rintro ⟨e,he,rfl⟩
     exact⟨e.person,sortT_mem.2 ((h.person _).2 ⟨e,he,rfl⟩),(Qbt h).2 ⟨rfl,e,he,rfl⟩⟩
def Qx (gap:Int) (acc:List Sn) (a:Ad3):List Sn :=
 match acc.getLast? with
 | some g=>if g.person=a.1∧a.2.1-g.to_≤gap then acc.dropLast ++ [⟨a.1,g.from_,a.2.1,Qj5 bLt g.items a.2.2⟩] else acc ++ [⟨a.1,a.2.1,a.2.1,[a.2.2]⟩]
 | none=>acc ++ [⟨a.1,a.2.1,a.2.1,[a.2.2]⟩]
theorem Qcn (gap:Int) (acc:List Sn) (g:Sn) (a:Ad3):Qx gap (acc ++ [g]) a=if g.person=a.1∧a.2.1-g.to_≤gap then acc ++ [⟨a.1,g.from_,a.2.1,Qj5 bLt g.items a.2.2⟩] else(acc ++ [g]) ++ [⟨a.1,a.2.1,a.2.1,[a.2.2]⟩]:=by
 unfold Qx;rw[List.getLast?_append,List.getLast?_singleton,Option.some_or,List.dropLast_concat]
def allL (gap:Int) (L:List Ad3):List Sn:=L.foldl (Qx gap) []
theorem Qe4 (gap:Int) (hg:0≤gap) (p:ByteArray) (t:Int):∀ (its:List ByteArray) (acc:List Sn) (f:Int) (X:List ByteArray),(its.map fun i=>((p,t,i):Ad3)).foldl (Qx gap) (acc ++ [⟨p,f,t,Q5 X⟩])=acc ++ [⟨p,f,t,Q5 (X++its)⟩]
 | [],acc,f,X=>by simp
 | i :: its,acc,f,X=>by
   have ih:=Qe4 gap hg p t its acc f (X ++ [i]);rw[List.map_cons,List.foldl_cons,Qcn,if_pos ⟨rfl,by simp only;omega⟩,Qi6,ih]
   simp
theorem Qol (i:ByteArray):Q5 [i] = [i]:=by simp[Q5,Qgk,sortT]
theorem Qnl (gap:Int) (hg:0≤gap) (p:ByteArray) (k:X3) (t:Int) (hne:Qe k t ≠ []) :
 (∀ (acc:List Sn),(∀ g,acc.getLast? = some g→g.person≠p∨gap<t-g.to_)→(Qfe p k t).foldl (Qx gap) acc=acc ++ [⟨p,t,t,Q5 (Qe k t)⟩]) ∧
 (∀ (acc:List Sn) (f u:Int) (X:List ByteArray),t-u≤gap→(Qfe p k t).foldl (Qx gap) (acc ++ [⟨p,f,u,Q5 X⟩])=acc ++ [⟨p,f,t,Q5 (X++Qe k t)⟩]):=by
 have hex:Q5 (Qe k t) ≠ []:=by
  intro h
  cases hq:Qe k t with
  | nil=>exact hne hq
  | cons y l =>
    have:y∈Q5 (Qe k t):=Qg.2 (by rw[hq];simp);rw[h] at this
    simp at this
 unfold Qfe
 cases hs:Q5 (Qe k t) with
 | nil=>exact absurd hs hex
 | cons i its =>
   have hss:Q5 (i :: its)=Q5 (Qe k t):=by rw[← hs,Qmw]
   refine⟨fun acc hacc => ?_,fun acc f u X hu => ?_⟩
   · have h1:Qx gap acc (p,t,i)=acc ++ [⟨p,t,t,Q5 [i]⟩]:=by
      unfold Qx;rw[Qol]
      cases hl:acc.getLast? with
      | none=>rfl
      | some g =>
        simp only;rw[if_neg];rintro ⟨h2,h3⟩;rcases hacc g hl with h | h
        · exact h h2
        · have h3:t-g.to_≤gap:=h3
          omega
     rw[List.map_cons,List.foldl_cons,h1,Qe4 gap hg];rw[show [i]++its=i :: its from rfl,hss,hs]
   · rw[List.map_cons,List.foldl_cons,Qcn,if_pos ⟨rfl,hu⟩,Qi6,Qe4 gap hg]
     have:Q5 (X ++ [i]++its)=Q5 (X++Qe k t):=Qcj fun x=>by
      have hx:x∈i :: its↔x∈Qe k t:=by rw[← hs];exact Qg
      have h4:x∈X ++ [i]++its↔x∈X∨x∈i :: its:=by simp[or_assoc]
      rw[h4,hx,List.mem_append]
     rw[this]
theorem Qjp (gap:Int) (hg:0≤gap) (p:ByteArray) (k:X3) (acc:List Sn) (hacc:∀ g,acc.getLast? = some g→g.person≠p):∀ ts:List Int,(∀ t∈ts,Qe k t ≠ [])→(ts.flatMap (Qfe p k)).foldl (Qx gap) acc=acc++(Qaq gap k ts).map (Qnj p):=by
 refine snoc_ind (fun _=>by simp[Qaq]) fun ts t ih h => ?_
 have ih:=ih fun x hx=>h x (by simp[hx])
 obtain⟨hA,hB⟩:=Qnl gap hg p k t (h t (by simp));rw[List.flatMap_append,List.foldl_append,ih,Qa2];simp only[List.flatMap_cons,List.flatMap_nil,List.append_nil];generalize Qaq gap k ts=G;clear ih;unfold Xh
 cases hG:G.getLast? with
 | none =>
   have:G = []:=by simpa using hG
   subst this;simp only[List.map_nil,List.append_nil,List.map_cons];rw[hA acc fun g hl => .inl (hacc g hl)]
   rfl
 | some g =>
   obtain⟨G',rfl⟩:∃ G',G=G' ++ [g]:=by
    have:=List.getLast?_eq_some_iff.1 hG;obtain⟨ys,h⟩:=this
    exact⟨ys,h⟩
   simp only[List.dropLast_concat]
   by_cases hc:gap<t-g.2.1
   · rw[if_pos hc,hA _ fun g' hl => ?_]
     · simp[Qnj]
     · rw[List.map_append,← List.append_assoc,List.map_cons,List.map_nil,List.getLast?_append,List.getLast?_singleton,Option.some_or] at hl
       injection hl with hl;subst hl
       exact .inr hc
   · rw[if_neg hc,List.map_append,← List.append_assoc,List.map_cons,List.map_nil]
     rw[show Qnj p g=⟨p,g.1,g.2.1,Q5 g.2.2⟩ from rfl,hB _ _ _ _ (by omega),List.map_append,List.append_assoc]
     rfl
theorem Qmy {gap:Int} {ss:Ses} {p:ByteArray} {x:Sn} (h:x∈Qag gap ss p):x.person=p:=by
 unfold Qag at h;obtain⟨g,_,rfl⟩:=List.mem_map.1 h
 rfl
theorem Qeh (gap:Int) (hg:0≤gap) (ss:Ses) (hne:∀ p t,t∈(tks ss p).map (·.1)→Qe (tks ss p) t ≠ []):∀ (ps:List ByteArray) (acc:List Sn),ps.Nodup→(∀ g,acc.getLast? = some g→g.person∉ps)→(ps.flatMap (Qhz ss)).foldl (Qx gap) acc=acc++ps.flatMap (Qag gap ss)
 | [],acc,_,_=>by simp
 | p :: ps,acc,hn,hl=>by
   rw[List.nodup_cons] at hn;rw[List.flatMap_cons,List.foldl_append,List.flatMap_cons];have h1:(Qhz ss p).foldl (Qx gap) acc=acc++Qag gap ss p:=Qjp gap hg p (tks ss p) acc (fun g hg he=>hl g hg (by rw[he];simp)) _ fun t ht=>hne p t (sortI_mem.1 ht)
   rw[h1,Qeh gap hg ss hne ps _ hn.2 ?_,List.append_assoc];intro g hgl;rw[List.getLast?_append] at hgl
   cases hq:(Qag gap ss p).getLast? with
   | none =>
     rw[hq,Option.none_or] at hgl
     exact fun hm=>hl g hgl (by simp[hm])
   | some x =>
     rw[hq,Option.some_or] at hgl;injection hgl with hgl;subst hgl;rw[Qmy (List.mem_of_getLast? hq)]
     exact hn.1
theorem Qmz (gap:Int) (hg:0≤gap) (l:List Ev):allL gap (Qab ahB (l.map adE))=Qb3 gap (Qbc l):=by
 have h:=Qpz l;rw[← Qn0];unfold allL Qnz Qb3;rw[Qeh gap hg (Qbc l) (fun p t ht hne => ?_) _ [] ((sortT_perm _).nodup_iff.2 (Qi h.keys)) (by simp),List.nil_append];obtain⟨e,he,e1,e2⟩:=(h.tick p t).1 ht;have:=(h.item p t e.item).2 ⟨e,he,e1,e2,rfl⟩;rw[hne] at this
 simp at this
theorem Qg1 (r:ByteArray):restOf (semi r)=r:=by
 have hl:(semi r).data.toList=59 :: r.data.toList:=by unfold semi;simp
 have hp:placeN (semi r)=some 0:=by unfold placeN;rw[hl];rfl
 unfold restOf;rw[hp];simp only
 apply ba_list
 have h2:∀ s:ByteArray,s.toList=s.data.toList:=fun s=>by rw[ByteArray.toList_eq]
 rw[h2,h2,extract_list,hl]
 have:(semi r).size=r.size+1:=by
  have:=congrArg List.length hl
  simpa using this
 rw[this]
 simp
 exact List.take_of_length_le (by simp)
theorem Qm7 (s:ByteArray):tagsOf (semi (restOf s))=tagsOf s:=by rw[rest_tags,Qg1,rest_tags s]
theorem Qe1:tagsOf (semi ⟨#[]⟩) = []:=by rw[rest_tags,Qg1,if_pos rfl]
def Qqf (l:List ByteArray):Prop:=(∀ t∈l,isName t=true)∧SG bLt l∧l.length≤8
theorem Qp6 {l:List ByteArray} (h:tagsOk l=true) (h8:l.length≤8):Qqf l:=by
 unfold tagsOk at h;rw[List.all_eq_true] at h
 have hk:∀ i (hi:i<l.length),isName l[i]=true∧(i=0∨bLt (l.getD (i-1) .empty) l[i]=true):=fun i hi=>by
  have:=h i (List.mem_range.2 hi);unfold tagOk at this;rw[getD_lt hi] at this
  simpa using this
 refine⟨fun t ht => ?_,?_,h8⟩
 · obtain⟨i,hi,rfl⟩:=List.getElem_of_mem ht
   exact(hk i hi).1
 · have hs:∀ d i (hi:i+d+1<l.length),bLt (l[i]'(by omega)) (l[i+d+1]'hi)=true:=by
    intro d
    induction d with
    | zero =>
      intro i hi;have:=(hk (i+1) hi).2;rw[Nat.add_sub_cancel,getD_lt (by omega)] at this;rcases this with h | h
      · omega
      · exact h
    | succ d ih =>
      intro i hi;have h1:=ih i (by omega);have:=(hk (i+(d+1)+1) hi).2;rw[show i+(d+1)+1-1=i+d+1 by omega,getD_lt (by omega)] at this;rcases this with h | h
      · omega
      · exact bLt_trans h1 h
   unfold SG;rw[List.pairwise_iff_getElem];intro i j hi hj hij;have:=hs (j-i-1) i (by omega);have e:i+(j-i-1)+1=j:=by omega
   simp only[e] at this
   exact this
theorem Qp1 (name:ByteArray):∀ es:List Ev,(∀ e∈es,mayB e=true)→Qqf (tagsOf (semi (Qku name es).item.tags)):=by
 refine snoc_ind (fun _ => ?_) fun es e ih h => ?_
 · show Qqf (tagsOf (semi ⟨#[]⟩))
   rw[Qe1]
   exact⟨by simp,List.Pairwise.nil,by simp⟩
 · have ih:=ih fun x hx=>h x (by simp[hx])
   have he:=h e (by simp);rw[Qez];unfold stStep
   split
   · next hk =>
     show Qqf (tagsOf (semi (restOf e.text)))
     rw[Qm7]
     have hl:labelB e.text=true:=by
      rcases kind_cases (may_iff.1 he).kind with hq | hq | hq | hq | hq | hq | hq
      all_goals first | (exfalso;omega) | exact hq.2.2.2.1
     unfold labelB at hl;simp only[Bool.and_eq_true] at hl
     exact Qp6 hl.2.1 (by simpa using hl.2.2)
   · split
     · exact ih
     · exact ih
theorem Qpn (name:ByteArray) (es:List Ev) (h:∀ e∈es,mayB e=true):Qqf (tagsOf (semi (Qq6 name es).tags)):=by
 unfold Qq6
 split
 · show Qqf (tagsOf (semi ⟨#[]⟩))
   rw[Qe1]
   exact⟨by simp,List.Pairwise.nil,by simp⟩
 · exact Qp1 name es h
theorem Qit (tg:List ByteArray):(tagsD tg).Nodup:=by
 have:∀ (tg l:List ByteArray),l.Nodup→(tg.foldl tagStep l).Nodup:=by
  intro tg
  induction tg with
  | nil=>intro l h;exact h
  | cons t tg ih =>
    intro l h;rw[List.foldl_cons];refine ih _ ?_;unfold tagStep
    split
    · next hc =>
      have hn:t∉l:=by
       intro hm;have:=(Lib.containsS_iff _ _).2 hm;rw[this] at hc
       simp at hc
      rw[List.nodup_append];refine⟨h,by simp,?_⟩;intro a ha b hb;rw[List.mem_singleton] at hb;subst hb
      exact fun e=>hn (e ▸ ha)
    · exact h
 exact this tg [] List.nodup_nil
theorem Qm9 {z:List Ev} (h:∀ e∈z,mayB e=true):∀ e∈thingsE z,mayB e=true:=fun e he=>h e (List.mem_filter.1 he).1
theorem Qkx {z:List Ev} (h:Rise z):Rise (thingsE z):=h.sublist List.filter_sublist
theorem Qnt (width:Int) (z:List Ev) (e:Ev):(countAll width (z ++ [e])).rs=(countAll width z).rs++if peB e=true then [(e,tagsD (tagsAt (thingsE z) e))] else []:=by
 have hc:=(count_parts width z).1;rw[countAll_snoc];unfold countW peB thB
 by_cases h1:e.kind=11∨e.kind=12∨e.kind=13
 · simp[h1]
 · rw[if_neg h1]
   by_cases h2:e.kind=14
   · simp[h2]
   · rw[if_neg h2,← hc]
     simp only[h1,h2,decide_false,Bool.not_false,Bool.and_self,if_true]
     split <;> rfl
theorem Qdg (width:Int):∀ z:List Ev,Rise z→(∀ e∈z,mayB e=true)→∀ r∈(countAll width z).rs,mayB r.1=true∧r.2.Nodup∧r.2.length≤8:=by
 refine snoc_ind (fun _ _ r hr=>by simp[countAll,Cts0] at hr) fun z e ih hR hm => ?_
 have hr1:Rise z:=(List.pairwise_append.1 hR).1;have hm1:∀ x∈z,mayB x=true:=fun x hx=>hm x (by simp[hx])
 have ih:=ih hr1 hm1;rw[Qnt];intro r hr;rcases List.mem_append.1 hr with hr | hr
 · exact ih r hr
 · split at hr
   · rw[List.mem_singleton] at hr
     subst hr;refine⟨hm e (by simp),Qit _,Nat.le_trans (tagsD_len _) ?_⟩;unfold tagsAt
     split
     · rw[Qlf (Qkx hr1)]
       exact(Qpn e.item _ fun y hy=>Qm9 hm1 y (List.mem_filter.1 hy).1).2.2
     · simp
   · simp at hr
abbrev Ct:=ByteArray×Int
def Qea (x:Ct):List Value := [.string x.1,.int .i64 x.2]
theorem Qe8 (x:Ct):(Qea x).length=2:=rfl
theorem Qe9 (x:Ct):∀ u∈Qea x,u.oneCell'=true:=by simp[Qea,Value.oneCell']
theorem Qqz:Qf7 Tryz.prog 73 78 Qea 2 24:=⟨by kernel_rfl,⟨_,ty78_ok,rfl,rfl⟩,by78,by decide,by decide,Qe8,Qe9⟩
theorem Qo8 {z:List Ev} (h:∀ e∈z,mayB e=true):∀ e∈z.filter wpB,mayB e=true:=fun e he=>h e (List.mem_filter.1 he).1
theorem Ql9 {e:Ev} (h:mayB e=true):0≤e.at_∧e.at_≤1099511627776:=by
 have:=(may_iff.1 h).at_
 exact this
theorem Qoz {c:Cfg} (h:cfgB c=true):(1≤c.half∧c.half≤1099511627776)∧(1≤c.width∧c.width≤1099511627776)∧(1≤c.span∧c.span≤1099511627776)∧c.span.tmod c.width=0∧(0≤c.gap∧c.gap≤1099511627776)∧(0≤c.floor∧c.floor≤1048576)∧(0≤c.crowd∧c.crowd≤1048576):=by
 unfold cfgB inB at h;simp only[Bool.and_eq_true,decide_eq_true_eq] at h;obtain⟨⟨⟨⟨⟨⟨h1,h2⟩,h3⟩,h4⟩,h5⟩,h6⟩,h7⟩:=h
 exact⟨h1,h2,h3,h4,h5,h6,h7⟩
theorem Qlw {n:Int} (h:1≤n∧n≤1099511627776):halfN n=n:=by unfold halfN;omega
theorem Qbs {t width:Int} (hw:1≤width) (h:-4398046511104≤t∧t≤4398046511104) : -4398046511104≤t/width∧t/width≤4398046511104:=by
 constructor
 · rw[Int.le_ediv_iff_mul_le (by omega)]
   have : -4398046511104*width ≤ -4398046511104*1:=Int.mul_le_mul_of_nonpos_left (by omega) (by omega);omega
 · rcases Int.lt_or_le t 0 with h1 | h1
   · have:=Int.ediv_neg_of_neg_of_pos h1 (show 0<width by omega)
     omega
   · have:=Int.ediv_le_self width h1
     omega
theorem TagsOk.ext {w w1:World} {T:Nat→Prop} {D:List (Ev×SV)} {rs:List Row} (h:TagsOk w T D rs) (hT:∀ k,T k→k<w.heap.size) (hx:Ext w w1):TagsOk w1 T D rs :=
 ⟨h.len,fun i d r hd hr=>by
  obtain⟨h1,h2,h3,h4⟩:=h.ev i d r hd hr
  exact⟨h1,h2,h3.ext hx,h4⟩⟩
theorem Qo {w w1 w2:World} {T:Nat→Prop} (hx:Ext w w1) (hT:∀ k,T k→w.heap.size≤k) (hM:Mod T w1 w2):Ext w w2 :=
 (mod_trans_grow (Mod.of_ext (S:=fun _=>False) hx) (hM.mono fun k _ hk => .inr (hT k hk))).ext fun _ _ h=>h
def Qax (c:Cfg) (z:List Ev):List Sn:=Qb3 (gapN c.gap) (Qbc (z.filter wpB))
def Qig (c:Cfg) (now:Int):Int:=now-now.tmod (halfN c.width)
end Go.Proofs.YtagijlhciclafaaGreatDoor
