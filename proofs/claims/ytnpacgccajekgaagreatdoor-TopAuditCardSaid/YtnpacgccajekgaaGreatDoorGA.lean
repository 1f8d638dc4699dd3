import Derived.OrdersHeld
import Derived.Below
import Derived.Deep.LoopGhost
import Derived.KernelRfl
import Derived.Laws.Cells
import Derived.Laws.Tables
import Derived.Laws.Entries
import Derived.Laws.Slices
import Derived.WideShapes
import Derived.WalkLawsBesides
import Derived.Great.BuildSlice
import Derived.Laws.StructEq
set_option linter.all false
namespace Go
abbrev Vj:Int→Value:=Value.int .i64
abbrev Pj(b:Nat):Value:=.pointer (some ⟨b,0,none⟩)
abbrev Bj:=ByteArray
theorem Om{p:Prop}(h:p:=by omega):p:=h
theorem Su{p q:Prop}(h:q)(e:q→p:=by intro h;simpa using h):p:=e h
theorem Sj{p:Prop}(h:p:=by simp only;omega):p:=h
theorem Kr{p:Prop}(h:p:=by kernel_rfl):p:=h
theorem Ku{p:World→Prop}(h:∀w,p w:=by intro w;kernel_rfl):∀w,p w:=h
theorem Cj{α:Type}{a b:α}(h:a=b:=by kernel_rfl):some a=some b:=congrArg some h
theorem Za:type_of% @List.take_succ_eq_append_getElem:=@List.take_succ_eq_append_getElem
theorem Zb:type_of% @List.getElem?_eq_getElem:=@List.getElem?_eq_getElem
theorem Zc:type_of% @List.length_filter_le:=@List.length_filter_le
theorem Zd:type_of% @List.take_of_length_le:=@List.take_of_length_le
theorem Ze:type_of% @List.mem_filter:=@List.mem_filter
theorem Zf:type_of% @Nat.le_refl:=@Nat.le_refl
theorem Zg:type_of% @List.length_map:=@List.length_map
theorem Zh:type_of% @List.mem_map:=@List.mem_map
theorem Zi:type_of% @List.getElem?_eq_some_iff:=@List.getElem?_eq_some_iff
theorem Zj:type_of% @List.mem_append:=@List.mem_append
theorem Zk:type_of% @Bool.and_eq_true:=@Bool.and_eq_true
theorem Zl:type_of% @List.mem_singleton:=@List.mem_singleton
theorem Zm:type_of% @List.map_cons:=@List.map_cons
theorem Zn:type_of% @List.length_take:=@List.length_take
theorem Zo:type_of% @List.length_append:=@List.length_append
theorem Zp:type_of% @List.map_append:=@List.map_append
theorem Zq:type_of% @List.filter_append:=@List.filter_append
theorem Zr:type_of% @List.mem_cons:=@List.mem_cons
theorem Zt:type_of% @Nat.zero_le:=@Nat.zero_le
theorem Zu:type_of% @List.getElem_mem:=@List.getElem_mem
theorem Zv:type_of% @List.foldl_append:=@List.foldl_append
theorem Zw:type_of% @Nat.le_trans:=@Nat.le_trans
theorem Zx:type_of% @List.length_cons:=@List.length_cons
theorem Zy:type_of% @List.getElem?_append_left:=@List.getElem?_append_left
theorem Zz:type_of% @List.map_map:=@List.map_map
theorem Z4:type_of% @List.append_nil:=@List.append_nil
theorem Z5:type_of% @List.pairwise_map:=@List.pairwise_map
theorem Z7:type_of% @List.pairwise_append:=@List.pairwise_append
theorem Z8:type_of% @List.getElem?_append_right:=@List.getElem?_append_right
theorem Z9:type_of% @List.findIdx?_eq_some_iff_getElem:=@List.findIdx?_eq_some_iff_getElem
theorem Zaa:type_of% @List.all_eq_true:=@List.all_eq_true
theorem Zab:type_of% @List.pairwise_cons:=@List.pairwise_cons
theorem Zac:type_of% @List.append_assoc:=@List.append_assoc
theorem Zad:type_of% @List.length_pos_iff:=@List.length_pos_iff
theorem Zae:type_of% @List.length_nil:=@List.length_nil
theorem Zaf:type_of% @List.getElem?_map:=@List.getElem?_map
theorem Zag:type_of% @List.take_append_drop:=@List.take_append_drop
theorem Zah:type_of% @List.nil_append:=@List.nil_append
theorem Zai:type_of% @Bool.not_eq_true:=@Bool.not_eq_true
theorem Zaj:type_of% @List.nodup_iff_pairwise_ne:=@List.nodup_iff_pairwise_ne
theorem Zak:type_of% @List.drop_eq_getElem_cons:=@List.drop_eq_getElem_cons
theorem Zal:type_of% @Bool.false_eq_true:=@Bool.false_eq_true
theorem Zam:type_of% @Bool.not_eq_true':=@Bool.not_eq_true'
theorem Zan:type_of% @List.eq_nil_of_length_eq_zero:=@List.eq_nil_of_length_eq_zero
theorem Zao:type_of% @List.length_eq_zero_iff:=@List.length_eq_zero_iff
theorem Zap:type_of% @List.mem_of_getElem?:=@List.mem_of_getElem?
theorem Zaq:type_of% @List.foldl_cons:=@List.foldl_cons
theorem Zar:type_of% @List.length_singleton:=@List.length_singleton
theorem Zas:type_of% @Option.getD_some:=@Option.getD_some
theorem Zat:type_of% @Nat.lt_of_lt_of_le:=@Nat.lt_of_lt_of_le
theorem Zau:type_of% @List.filter_cons:=@List.filter_cons
theorem Zav:type_of% @List.findIdx?_eq_none_iff:=@List.findIdx?_eq_none_iff
theorem Zaw:type_of% @Int.mul_le_mul_of_nonneg_right:=@Int.mul_le_mul_of_nonneg_right
theorem Zax:type_of% @List.filter_sublist:=@List.filter_sublist
theorem Zay:type_of% @List.mem_of_mem_take:=@List.mem_of_mem_take
theorem Zaz:type_of% @List.pairwise_iff_getElem:=@List.pairwise_iff_getElem
theorem Za0:type_of% @List.flatMap_cons:=@List.flatMap_cons
theorem Za1:type_of% @List.cons_append:=@List.cons_append
theorem Za2:type_of% @List.getElem_of_mem:=@List.getElem_of_mem
theorem Za3:type_of% @List.mem_cons_of_mem:=@List.mem_cons_of_mem
theorem Za4:type_of% @List.size_toArray:=@List.size_toArray
theorem Za5:type_of% @Nat.eq_of_beq_eq_true:=@Nat.eq_of_beq_eq_true
theorem Za6:type_of% @Nat.zero_add:=@Nat.zero_add
theorem Za7:type_of% @List.mem_cons_self:=@List.mem_cons_self
theorem Za8:type_of% @List.sum_cons:=@List.sum_cons
theorem Za9:type_of% @List.Perm.refl:=@List.Perm.refl
theorem Zba:type_of% @Nat.ne_of_beq_eq_false:=@Nat.ne_of_beq_eq_false
theorem Zbb:type_of% @Int.toNat_natCast:=@Int.toNat_natCast
theorem Zbc:type_of% @Option.some.inj:=@Option.some.inj
theorem Zbd:type_of% @ByteArray.size_append:=@ByteArray.size_append
theorem Zbe:type_of% @Int.tmod_eq_emod_of_nonneg:=@Int.tmod_eq_emod_of_nonneg
theorem Zbf:type_of% @List.pairwise_mergeSort:=@List.pairwise_mergeSort
theorem Zbg:type_of% @Bool.or_eq_true:=@Bool.or_eq_true
theorem Zbh:type_of% @List.mem_flatMap:=@List.mem_flatMap
theorem Zbi:type_of% @List.length_set:=@List.length_set
theorem Zbj:type_of% @List.sum_append:=@List.sum_append
theorem Zbk:type_of% @List.map_nil:=@List.map_nil
theorem Zbl:type_of% @Nat.mul_one:=@Nat.mul_one
theorem Zbm:type_of% @List.getElem?_take:=@List.getElem?_take
theorem Zbn:type_of% @List.flatMap_append:=@List.flatMap_append
theorem Zbo:type_of% @List.eq_nil_or_concat:=@List.eq_nil_or_concat
theorem Zbp:type_of% @List.nodup_cons:=@List.nodup_cons
theorem Zbq:type_of% @List.map_congr_left:=@List.map_congr_left
theorem Zbr:type_of% @List.filter_cons_of_neg:=@List.filter_cons_of_neg
theorem Zbs:type_of% @List.exists_cons_of_ne_nil:=@List.exists_cons_of_ne_nil
theorem Zbt:type_of% @List.getD_eq_getElem?_getD:=@List.getD_eq_getElem?_getD
theorem Zbu:type_of% @List.mem_of_getLast?:=@List.mem_of_getLast?
theorem Zbv:type_of% @Nat.succ_mul:=@Nat.succ_mul
theorem Zbw:type_of% @Nat.lt_of_le_of_lt:=@Nat.lt_of_le_of_lt
theorem Zbx:type_of% @Array.getElem?_eq_none:=@Array.getElem?_eq_none
theorem Zby:type_of% @List.mergeSort_perm:=@List.mergeSort_perm
theorem Zbz:type_of% @Nat.le_of_ble_eq_true:=@Nat.le_of_ble_eq_true
theorem Zb0:type_of% @Option.some.injEq:=@Option.some.injEq
theorem Zb1:type_of% @Bool.and_eq_false_iff:=@Bool.and_eq_false_iff
theorem Zb2:type_of% @Int.mul_le_mul:=@Int.mul_le_mul
theorem Zb3:type_of% @List.getElem?_drop:=@List.getElem?_drop
theorem Zb4:type_of% @List.filter_cons_of_pos:=@List.filter_cons_of_pos
theorem Zb5:type_of% @Nat.mul_le_mul_right:=@Nat.mul_le_mul_right
theorem Zb6:type_of% @Nat.lt_or_ge:=@Nat.lt_or_ge
theorem Zb7:type_of% @List.any_eq_true:=@List.any_eq_true
theorem Zb8:type_of% @List.drop_of_length_le:=@List.drop_of_length_le
theorem Zb9:type_of% @List.ext_getElem?:=@List.ext_getElem?
theorem Zca:type_of% @List.filter_eq_self:=@List.filter_eq_self
theorem Zcb:type_of% @List.mem_take_iff_getElem:=@List.mem_take_iff_getElem
theorem Zcc:type_of% @Option.map_some:=@Option.map_some
theorem Zcd:type_of% @List.set_append_right:=@List.set_append_right
theorem Zce:type_of% @Array.getElem?_modify:=@Array.getElem?_modify
theorem Zcf:type_of% @Nat.add_zero:=@Nat.add_zero
theorem Zcg:type_of% @List.getElem?_eq_none:=@List.getElem?_eq_none
theorem Zch:type_of% @List.range_succ:=@List.range_succ
theorem Zci:type_of% @Array.ext':=@Array.ext'
theorem Zcj:type_of% @Option.isSome_iff_exists:=@Option.isSome_iff_exists
theorem Zck:type_of% @List.take_length:=@List.take_length
theorem Zcl:type_of% @List.not_mem_nil:=@List.not_mem_nil
theorem Zcm:type_of% @Array.replicate_succ:=@Array.replicate_succ
theorem Zcn:type_of% @Array.replicate_zero:=@Array.replicate_zero
theorem Zco:type_of% @List.takeWhile_append_of_pos:=@List.takeWhile_append_of_pos
theorem Zcp:type_of% @Array.size_modify:=@Array.size_modify
theorem Zcq:type_of% @Array.getD_eq_getD_getElem?:=@Array.getD_eq_getD_getElem?
theorem Zcr:type_of% @List.append_toArray:=@List.append_toArray
theorem Zcs:type_of% @ByteArray.size_extract:=@ByteArray.size_extract
theorem Zct:type_of% @List.filter_eq_nil_iff:=@List.filter_eq_nil_iff
theorem Zcu:type_of% @List.takeWhile_sublist:=@List.takeWhile_sublist
theorem Zcv:type_of% @Int.fdiv_eq_ediv_of_nonneg:=@Int.fdiv_eq_ediv_of_nonneg
theorem Zcw:type_of% @Int.tdiv_eq_ediv_of_nonneg:=@Int.tdiv_eq_ediv_of_nonneg
theorem Zcx:type_of% @Int.ediv_le_self:=@Int.ediv_le_self
theorem Zcy:type_of% @Array.getElem?_toList:=@Array.getElem?_toList
theorem Zcz:type_of% @Bool.not_true:=@Bool.not_true
theorem Zc0:type_of% @List.Perm.append_left:=@List.Perm.append_left
theorem Zc1:type_of% @Int.mul_nonneg:=@Int.mul_nonneg
theorem Zc2:type_of% @List.getElem?_modify:=@List.getElem?_modify
theorem Zc3:type_of% @List.getLast?_append:=@List.getLast?_append
theorem Zc4:type_of% @List.cons.injEq:=@List.cons.injEq
theorem Zc5:type_of% @List.nodup_append:=@List.nodup_append
theorem Zc6:type_of% @List.getElem?_set:=@List.getElem?_set
theorem Zc7:type_of% @Bool.eq_iff_iff:=@Bool.eq_iff_iff
theorem Zc8:type_of% @List.take_sublist:=@List.take_sublist
theorem Zc9:type_of% @List.filter_nil:=@List.filter_nil
theorem Zda:type_of% @List.filter_congr:=@List.filter_congr
theorem Zdb:type_of% @List.push_toArray:=@List.push_toArray
theorem Zdc:type_of% @Nat.add_comm:=@Nat.add_comm
theorem Zdd:type_of% @Int.toNat_of_nonneg:=@Int.toNat_of_nonneg
theorem Zde:type_of% @Bool.not_false:=@Bool.not_false
theorem Zdf:type_of% @Int.ediv_nonneg:=@Int.ediv_nonneg
theorem Zdg:type_of% @Bool.and_true:=@Bool.and_true
end Go
namespace Go.Se
open Go.RowKit
abbrev Env:=List (Nat×Value)
abbrev SP:=List (Nat×Bool)
abbrev Loc:=List (Nat×SP×Value)
def nth{α:Type}:List α->Nat->Option α
 |[],_=>none
 |x::_,0=>some x
 |_::a,n+1=>nth a n
theorem Qa8{α:Type}:∀(l:List α) (n:Nat),nth l n=l[n]?
 |[],n=>by simp[nth]
 |x::l,0=>by simp[nth]
 |x::l,n+1=>by simp[nth,Qa8 l n]
def get:Env->Nat->Option Value
 |[],_=>none
 |(t,v)::a,s=>bif Nat.beq t s then some v else get a s
def Qyo:Loc->Nat->Option (SP×Value)
 |[],_=>none
 |(t,q,v)::a,s=>bif Nat.beq t s then some (q,v) else Qyo a s
def look(b:Env)(c:Loc)(t:Nat):Option (SP×Value):=
 match Qyo c t with
 |some a=>some a
 |none=>match get b t with
  |some v=>some ([],v)
  |none=>none
def cnd(a:Env)(d:Loc):SP->Bool
 |[]=>true
 |(t,b)::p=>(match look a d t with|some (_,.bool c)=>c == b|_=>false)&&cnd a d p
def Und(d:Env)(e:Loc):SP->Prop->Prop
 |[],a=>a
 |(t,b)::p,a=>match look d e t with
  |some (_,.bool c)=>c=b->Und d e p a
  |_=>True
def Hol(a:Env)(d:Loc):SP->Prop
 |[]=>True
 |(t,b)::p=>match look a d t with
  |some (_,.bool c)=>c=b/\Hol a d p
  |_=>False
theorem Q1s(e f)(Φ:Prop):∀p:SP,Und e f p Φ↔(cnd e f p=true->Φ)
 |[]=>by simp[Und,cnd]
 |(t,b)::p=>by
  have g:=Q1s e f Φ p;simp only[Und,cnd];split
  .rename_i c _;rw[g];simp only[Zk,beq_iff_eq];exact⟨fun h ⟨a,d⟩=>h a d,fun h a d=>h ⟨a,d⟩⟩
  .rename_i h;simp
theorem Qzq(a c):∀p:SP,Hol a c p↔cnd a c p=true
 |[]=>by simp[Hol,cnd]
 |(t,b)::p=>by
  have d:=Qzq a c p;simp only[Hol,cnd];split
  .rw[d];simp
  .simp
def Xj1:SP->SP->Bool
 |[],[]=>true
 |(t,b)::p,(s,c)::q=>bif Nat.beq t s then(bif (b == c) then Xj1 p q else false) else false
 |_,_=>false
theorem Xcy:∀{p q:SP},Xj1 p q=true->p=q
 |[],[],_=>rfl
 |[],_::_,h=>by simp[Xj1]at h
 |_::_,[],h=>by simp[Xj1]at h
 |(t,b)::p,(s,c)::q,h=>by
  simp only[Xj1]at h;cases a:Nat.beq t s<;>simp only[a,cond_true,cond_false,Zal]at h
  cases d:(b == c)<;>simp only[d,cond_true,cond_false,Zal]at h
  rw[Za5 a,eq_of_beq d,Xcy h]
def suf(q:SP):SP->Bool
 |[]=>match q with|[]=>true|_=>false
 |x::p=>bif Xj1 q (x::p) then true else suf q p
theorem Xc7{d e q}:∀{p:SP},suf q p=true->cnd d e p=true->cnd d e q=true
 |[],h,_=>by
  cases q with
  |nil=>rfl
  |cons x q=>simp[suf]at h
 |x::p,h,a=>by
  simp only[suf]at h;cases c:Xj1 q (x::p)<;>simp only[c,cond_true,cond_false]at h
  .obtain⟨t,b⟩:=x;simp only[cnd,Zk]at a;exact Xc7 h a.2
  .rw[Xcy c];exact a
def evO(b:Env)(c:Loc)(p:SP):Operand->Option Value
 |.tmp t=>match look b c t with
  |some (q,v)=>bif suf q p then some v else none
  |none=>none
 |.const v=>some v
 |.global a=>some (.pointer (some ⟨a,0,none⟩))
 |.func f=>some (.func (.func f) #[] #[])
structure Ag(N:Nat)(a:Act)(Γ:Env)(Δ:Loc)(G:List Nat):Prop where
 defers:a.defers=[]
 size:a.tmps.size=N
 env:∀t v,get Γ t=some v->a.tmps[t]?=some v
 loc:∀t q v,Qyo Δ t=some (q,v)->a.tmps[t]?=some (if cnd Γ Δ q=true then v else undef)
 scope:∀t q v,Qyo Δ t=some (q,v)->∀x∈q,x.1∈G
theorem Ag.look{N a c d G}(h:Ag N a c d G){t q v}(b:Se.look c d t=some (q,v)) :
 a.tmps[t]?=some (if cnd c d q=true then v else undef):=by
 unfold Se.look at b
 cases e:Qyo d t with
 |some g =>
  rw[e]at b;obtain rfl:g=(q,v):=by simpa using b
  exact h.loc t q v e
 |none =>
  rw[e]at b
  cases f:get c t with
  |none=>rw[f]at b;simp at b
  |some u =>
   rw[f]at b;obtain⟨rfl,rfl⟩:[]=q/\u=v:=by simpa using b
   rw[h.env t u f];simp[cnd]
theorem Ag.ev{N a c d G}(h:Ag N a c d G){p x v}(b:evO c d p x=some v)(j:cnd c d p=true) :
 a.eval x=v:=by
 cases x with
 |tmp t =>
  simp only[evO]at b
  cases e:Se.look c d t with
  |none=>rw[e]at b;simp at b
  |some k =>
   obtain⟨q,u⟩:=k;rw[e]at b;cases i:suf q p<;>simp[i]at b
   subst b;have:=h.look e;rw[if_pos (Xc7 i j)]at this;simp[Act.eval,Zcq,this]
 |const u=>simpa [evO,Act.eval] using b
 |global g=>simpa [evO,Act.eval] using b
 |func f=>simpa [evO,Act.eval] using b
theorem Qno{t s v}{a:Env}:get ((t,v)::a) s=if t=s then some v else get a s:=by
 simp only[get]
 by_cases h:t=s
 .subst h;simp
 .have:Nat.beq t s=false:=by rw[<- Zai];exact fun e=>h (Za5 e)
  simp[this,h]
theorem Qpd{t s q v}{a:Loc}:Qyo ((t,q,v)::a) s=if t=s then some (q,v) else Qyo a s:=by
 simp only[Qyo]
 by_cases h:t=s
 .subst h;simp
 .have:Nat.beq t s=false:=by rw[<- Zai];exact fun e=>h (Za5 e)
  simp[this,h]
theorem Qj6{a c d e}:∀{p:SP},(∀x∈p,look c e x.1=look a d x.1)->cnd c e p=cnd a d p
 |[],_=>rfl
 |(t,b)::p,h=>by
  simp only[cnd];rw[h (t,b) (by simp),Qj6 (p:=p) fun x hx=>h x (by simp[hx])]
def Xlj(d:Nat):List Nat->Bool
 |[]=>false
 |t::G=>bif Nat.beq t d then true else Xlj d G
theorem Q20{d}:∀{G:List Nat},Xlj d G=false->d∉G
 |[],_=>by simp
 |t::G,h=>by
  simp only[Xlj]at h;cases a:Nat.beq t d<;>simp only[a,cond_true,cond_false]at h
  .have:t≠d:=Zba a;simp only[Zr,not_or];exact⟨fun e=>this e.symm,Q20 h⟩
  .cases h
def guards(G:List Nat):SP->List Nat
 |[]=>G
 |(t,_)::p=>t::guards G p
theorem Qf9{G}:∀{p:SP} {s:Nat},s∈guards G p↔s∈G\/∃x∈p,x.1=s
 |[],s=>by simp[guards]
 |(t,b)::p,s=>by
  simp only[guards,Zr,Qf9 (p:=p)];constructor
  .rintro (rfl|h|⟨x,hx,e⟩)
   .exact .inr ⟨(s,b),by simp⟩
   .exact .inl h
   .exact .inr ⟨x,by simp[hx],e⟩
  .rintro (h|⟨x,rfl|hx,e⟩)
   .exact .inr (.inl h)
   .exact .inl e.symm
   .exact .inr (.inr ⟨x,hx,e⟩)
def Xhq(N:Nat)(p:SP)(c:Option Nat)(v:Value)(a:Env)(b:Loc)(G:List Nat)(K:Env->Loc->List Nat->Prop):Prop:=
 match c with
 |none=>K a b G
 |some d =>
  bif Nat.blt d N then
   bif Xlj d (guards G p) then False else
   match p with
   |[]=>match Qyo b d with
    |none=>K ((d,v)::a) b G
    |some _=>False
   |x::q=>match get a d with
    |none=>K a ((d,x::q,v)::b) (guards G (x::q))
    |some _=>False
  else False
theorem Qio{N p m v f g G K}
 (h:Xhq N p m v f g G K){a}(c:Ag N a f g G) :
 ∃C D z,K C D z/\Ag N (a.put m (if cnd f g p=true then v else undef)) C D z:=by
 unfold Xhq at h
 cases m with
 |none=>exact⟨f,g,G,h,by simpa [Act.put] using c⟩
 |some d =>
  simp only at h;cases A:Nat.blt d N<;>simp only[A,cond_true,cond_false]at h
  have H:d<N:=Zbz A;cases B:Xlj d (guards G p)<;>simp only[B,cond_true,cond_false]at h
  have o:=Q20 B
  have k:∀(u:Value) (t:Nat),(a.tmps.setIfInBounds d u)[t]?=if d=t then some u else a.tmps[t]? := by
   intro u t;rw[Array.getElem?_setIfInBounds]
   by_cases e:d=t
   .subst e;rw[if_pos rfl,if_pos (by rw[c.size];exact H),if_pos rfl]
   .simp[e]
  cases p with
  |nil =>
   simp only at h
   cases i:Qyo g d with
   |some r=>rw[i]at h;exact h.elim
   |none =>
    rw[i]at h;have I:d∉G:=by simpa [guards] using o
    have l:∀s,s≠d->look ((d,v)::f) g s=look f g s:=(by intro s w;unfold Se.look;rw[Qno,if_neg (fun e=>w e.symm)]);refine⟨_,_,_,h,c.defers,by simp[Act.put,c.size],?_,?_,c.scope⟩
    .intro t u b;rw[Qno]at b;simp only[Act.put,cnd,if_true,k]
     by_cases e:d=t
     .rw[if_pos e]at b⊢;exact b
     .rw[if_neg e]at b⊢;exact c.env t u b
    .intro t q u b;have n:d≠t:=by rintro rfl;rw[i]at b;cases b
     simp only[Act.put,cnd,if_true,k,if_neg n];rw[Qj6 fun x hx=>l x.1 (fun e=>I (e▸c.scope t q u b x hx))];exact c.loc t q u b
  |cons x q =>
   simp only at h
   cases i:get f d with
   |some r=>rw[i]at h;exact h.elim
   |none =>
    rw[i]at h;have l:∀s,s≠d->look f ((d,x::q,v)::g) s=look f g s:=(by intro s w;unfold Se.look;rw[Qpd,if_neg (fun e=>w e.symm)])
    have F:cnd f ((d,x::q,v)::g) (x::q)=cnd f g (x::q):=
     Qj6 fun y j=>l y.1 (fun e=>o (Qf9.2 (.inr ⟨y,j,e⟩)))
    refine⟨_,_,_,h,c.defers,by simp[Act.put,c.size],?_,?_,?_⟩
    .intro t u b;have n:d≠t:=by rintro rfl;rw[i]at b;cases b
     simp only[Act.put,k,if_neg n];exact c.env t u b
    .intro t r u b;rw[Qpd]at b;simp only[Act.put,k]
     by_cases e:d=t
     .rw[if_pos e]at b⊢;obtain⟨rfl,rfl⟩:x::q=r/\v=u:=by simpa using b
      rw[F]
     .rw[if_neg e]at b⊢;rw[Qj6 fun y j=>l y.1 (fun E=>o (Qf9.2 (.inl (E▸c.scope t r u b y j))))];exact c.loc t r u b
    .intro t r u b y j;rw[Qpd]at b
     by_cases e:d=t
     .rw[if_pos e]at b;obtain⟨rfl,rfl⟩:x::q=r/\v=u:=by simpa using b
      exact Qf9.2 (.inr ⟨y,j,rfl⟩)
     .rw[if_neg e]at b;exact Qf9.2 (.inl (c.scope t r u b y j))
inductive Ty where
 |int (k:IntKind)
 |bool
 |str
 |slice (e n:Nat)
 |strct (fs:List (Nat×Nat×Nat))
 |arr (len n:Nat)
 |map (k e:Nat)
 |other
structure TyE where
 sh:Ty
 size:Nat
 agg:Bool
 zero:Value
abbrev Tab:=List (Nat×TyE)
def Qi6:Tab->Nat->Option TyE
 |[],_=>none
 |(t,e)::a,s=>bif Nat.beq t s then some e else Qi6 a s
def Xms(P:Program)(t:TypeId):Bool:=match P.underlying t with|some (.struct _)|some (.array _ _)=>true|_=>false
def Xd4(P:Program)(t:TypeId):Nat:=match P.underlying t with|some (.struct _)|some (.array _ _)=>1|some _=>0|none=>2
def Qyq(P:Program):TypeDesc->Ty
 |.int k=>.int k
 |.bool=>.bool
 |.string=>.str
 |.slice e=>.slice e (P.cellsOf e)
 |.struct a=>.strct (a.toList.map fun f=>(f.offset,P.cellsOf f.type,Xd4 P f.type))
 |.array n e=>.arr n (P.cellsOf e)
 |.map k e=>.map k e
 |_=>.other
def Xb(P:Program)(t:TypeId):Option TyE:=
 match P.info? t with
 |some a=>match P.underlying t with
  |some d=>match a.zero with
   |some z=>some ⟨Qyq P d,a.size,Xms P t,z⟩
   |none=>none
  |none=>none
 |none=>none
def Qbl(P:Program):Tab->Prop
 |[]=>True
 |(t,e)::a=>Xb P t=some e/\Qbl P a
theorem Qbl.get{P}:∀{T:Tab},Qbl P T->∀{t:Nat} {e:TyE},Qi6 T t=some e->Xb P t=some e
 |[],_,t,e,h=>by simp[Qi6]at h
 |(s,f)::T,a,t,e,h=>by
  simp only[Qi6]at h;cases b:Nat.beq s t<;>simp only[b,cond_true,cond_false]at h
  .exact Qbl.get a.2 h
  .rw[<- Za5 b,<- h];exact a.1
section types
variable {P:Program}{t:TypeId}{e:TyE}
theorem Xl(h:Xb P t=some e):∃i d,P.info? t=some i/\P.underlying t=some d/\i.zero=some e.zero/\Qyq P d=e.sh/\i.size=e.size/\Xms P t=e.agg:=by
 unfold Xb at h;split at h
 .rename_i i b;split at h
  .rename_i d a;split at h
   .rename_i z c;simp only[Zb0]at h;subst h;exact⟨i,d,b,a,c,rfl,rfl,rfl⟩
   .cases h
  .cases h
 .cases h
theorem Qn1(h:Xb P t=some e)(w):(isAgg t).run P w=.ok e.agg w:=by
 obtain⟨c,d,_,a,_,_,_,b⟩:=Xl h;rw[<- b];unfold isAgg Xms;simp only[Sem.run_bind,run_underlying a,Result.andThen_ok,a];cases d<;>rfl
theorem Qqg(h:Xb P t=some e)(w):∃i,P.info? t=some i/\(typeInfo t).run P w=.ok i w/\i.size=e.size/\i.zero=some e.zero:=by
 obtain⟨i,d,a,_,c,_,b,_⟩:=Xl h;exact⟨i,a,by simp[typeInfo,a],b,c⟩
theorem Qk7(h:Xb P t=some e)(w):(sizeOf t).run P w=.ok e.size w:=by
 obtain⟨c,_,a,b,_⟩:=Qqg h w;simp[sizeOf,a,b]
theorem Ql8(h:Xb P t=some e)(w):(zeroValue t).run P w=.ok e.zero w:=by
 obtain⟨c,_,a,_,b⟩:=Qqg h w;simp[zeroValue,a,b]
theorem Qdr{n}(h:P.cellsOf t=n)(b:n≠0)(w):(sizeOf t).run P w=.ok n w:=by
 unfold Program.cellsOf at h
 cases a:P.info? t with
 |none=>rw[a]at h;simp at h;omega
 |some c=>rw[a]at h;simp at h;simp[sizeOf,typeInfo,a,h]
theorem Q32(h:Xd4 P t=0)(w):(isAgg t).run P w=.ok false w:=by
 unfold Xd4 at h;split at h<;>simp at h
 rename_i d b c a;unfold isAgg;simp only[Sem.run_bind,run_underlying a,Result.andThen_ok];cases d<;>first|rfl|exact absurd a (b _)|exact absurd a (c _ _)
theorem Q33(h:Xd4 P t=1)(w):(isAgg t).run P w=.ok true w:=by
 unfold Xd4 at h;split at h<;>simp at h
 .rename_i a;unfold isAgg;simp only[Sem.run_bind,run_underlying a,Result.andThen_ok];rfl
 .rename_i a;unfold isAgg;simp only[Sem.run_bind,run_underlying a,Result.andThen_ok];rfl
end types
def Xq(w:World)(a:Addr)(cs:List Value):Prop:=∀b v,cs[b]?=some v->w.cell? (a.add b)=some v
def Ext(w w':World):Prop:=Below w.heap.size w w'
theorem Ext.refl(w):Ext w w:=Below.refl _ _
theorem Ext.trans{a b c}(h:Ext a b)(k:Ext b c):Ext a c:=Below.trans h (Below.mono k h.size)
theorem Ext.drew{a w}(h:Ext a w):Ext a w.drew:=⟨h.os,h.tape,h.output,h.size,h.block⟩
theorem Ext.cell{w w'}(h:Ext w w'){p v}(a:w.cell? p=some v):w'.cell? p=some v:=by
 have b:p.block<w.heap.size:=by
  rcases Zb6 p.block w.heap.size with d|c
  .exact d
  .unfold World.cell? at a;rw[Zbx c]at a;cases a
 rw[Below.cell h b];exact a
theorem Ext.cells{w w'}(h:Ext w w'){p cs}(a:Xq w p cs):Xq w' p cs:=
 fun c v b=>h.cell (a c v b)
structure Mod(S:Nat->Prop)(w w':World):Prop where
 os:w'.os=w.os
 tape:w'.tape=w.tape
 output:w'.output=w.output
 size:w.heap.size<=w'.heap.size
 block:∀k,k<w.heap.size->¬S k->w'.heap[k]?=w.heap[k]?
theorem Mod.refl(S w):Mod S w w:=⟨rfl,rfl,rfl,Zf _,fun _ _ _=>rfl⟩
theorem Mod.trans{S a b c}(h:Mod S a b)(k:Mod S b c):Mod S a c:=
 ⟨k.os.trans h.os,k.tape.trans h.tape,k.output.trans h.output,Zw h.size k.size,
  fun f d e=>(k.block f (Zat d h.size) e).trans (h.block f d e)⟩
theorem Mod.of_ext{S a b}(h:Ext a b):Mod S a b:=⟨h.os,h.tape,h.output,h.size,fun d c _=>h.block d c⟩
theorem Mod.ext{a b S}(h:Mod S a b)(e:∀k,k<a.heap.size->¬S k):Ext a b:=⟨h.os,h.tape,h.output,h.size,fun d c=>h.block d c (e d c)⟩
theorem Mod.mono{a b S S'}(h:Mod S a b)(e:∀k,k<a.heap.size->S k->S' k):Mod S' a b:=
 ⟨h.os,h.tape,h.output,h.size,fun d c f=>h.block d c (fun g=>f (e d c g))⟩
inductive Cl where
 |same
 |ext
 |mods (S:Nat->Prop)
 |gen (R:World->World->Prop) (h:(∀w,R w w)/\∀a b c,R a b->R b c->R a c)
def Cl.rel:Cl->World->World->Prop
 |.same=>fun w b=>b=w
 |.ext=>Ext
 |.mods S=>Mod S
 |.gen a _=>a
theorem Cl.refl:∀(c:Cl) (w:World),c.rel w w
 |.same,_=>rfl
 |.ext,w=>Ext.refl w
 |.mods S,w=>Mod.refl S w
 |.gen _ h,w=>h.1 w
theorem Cl.trans:∀(c:Cl) {a b d:World},c.rel a b->c.rel b d->c.rel a d
 |.same,_,_,_,h,k=>k.trans h
 |.ext,_,_,_,h,k=>Ext.trans h k
 |.mods _,_,_,_,h,k=>Mod.trans h k
 |.gen _ e,_,_,_,h,k=>e.2 _ _ _ h k
def Rd1(cl:Cl)(w:World)(a:Addr)(v:Value):Prop:=
 match cl with
 |.same|.ext=>w.cell? a=some v
 |.mods S=>w.cell? a=some v/\¬S a.block
 |.gen c _=>∀b,c w b->b.cell? a=some v
def RdN(cl:Cl)(w:World)(a:Addr)(cs:List Value):Prop:=
 match cl with
 |.same|.ext=>Xq w a cs
 |.mods S=>Xq w a cs/\¬S a.block
 |.gen c _=>∀b,c w b->Xq b a cs
def RdS(P:Program)(cl:Cl)(w:World)(s:Sem Value)(v:Value):Prop:=∀a,cl.rel w a->s.run P a=.ok v a
theorem cell_lt{w:World}{a v}(h:w.cell? a=some v):a.block<w.heap.size:=by
 rcases Zb6 a.block w.heap.size with c|b
 .exact c
 .unfold World.cell? at h;rw[Zbx b]at h;cases h
theorem add_block(a:Addr)(n):(a.add n).block=a.block:=by unfold Addr.add;split<;>rfl
theorem Mod.cell{S w w'}(h:Mod S w w'){p v}(a:w.cell? p=some v)(b:¬S p.block):w'.cell? p=some v:=by
 rw[World.cell?_of_block (w:=w) (h.block p.block (cell_lt a) b)];exact a
theorem Rd1.run{cl w a v}(h:Rd1 cl w a v){w'}(b:cl.rel w w'):w'.cell? a=some v:=by
 cases cl with
 |same=>cases b;exact h
 |ext=>exact Ext.cell b h
 |mods S=>exact Mod.cell b h.1 h.2
 |gen c d=>exact h w' b
theorem RdN.run{cl w a cs}(h:RdN cl w a cs){w'}(b:cl.rel w w'):Xq w' a cs:=by
 cases cl with
 |same=>cases b;exact h
 |ext=>exact Ext.cells b h
 |mods S=>exact fun d v c=>Mod.cell b (h.1 d v c) (by rw[add_block];exact h.2)
 |gen e f=>exact h w' b
def Qg:Value->List Value
 |.agg cs=>cs.toList
 |v=>[v]
theorem Qat(v):v.cells.toList=Qg v:=by cases v<;>rfl
def Xm2:List Value->Nat->Value->(List Value->Prop)->Prop
 |[],_,_,_=>False
 |_::a,0,v,K=>K (v::a)
 |x::a,n+1,v,K=>Xm2 a n v fun b=>K (x::b)
theorem Q3j:∀{l:List Value} {n:Nat} {v:Value} {K:List Value->Prop},Xm2 l n v K->n<l.length/\K (l.set n v)
 |[],_,_,_,h=>h.elim
 |_::l,0,v,K,h=>⟨by simp,h⟩
 |x::l,n+1,v,K,h=>by
  obtain⟨b,a⟩:=Q3j (l:=l) (n:=n) (v:=v) h;exact⟨by simp;omega,a⟩
def Xjz:List Value->Nat->List Value->(List Value->Prop)->Prop
 |l,_,[],K=>K l
 |l,n,v::b,K=>Xm2 l n v fun a=>Xjz a (n+1) b K
def Q0r:List Value->Nat->List Value->List Value
 |l,_,[]=>l
 |l,n,v::a=>Q0r (l.set n v) (n+1) a
theorem Qxn:∀{vs l:List Value} {n:Nat} {K:List Value->Prop},Xjz l n vs K->(vs=[]\/n+vs.length<=l.length)/\K (Q0r l n vs)
 |[],_,_,_,h=>⟨.inl rfl,h⟩
 |v::vs,l,n,K,h=>by
  obtain⟨d,b⟩:=Q3j h;obtain⟨a,c⟩:=Qxn b;refine⟨.inr ?_,c⟩;rcases a with rfl|a
  .simp;omega
  .simp at a⊢;omega
theorem Qjg:∀(vs l:List Value) (off k:Nat),
 (vs.zipIdx k).foldl (fun(cs:Array Value) (x:Value×Nat)=>cs.setIfInBounds (off+x.2) x.1) l.toArray=(Q0r l (off+k) vs).toArray
 |[],_,_,_=>rfl
 |v::vs,l,off,k=>by
  simp only[List.zipIdx_cons,Zaq,Q0r];rw[List.setIfInBounds_toArray,Qjg vs _ off (k+1)];rfl
def Xif(n:Nat):Nat->Nat->List (Nat×Nat×Nat)
 |0,_=>[]
 |k+1,off=>(off,n,0)::Xif n k (off+n)
theorem Qt8{n}:∀{len off i o s k:Nat},nth (Xif n len off) i=some (o,s,k)->o=off+i*n/\s=n
 |0,off,i,o,s,k,h=>by rw[Qa8]at h;simp[Xif]at h
 |len+1,off,0,o,s,k,h=>by
  rw[Qa8]at h;simp[Xif]at h;exact⟨by omega,by omega⟩
 |len+1,off,i+1,o,s,k,h=>by
  rw[Qa8]at h;simp only[Xif,List.getElem?_cons_succ]at h;rw[<- Qa8]at h;obtain⟨a,b⟩:=Qt8 h;exact⟨by rw[a,Nat.add_mul];omega,b⟩
def Qzl(a:List (Nat×Nat×Nat)):List Value->List (Nat×Value)->(List Value->Prop)->Prop
 |cells,[],K=>K cells
 |cells,(c,v)::d,K=>match nth a c with
  |some (off,size,_)=>bif Nat.beq (Qg v).length size then Xjz cells off (Qg v) fun b=>Qzl a b d K else False
  |none=>False
theorem Qjf{b place}(f:∀i off size k,nth b i=some (off,size,k)->place i=some (off,size))(g:∀i off size k,nth b i=some (off,size,k)->size≠0) :
 ∀{parts:List (Nat×Value)} {cells:List Value} {K:List Value->Prop},Qzl b cells parts K->∃r,Instr.fill place cells.toArray parts=some r.toArray/\K r
 |[],cells,K,h=>⟨cells,rfl,h⟩
 |(i,v)::s,cells,K,h=>by
  simp only[Qzl]at h
  cases d:nth b i with
  |none=>rw[d]at h;exact h.elim
  |some x =>
   obtain⟨off,size,k⟩:=x;rw[d]at h;simp only at h;cases e:Nat.beq (Qg v).length size<;>simp only[e,cond_true,cond_false]at h
   have c:=Za5 e;obtain⟨a,j⟩:=Qxn h;obtain⟨r,n,m⟩:=Qjf f g j;refine⟨r,?_,m⟩;have l:v.cells.size=size:=by rw[<- c,<- Qat];simp
   have o:off+size<=cells.length:=by
    rcases a with a|a
    .rw[a]at c;exact absurd c.symm (g i off size k d)
    .rw[c]at a;exact a
   simp only[Instr.fill,f i off size k d];rw[if_neg (by simp[l];omega)];have:v.cells=(Qg v).toArray:=by rw[<- Qat]
   rw[this,<- Array.foldl_toList];simp only[Array.toList_zipIdx];rw[Qjg (Qg v) cells off 0];exact n
def evL(ev:Operand->Option Value):List Operand->Option (List Value)
 |[]=>some []
 |x::a=>match ev x with
  |some v=>match evL ev a with
   |some b=>some (v::b)
   |none=>none
  |none=>none
def evP(ev:Operand->Option Value):List (Nat×Operand)->Option (List (Nat×Value))
 |[]=>some []
 |(a,x)::b=>match ev x with
  |some v=>match evP ev b with
   |some c=>some ((a,v)::c)
   |none=>none
  |none=>none
def Qve(P:Program)(t:TypeId)(ox oy:Operand)(x y:Value)(b:Bool):Prop:=
 ∀w,(do eqGuard .eql t ox oy x y;binOp .eql t x y).run P w=.ok (.bool b) w/\(do eqGuard .neq t ox oy x y;binOp .neq t x y).run P w=.ok (.bool !b) w
def EqAt(P:Program)(cl:Cl)(w:World)(t:TypeId)(ox oy:Operand)(x y:Value)(b:Bool):Prop:=
 ∀a,cl.rel w a->(do eqGuard .eql t ox oy x y;binOp .eql t x y).run P a=.ok (.bool b) a
def Q96(op:BinOp)(k:IntKind)(a b:Int)(und:Prop->Prop)(K:Value->Prop):Prop:=
 match op with
 |.add=>∃z,und (z=k.wrap (a+b))/\K (.int k z)
 |.sub=>∃z,und (z=k.wrap (a-b))/\K (.int k z)
 |.mul=>∃z,und (z=k.wrap (a*b))/\K (.int k z)
 |.quo=>∃z,und (b≠0/\z=k.wrap (a.tdiv b))/\K (.int k z)
 |.rem=>∃z,und (b≠0/\z=a.tmod b)/\K (.int k z)
 |.and=>∃z,und (z=k.wrap (BitVec.ofInt k.bits a &&& BitVec.ofInt k.bits b).toNat)/\K (.int k z)
 |.or=>∃z,und (z=k.wrap (BitVec.ofInt k.bits a ||| BitVec.ofInt k.bits b).toNat)/\K (.int k z)
 |.xor=>∃z,und (z=k.wrap (BitVec.ofInt k.bits a ^^^ BitVec.ofInt k.bits b).toNat)/\K (.int k z)
 |.eql=>K (.bool (decide (a=b)))
 |.neq=>K (.bool (!decide (a=b)))
 |.lss=>K (.bool (decide (a<b)))
 |.leq=>K (.bool (decide (a<=b)))
 |.gtr=>K (.bool (decide (b<a)))
 |.geq=>K (.bool (decide (b<=a)))
 |.shl=>∃z,und (0<=b/\z=k.wrap (a*2^(min b.toNat k.bits)))/\K (.int k z)
 |.shr=>∃z,und (0<=b/\z=a.fdiv (2^(min b.toNat k.bits)))/\K (.int k z)
 |.andNot=>False
def Xj7(op:BinOp)(a b:ByteArray)(und:Prop->Prop)(K:Value->Prop):Prop:=
 match op with
 |.add=>und (a.size+b.size<=9223372036854775807)/\K (.string (a++b))
 |.eql=>K (.bool (decide (a=b)))
 |.neq=>K (.bool (!decide (a=b)))
 |.lss=>K (.bool (Op.bytesLess a.toList b.toList))
 |.gtr=>K (.bool (!(Op.bytesLess a.toList b.toList||decide (a=b))))
 |.leq=>K (.bool (Op.bytesLess a.toList b.toList||decide (a=b)))
 |.geq=>K (.bool (!Op.bytesLess a.toList b.toList))
 |_=>False
def Xkx(ev:SP->Operand->Option Value)(x:Option Operand)(d:Nat):Option Int:=
 match x with
 |none=>some (d:Int)
 |some y=>match ev [] y with
  |some (.int _ n)=>some n
  |_=>none
def Xkw(P:Program)(T:Tab)(cl:Cl)(ev:SP->Operand->Option Value)(und:Prop->Prop)(o:Op)(w:World)(K:Value->Prop):Prop:=
 match o with
 |.move x|.assign x=>match ev [] x with
  |some v=>K v
  |none=>False
 |.pick (.tmp c) x y=>match ev [] (.tmp c) with
  |some (.bool b)=>match x,y with
   |.const (.bool true),y=>match ev [(c,false)] y with
    |some (.bool d)=>K (.bool (b||d))
    |_=>False
   |x,.const (.bool false)=>match ev [(c,true)] x with
    |some (.bool d)=>K (.bool (b&&d))
    |_=>False
   |x,y=>match ev [(c,true)] x with
    |some v=>match ev [(c,false)] y with
     |some u=>K (bif b then v else u)
     |none=>False
    |none=>False
  |_=>False
 |.nilCheck x=>match ev [] x with
  |some (.pointer (some a))=>K (.pointer (some a))
  |some (.func (.func f) D E)=>K (.func (.func f) D E)
  |_=>False
 |.binOp op t x y _=>match ev [] x with
  |some (.int k a)=>match ev [] y with
   |some (.int I b)=>match op with
    |.shl|.shr=>Q96 op k a b und K
    |_=>bif decide (k=I) then Q96 op k a b und K else False
   |_=>False
  |some (.string a)=>match ev [] y with
   |some (.string b)=>Xj7 op a b und K
   |_=>False
  |some v=>match ev [] y with
   |some u=>match op with
    |.eql=>match u with
     |.pointer (some _)=>∃b,und (EqAt P cl w t x y v u b)/\K (.bool b)
     |_=>∃b,und (Qve P t x y v u b)/\K (.bool b)
    |.neq=>∃b,und (Qve P t x y v u b)/\K (.bool !b)
    |_=>False
   |none=>False
  |none=>False
 |.unOp op _ x=>match op,ev [] x with
  |.not,some (.bool b)=>K (.bool !b)
  |.neg,some (.int k a)=>∃z,und (z=k.wrap (0-a))/\K (.int k z)
  |_,_=>False
 |.convert src H x=>match Qi6 T src with
  |some _=>match Qi6 T H with
   |some ⟨.int k,_,_,_⟩=>match ev [] x with
    |some (.int _ n)=>∃z,und (z=k.wrap n)/\K (.int k z)
    |_=>False
   |some ⟨.str,_,_,_⟩=>match ev [] x with
    |some (.string s)=>K (.string s)
    |_=>False
   |_=>False
  |none=>False
 |.fieldAddr s x f=>match Qi6 T s with
  |some ⟨.strct e,_,_,_⟩=>match ev [] x with
   |some (.pointer (some a))=>match nth e f with
    |some (off,size,_)=>bif Nat.beq size 0 then False else K (.pointer (some (a.add off)))
    |none=>False
   |_=>False
  |_=>False
 |.field s x f=>match Qi6 T s with
  |some ⟨.strct e,_,_,_⟩=>match ev [] x with
   |some (.agg cs)=>match nth e f with
    |some (off,size,0)=>match nth cs.toList off with
     |some v=>K v
     |none=>False
    |some (off,size,1)=>bif Nat.beq size 0 then False else K (.agg (cs.extract off (off+size)))
    |_=>False
   |_=>False
  |_=>False
 |.indexAddr t x i=>match Qi6 T t with
  |some ⟨.slice _ n,_,_,_⟩=>bif Nat.beq n 0 then False else match ev [] x with
   |some (.slice A len _)=>match ev [] i with
    |some (.int _ j)=>∃a,und (A=some a/\0<=j/\j<len)/\K (.pointer (some (a.add (j.toNat*n))))
    |_=>False
   |_=>False
  |some ⟨.arr len n,_,_,_⟩=>bif Nat.beq n 0 then False else match ev [] x with
   |some (.pointer (some a))=>match ev [] i with
    |some (.int _ j)=>und (0<=j/\j<len)/\K (.pointer (some (a.add (j.toNat*n))))
    |_=>False
   |_=>False
  |_=>False
 |.index t x i=>match Qi6 T t with
  |some ⟨.str,_,_,_⟩=>match ev [] x with
   |some (.string s)=>match ev [] i with
    |some (.int _ j)=>∃c:UInt8,und (0<=j/\s[j.toNat]?=some c)/\K (.int .u8 c.toNat)
    |_=>False
   |_=>False
  |some ⟨.arr _ _,_,_,_⟩=>match ev [] x with
   |some (.agg cs)=>match ev [] i with
    |some (.int k j)=>∃v,und (RdS P cl w (Instr.index t (.agg cs) (.int k j)) v)/\K v
    |_=>False
   |_=>False
  |_=>False
 |.extract x i=>match ev [] x with
  |some (.tuple N)=>match nth N.toList i with
   |some v=>K v
   |none=>False
  |_=>False
 |.build t parts=>match Qi6 T t with
  |some ⟨.strct e,_,_,z⟩=>bif e.all (fun x=>!Nat.beq x.2.1 0) then match evP (ev []) parts.toList with
   |some ps=>Qzl e (Qg z) ps fun cells=>K (.agg cells.toArray)
   |none=>False else False
  |some ⟨.arr len n,_,_,z⟩=>bif !Nat.beq n 0 then match evP (ev []) parts.toList with
   |some ps=>Qzl (Xif n len 0) (Qg z) ps fun cells=>K (.agg cells.toArray)
   |none=>False else False
  |_=>False
 |.makeFunc fn first F=>match evL (ev []) first.toList with
  |some D=>match evL (ev []) F.toList with
   |some E=>K (.func fn D.toArray E.toArray)
   |none=>False
  |none=>False
 |.makeInterface t x=>match ev [] x with
  |some v=>RdS P cl w (Instr.makeInterface t v) (.iface t v)/\K (.iface t v)
  |none=>False
 |.load t x=>match Qi6 T t with
  |some ⟨_,n,true,_⟩=>match ev [] x with
   |some (.pointer (some a))=>∃cs,und (cs.length=n/\RdN cl w a cs)/\K (.agg cs.toArray)
   |_=>False
  |some ⟨_,_,false,_⟩=>match ev [] x with
   |some (.pointer (some a))=>∃v,und (Rd1 cl w a v)/\K v
   |_=>False
  |none=>False
 |.lookup t m k ok=>match ev [] m with
  |some M=>match ev [] k with
   |some L=>∃v,und (RdS P cl w (Instr.lookup t M L ok) v)/\K v
   |none=>False
  |none=>False
 |.slice t x C g B=>match ev [] x with
  |some (.string s)=>match Qi6 T t with
   |some ⟨.str,_,_,_⟩=>match B with
    |none=>match C,g with
     |none,some h=>match ev [] h with
      |some (.int _ j)=>und (0<=j/\j<=s.size)/\K (.string (s.extract 0 j.toNat))
      |_=>False
     |some l,none=>match ev [] l with
      |some (.int _ i)=>und (0<=i/\i<=s.size)/\K (.string (s.extract i.toNat s.size))
      |_=>False
     |some l,some h=>match ev [] l with
      |some (.int _ i)=>match ev [] h with
       |some (.int _ j)=>und (0<=i/\i<=j/\j<=s.size)/\K (.string (s.extract i.toNat j.toNat))
       |_=>False
      |_=>False
     |none,none=>K (.string (s.extract 0 s.size))
    |some _=>False
   |_=>False
  |some (.slice A n c)=>match Qi6 T t with
   |some ⟨.slice _ sz,_,_,_⟩=>bif Nat.beq sz 0 then False else match Xkx ev C 0 with
    |some l=>match Xkx ev g n with
     |some h=>match B,g with
      |some _,none=>False
      |_,_=>match Xkx ev B c with
       |some m=>und (0<=l/\l<=h/\h<=m/\m<=c)/\K (.slice (if m.toNat=l.toNat then A else A.map (·.add (l.toNat*sz))) (h.toNat-l.toNat) (m.toNat-l.toNat))
       |none=>False
     |none=>False
    |none=>False
   |_=>False
  |some (.pointer p)=>match B,C,g with
   |none,none,some h=>match ev [] h with
    |some J=>∃v,und (RdS P cl w (Instr.sliceAt t (.pointer p) none (some J) none) v)/\K v
    |none=>False
   |_,_,_=>False
  |_=>False
 |.call { callee:= .builtin .len,args,argTypes }=>match evL (ev []) args.toList with
  |some [.slice A n c]=>match argTypes.toList with
   |[t]=>match Qi6 T t with
    |some ⟨.slice _ _,_,_,_⟩=>K (.int .i64 n)
    |_=>False
   |_=>False
  |some [.string s]=>match argTypes.toList with
   |[t]=>match Qi6 T t with
    |some ⟨.str,_,_,_⟩=>K (.int .i64 s.size)
    |_=>False
   |_=>False
  |some [.map r]=>∃v,und (RdS P cl w (Builtin.len_ argTypes 0 #[.map r]) v)/\K v
  |_=>False
 |.call { callee:= .builtin .min,args,argTypes:=_ }=>match evL (ev []) args.toList with
  |some [.int k x,.int _ y]=>K (.int k (min x y))
  |some [.int k x,.int _ y,.int _ z]=>K (.int k (min (min x y) z))
  |_=>False
 |.call { callee:= .builtin .max,args,argTypes:=_ }=>match evL (ev []) args.toList with
  |some [.int k x,.int _ y]=>K (.int k (max x y))
  |some [.int k x,.int _ y,.int _ z]=>K (.int k (max (max x y) z))
  |_=>False
 |_=>False
def still(T:Tab):Op->Bool
 |.move _|.assign _|.pick ..|.nilCheck _|.binOp ..|.unOp ..|.fieldAddr ..|.field ..|.indexAddr ..|.index ..|.extract ..|.build ..|.makeFunc ..|.makeInterface ..|.load ..|.lookup ..|.slice ..=>true
 |.convert s d _=>match Qi6 T d with
  |some ⟨.int _,_,_,_⟩=>true
  |some ⟨.str,_,_,_⟩=>match Qi6 T s with
   |some ⟨.str,_,_,_⟩=>true
   |_=>false
  |_=>false
 |.call { callee:= .builtin .len,.. }|.call { callee:= .builtin .min,.. }|.call { callee:= .builtin .max,.. }=>true
 |_=>false
section sound
variable {P:Program}{T:Tab}{cl:Cl}{ev:SP->Operand->Option Value}{und:Prop->Prop}{w:World}{K:Value->Prop}{a:Act}{c:Prop}
theorem Qea{e ρ}(h:∀x v,e x=some v->ρ x=v):∀{l:List Operand} {vs:List Value},evL e l=some vs->l.map ρ=vs
 |[],vs,a=>by simp only[evL,Zb0]at a;simp[<- a]
 |x::l,vs,a=>by
  simp only[evL]at a;split at a
  .rename_i v hx;split at a
   .rename_i c b;simp only[Zb0]at a;subst a;simp[h x v hx,Qea h b]
   .cases a
  .cases a
theorem Q2k{e}{ρ:Operand->Value}(h:∀x v,e x=some v->ρ x=v):∀{l:List (Nat×Operand)} {vs:List (Nat×Value)},evP e l=some vs->l.map (fun x=>(x.1,ρ x.2))=vs
 |[],vs,a=>by simp only[evP,Zb0]at a;simp[<- a]
 |(c,x)::l,vs,a=>by
  simp only[evP]at a;split at a
  .rename_i v hx;split at a
   .rename_i d b;simp only[Zb0]at a;subst a;simp[h x v hx,Q2k h b]
   .cases a
  .cases a
theorem str_eq(a b:ByteArray):(a.toList == b.toList)=decide (a=b):=by
 by_cases h:a=b
 .subst h;simp
 .have:a.toList≠b.toList:=(by intro e;apply h;rw[ByteArray.toList_eq,ByteArray.toList_eq]at e;exact WideShapes.bytes_inj e);simp[h,this]
theorem Qzu(j:∀Φ,und Φ->c->Φ){op k a x y t}(i:k=a\/op=.shl\/op=.shr)(h:Q96 op k x y und K) :
 ∃v,K v/\(c->∀(ox oy:Operand) (w':World),(do eqGuard op t ox oy (.int k x) (.int a y);binOp op t (.int k x) (.int a y)).run P w'=.ok v w'):=by
 have f:∀(ox oy:Operand) (w':World),(eqGuard op t ox oy (.int k x) (.int a y)).run P w'=.ok () w':=(by intro ox oy w';unfold eqGuard;split<;>simp);cases op<;>simp only[Q96]at h
 case eql|neq|lss|leq|gtr|geq =>
  obtain rfl:k=a:=by simpa using i
  refine⟨_,h,fun _ ox oy w'=>?_⟩;simp only[Sem.run_bind,f,Result.andThen_ok];simp[binOp,Op.intCmp,Bool.beq_eq_decide_eq,bne]
 case shl|shr =>
  obtain⟨z,e,b⟩:=h;refine⟨_,b,fun d ox oy w'=>?_⟩;obtain⟨g,rfl⟩:=j _ e d;simp only[Sem.run_bind,f,Result.andThen_ok];simp[binOp,Op.shift,Int.not_lt.2 g]
 case quo|rem =>
  obtain rfl:k=a:=by simpa using i
  obtain⟨z,e,b⟩:=h;refine⟨_,b,fun d ox oy w'=>?_⟩;obtain⟨g,rfl⟩:=j _ e d;simp only[Sem.run_bind,f,Result.andThen_ok];simp[binOp,Op.intDiv,g]
 all_goals
  obtain rfl:k=a:=by simpa using i
  obtain⟨z,e,b⟩:=h;refine⟨_,b,fun d ox oy w'=>?_⟩;obtain rfl:=j _ e d;simp only[Sem.run_bind,f,Result.andThen_ok];simp[binOp,Op.intArith,Op.intBits]
theorem Q1c(d:∀Φ,und Φ->c->Φ){op x y t}(h:Xj7 op x y und K) :
 ∃v,K v/\(c->∀(ox oy:Operand) (w':World),(do eqGuard op t ox oy (.string x) (.string y);binOp op t (.string x) (.string y)).run P w'=.ok v w'):=by
 have a:∀(ox oy:Operand) (w':World),(eqGuard op t ox oy (.string x) (.string y)).run P w'=.ok () w':=(by intro ox oy w';unfold eqGuard;split<;>simp);cases op<;>simp only[Xj7]at h
 case add =>
  refine⟨_,h.2,fun b ox oy w'=>?_⟩;have e:=d _ h.1 b;simp only[Sem.run_bind,a,Result.andThen_ok];have:¬((x.size+y.size:Nat):Int) > IntKind.i64.max:=by simp[IntKind.max,IntKind.signed,IntKind.bits];omega
  simp only[binOp,Op.stringOp,if_neg this];simp
 case eql|neq|lss|leq|gtr|geq =>
  refine⟨_,h,fun _ ox oy w'=>?_⟩;simp only[Sem.run_bind,a,Result.andThen_ok];simp[binOp,Op.stringOp,str_eq]
 all_goals exact h.elim
theorem Xcn{d k}(h:Qyq P d=.int k):d=.int k:=by cases d<;>simp[Qyq]at h;rw[h]
theorem Qse{d}(h:Qyq P d=.str):d=.string:=by cases d<;>simp[Qyq]at h;rfl
theorem Qnu{d e n}(h:Qyq P d=.slice e n):d=.slice e/\P.cellsOf e=n:=by cases d<;>simp[Qyq]at h;exact⟨by rw[h.1],by rw[<- h.1];exact h.2⟩
theorem Xhx{d l n}(h:Qyq P d=.arr l n):∃e,d=.array l e/\P.cellsOf e=n:=by cases d<;>simp[Qyq]at h;exact⟨_,by rw[h.1],h.2⟩
theorem Xl5{d k e}(h:Qyq P d=.map k e):d=.map k e:=by cases d<;>simp[Qyq]at h;rw[h.1,h.2]
theorem Quo{d a}(h:Qyq P d=.strct a):∃b:Array Field,d=.struct b/\b.toList.map (fun f=>(f.offset,P.cellsOf f.type,Xd4 P f.type))=a:=by
 cases d<;>simp only[Qyq,Ty.strct.injEq,reduceCtorEq]at h;exact⟨_,rfl,h⟩
theorem Qtc{b:Array Field}{c}(h:b.toList.map (fun f=>(f.offset,P.cellsOf f.type,Xd4 P f.type))=c){i off size k}(a:nth c i=some (off,size,k)) :
 ∃f,b[i]?=some f/\f.offset=off/\P.cellsOf f.type=size/\Xd4 P f.type=k:=by
 rw[Qa8,<- h,Zaf,Zcy]at a
 cases d:b[i]? with
 |none=>rw[d]at a;simp at a
 |some f =>
  rw[d]at a;simp only[Zcc,Zb0,Prod.mk.injEq]at a;exact⟨f,rfl,a.1,a.2.1,a.2.2⟩
theorem Qcs{α β:Type}(f:α->β)(l:Array α):l.map f=(l.toList.map f).toArray:=by apply Zci;simp
theorem Qxe:∀{b:List Field} {a:List (Nat×Nat×Nat)},b.map (fun f=>(f.offset,P.cellsOf f.type,Xd4 P f.type))=a->(∀x∈a,x.2.1≠0) ->
 b.mapM (fun f=>(P.info? f.type).map fun i=>(f.offset,i.size))=some (a.map fun x=>(x.1,x.2.1))
 |[],a,h,_=>by simp at h;subst h;simp
 |g::b,a,h,d=>by
  cases a with
  |nil=>simp at h
  |cons x a =>
   simp only[Zm,Zc4]at h;obtain⟨rfl,j⟩:=h;have l:=Qxe j (fun y k=>d y (by simp[k]));have e:P.cellsOf g.type≠0:=d (g.offset,P.cellsOf g.type,Xd4 P g.type) (by simp)
   cases c:P.info? g.type with
   |none=>simp[Program.cellsOf,c]at e
   |some i=>simp[List.mapM_cons,c,l,Program.cellsOf]
theorem Qx6(j:Qbl P T){t:TypeId}{a n g z}(B:Qi6 T t=some ⟨.strct a,n,g,z⟩)
 (l:a.all (fun x=>!Nat.beq x.2.1 0)=true){ps K}(h:Qzl a (Qg z) ps K) :
 ∃cells,K cells/\∀(parts:Array (Nat×Value)),parts.toList=ps->∀w,(Instr.build t parts).run P w=.ok (.agg cells.toArray) w:=by
 obtain⟨it,d,hit,m,C,A,_⟩:=Xl (j.get B);obtain⟨D,rfl,o⟩:=Quo A;have c:∀x∈a,x.2.1≠0:=fun x hx=>(by have e:=Zaa.1 l _ hx;exact Zba (by simpa using e))
 have s:∀i off size k,nth a i=some (off,size,k)->size≠0:=fun i off size k b=>(by rw[Qa8]at b;exact c _ (Zap b))
 have v:=Qxe o c
 obtain⟨r,y,f⟩:=Qjf (place:=((a.map fun x=>(x.1,x.2.1)).toArray[·]?)) (fun i off size k b=>by
  rw[Qa8]at b;simp[b]) s h
 refine⟨r,f,fun parts u w=>run_build w t parts r.toArray ?_⟩;unfold Program.built;simp only[hit,m,C,v,u];have:z.cells=(Qg z).toArray:=by rw[<- Qat]
 rw[this];exact y
theorem Q8d(s:Qbl P T){t:TypeId}{len n m g z}(B:Qi6 T t=some ⟨.arr len n,m,g,z⟩)(f:n≠0){ps K}(h:Qzl (Xif n len 0) (Qg z) ps K) :
 ∃cells,K cells/\∀(parts:Array (Nat×Value)),parts.toList=ps->∀w,(Instr.build t parts).run P w=.ok (.agg cells.toArray) w:=by
 obtain⟨it,d,hit,u,C,A,_⟩:=Xl (s.get B);obtain⟨e,rfl,a⟩:=Xhx A
 obtain⟨r,x,o⟩:=Qjf (place:=fun i=>some (i*n,n)) (fun i off size k c=>by
  obtain⟨j,l⟩:=Qt8 c;rw[j,l,Za6]) (fun i off size k c=>by rw[(Qt8 c).2];exact f) h
 refine⟨r,o,fun parts v w=>run_build w t parts r.toArray ?_⟩
 cases b:P.info? e with
 |none=>simp[Program.cellsOf,b]at a;exact absurd a.symm f
 |some D =>
  have y:D.size=n:=by simpa [Program.cellsOf,b] using a
  unfold Program.built;simp only[hit,u,C,b,v,y];have:z.cells=(Qg z).toArray:=by rw[<- Qat]
  rw[this];exact x
theorem Qkv(s v w)(h:s.run P w=.ok v w):(do let x <- s;pure (Next.value x):Sem Next).run P w=.ok (.value v) w:=by
 simp[h]
theorem Q54(hT:Qbl P T)(hev:c->∀x v,ev [] x=some v->a.eval x=v)
 (hpk:c->∀t b d x v,ev [] (.tmp t)=some (.bool d)->ev [(t,b)] x=some v->d=b->a.eval x=v)
 (hund:∀Φ,und Φ->c->Φ){o}(h:Xkw P T cl ev und o.op w K) :
 ∃v,K v/\(c->∀w',cl.rel w w'->(execOp a.eval o).run P w'=.ok (.value v) w'):=by
 unfold Xkw at h;unfold execOp;split at h
 . -- move
   rename_i x hop;split at h
   .rename_i v hx;exact⟨v,h,fun hc w' _=>by simp[hop,hev hc _ _ hx]⟩
   .exact h.elim
 .rename_i x hop;split at h
  .rename_i v hx;exact⟨v,h,fun hc w' _=>by simp[hop,hev hc _ _ hx]⟩
  .exact h.elim
 . -- pick
   rename_i t x y hop;split at h
   .rename_i b hb;have hb':c->a.eval (.tmp t)=.bool b:=fun hc=>hev hc _ _ hb
    split at h
    .split at h
     .rename_i d hd;refine⟨_,h,fun hc w' _=>?_⟩;simp only[hop,hb' hc,asBool];cases hbb:b
      .subst hbb;simp[hpk hc t false false _ _ hb hd rfl]
      .simp[Act.eval]
     .exact h.elim
    .split at h
     .rename_i d hd;refine⟨_,h,fun hc w' _=>?_⟩;simp only[hop,hb' hc,asBool];cases hbb:b
      .simp[Act.eval]
      .subst hbb;simp[hpk hc t true true _ _ hb hd rfl]
     .exact h.elim
    .split at h
     .rename_i v hv;split at h
      .rename_i u hu;refine⟨_,h,fun hc w' _=>?_⟩;simp only[hop,hb' hc,asBool];cases hbb:b
       .subst hbb;simp[hpk hc t false false _ _ hb hu rfl]
       .subst hbb;simp[hpk hc t true true _ _ hb hv rfl]
      .exact h.elim
     .exact h.elim
   .exact h.elim
 . -- nilCheck
   rename_i x hop;split at h
   .rename_i b hx;exact⟨_,h,fun hc w' _=>by simp[hop,hev hc _ _ hx]⟩
   .rename_i f xs ys hx;exact⟨_,h,fun hc w' _=>by simp[hop,hev hc _ _ hx]⟩
   .exact h.elim
 . -- binOp
   rename_i op t x y yt hop;split at h
   .rename_i k n hx;split at h
    .rename_i k' m hy
     have key:(k=k'\/op=.shl\/op=.shr)/\Q96 op k n m und K:=by
      split at h
      .exact⟨.inr (.inl rfl),h⟩
      .exact⟨.inr (.inr rfl),h⟩
      .by_cases hk:k=k'
       .exact⟨.inl hk,by simpa [hk] using h⟩
       .simp[hk]at h
     obtain⟨v,hK,hr⟩:=Qzu (P:=P) (t:=t) hund key.1 key.2;exact⟨v,hK,fun hc w' _=>by simp only[hop,hev hc _ _ hx,hev hc _ _ hy];exact Qkv _ _ _ (hr hc x y w')⟩
    .exact h.elim
   .rename_i s hx;split at h
    .rename_i r hy;obtain⟨v,hK,hr⟩:=Q1c (P:=P) (t:=t) hund h;exact⟨v,hK,fun hc w' _=>by simp only[hop,hev hc _ _ hx,hev hc _ _ hy];exact Qkv _ _ _ (hr hc x y w')⟩
    .exact h.elim
   .rename_i v _ _ hx;split at h
    .rename_i u hy;split at h
     .split at h
      .obtain⟨b,hb,hK⟩:=h;exact⟨_,hK,fun hc w' hw=>by simp only[hop,hev hc _ _ hx,hev hc _ _ hy];exact Qkv _ _ _ ((hund _ hb hc) w' hw)⟩
      .obtain⟨b,hb,hK⟩:=h;exact⟨_,hK,fun hc w' _=>by simp only[hop,hev hc _ _ hx,hev hc _ _ hy];exact Qkv _ _ _ ((hund _ hb hc) w').1⟩
     .obtain⟨b,hb,hK⟩:=h;exact⟨_,hK,fun hc w' _=>by simp only[hop,hev hc _ _ hx,hev hc _ _ hy];exact Qkv _ _ _ ((hund _ hb hc) w').2⟩
     .exact h.elim
    .exact h.elim
   .exact h.elim
 . -- unOp
   rename_i op t x hop;split at h
   .rename_i b hx;exact⟨_,h,fun hc w' _=>by simp[hop,hev hc _ _ hx,Op.unary]⟩
   .rename_i k n hx;obtain⟨z,hz,hK⟩:=h;exact⟨_,hK,fun hc w' _=>by simp[hop,hev hc _ _ hx,Op.unary,Op.intArith,hund _ hz hc]⟩
   .exact h.elim
 . -- convert
   rename_i src dst x hop;split at h
   .rename_i es hs;obtain⟨_,ds,_,hds,_⟩:=Xl (hT.get hs);split at h
    .rename_i k s1 s2 s3 hd;obtain⟨_,dd,_,hdd,_,hsh,_⟩:=Xl (hT.get hd);obtain rfl:=Xcn hsh;split at h
     .rename_i k' n hx;obtain⟨z,hz,hK⟩:=h;refine⟨_,hK,fun hc w' _=>?_⟩;simp[hop,hev hc _ _ hx,convert,run_underlying hds,run_underlying hdd,Conv.intToInt,hund _ hz hc]
     .exact h.elim
    .rename_i s1 s2 s3 hd;obtain⟨_,dd,_,hdd,_,hsh,_⟩:=Xl (hT.get hd);obtain rfl:=Qse hsh;split at h
     .rename_i s hx;refine⟨_,h,fun hc w' _=>?_⟩;simp[hop,hev hc _ _ hx,convert,run_underlying hds,run_underlying hdd]
     .exact h.elim
    .exact h.elim
   .exact h.elim
 . -- fieldAddr
   rename_i t x f hop;split at h
   .rename_i fs s1 s2 s3 ht;obtain⟨_,d,_,hd,_,hsh,_⟩:=Xl (hT.get ht);obtain⟨gs,rfl,hgs⟩:=Quo hsh;split at h
    .rename_i p hx;split at h
     .rename_i off size k hn;obtain⟨fl,hf,rfl,hcs,_⟩:=Qtc hgs hn;cases hz:Nat.beq size 0<;>simp only[hz,cond_true,cond_false]at h
      have hz':=Zba hz;refine⟨_,h,fun hc w' _=>?_⟩;simp[hop,hev hc _ _ hx,Instr.fieldAt,run_underlying hd,hf,Instr.sureAddr,fieldPlace,Qdr hcs hz',hz']
     .exact h.elim
    .exact h.elim
   .exact h.elim
 . -- field
   rename_i t x f hop;split at h
   .rename_i fs s1 s2 s3 ht;obtain⟨_,d,_,hd,_,hsh,_⟩:=Xl (hT.get ht);obtain⟨gs,rfl,hgs⟩:=Quo hsh;split at h
    .rename_i cs hx;split at h
     .rename_i off size hn;obtain⟨fl,hf,rfl,hcs,hag⟩:=Qtc hgs hn;split at h
      .rename_i v hv;rw[Qa8,Zcy]at hv;refine⟨_,h,fun hc w' _=>?_⟩;simp[hop,hev hc _ _ hx,Instr.field,run_underlying hd,hf,asAgg,part,Q32 hag,hv]
      .exact h.elim
     .rename_i off size hn;obtain⟨fl,hf,rfl,hcs,hag⟩:=Qtc hgs hn;cases hz:Nat.beq size 0<;>simp only[hz,cond_true,cond_false]at h
      have hz':=Zba hz;refine⟨_,h,fun hc w' _=>?_⟩;simp[hop,hev hc _ _ hx,Instr.field,run_underlying hd,hf,asAgg,part,Q33 hag,Qdr hcs hz']
     .exact h.elim
    .exact h.elim
   .exact h.elim
 . -- indexAddr
   rename_i t x i hop;split at h
   .rename_i e n s1 s2 s3 ht;obtain⟨_,d,_,hd,_,hsh,_⟩:=Xl (hT.get ht);obtain⟨rfl,hcs⟩:=Qnu hsh;cases hz:Nat.beq n 0<;>simp only[hz,cond_true,cond_false]at h
    have hz':=Zba hz;split at h
    .rename_i A len cap hx;split at h
     .rename_i k j hj;obtain⟨p,hp,hK⟩:=h;refine⟨_,hK,fun hc w' _=>?_⟩;obtain⟨rfl,h0,hlt⟩:=hund _ hp hc;simp[hop,hev hc _ _ hx,hev hc _ _ hj,Instr.indexAt,asIntOf,run_underlying hd,Qdr hcs hz',h0,hlt]
     .exact h.elim
    .exact h.elim
   .rename_i len n s1 s2 s3 ht;obtain⟨_,d,_,hd,_,hsh,_⟩:=Xl (hT.get ht);obtain⟨e,rfl,hcs⟩:=Xhx hsh;cases hz:Nat.beq n 0<;>simp only[hz,cond_true,cond_false]at h
    have hz':=Zba hz;split at h
    .rename_i p hx;split at h
     .rename_i k j hj;refine⟨_,h.2,fun hc w' _=>?_⟩;obtain⟨h0,hlt⟩:=hund _ h.1 hc;simp[hop,hev hc _ _ hx,hev hc _ _ hj,Instr.indexAt,asIntOf,Instr.sureAddr,run_underlying hd,Qdr hcs hz',h0,hlt]
     .exact h.elim
    .exact h.elim
   .exact h.elim
 . -- index
   rename_i t x i hop;split at h
   .rename_i s1 s2 s3 ht;obtain⟨_,d,_,hd,_,hsh,_⟩:=Xl (hT.get ht);obtain rfl:=Qse hsh;split at h
    .rename_i s hx;split at h
     .rename_i k j hj;obtain⟨b,hb,hK⟩:=h;refine⟨_,hK,fun hc w' _=>?_⟩;obtain⟨h0,hb'⟩:=hund _ hb hc;simp[hop,hev hc _ _ hx,hev hc _ _ hj,Instr.index,asIntOf,run_underlying hd,h0,hb']
     .exact h.elim
    .exact h.elim
   .split at h
    .rename_i cs hx;split at h
     .rename_i k j hj;obtain⟨v,hv,hK⟩:=h;refine⟨_,hK,fun hc w' hw=>?_⟩;have hr:=hund _ hv hc w' hw;simp only[hop,hev hc _ _ hx,hev hc _ _ hj];exact Qkv _ _ _ hr
     .exact h.elim
    .exact h.elim
   .exact h.elim
 . -- extract
   rename_i x i hop;split at h
   .rename_i vs hx;split at h
    .rename_i v hv;rw[Qa8,Zcy]at hv;exact⟨_,h,fun hc w' _=>by simp[hop,hev hc _ _ hx,Instr.extract,hv]⟩
    .exact h.elim
   .exact h.elim
 . -- build
   rename_i t parts hop;split at h
   .rename_i fs s1 s2 z ht;cases hall:fs.all (fun x=>!Nat.beq x.2.1 0)<;>simp only[hall,cond_true,cond_false]at h
    split at h
    .rename_i ps hps;obtain⟨cells,hK,hr⟩:=Qx6 hT ht hall h;refine⟨_,hK,fun hc w' _=>?_⟩;simp only[hop];refine Qkv _ _ _ (hr _ ?_ w');rw[Array.toList_map];exact Q2k (ρ:=a.eval) (hev hc) hps
    .exact h.elim
   .rename_i len n s1 s2 z ht;cases hn:Nat.beq n 0<;>simp only[hn,Zde,Zcz,cond_true,cond_false]at h
    split at h
    .rename_i ps hps;obtain⟨cells,hK,hr⟩:=Q8d hT ht (Zba hn) h;refine⟨_,hK,fun hc w' _=>?_⟩;simp only[hop];refine Qkv _ _ _ (hr _ ?_ w');rw[Array.toList_map];exact Q2k (ρ:=a.eval) (hev hc) hps
    .exact h.elim
   .exact h.elim
 . -- makeFunc
   rename_i fn first captured hop
   split at h
   .rename_i xs hxs;split at h
    .rename_i ys hys;refine⟨_,h,fun hc w' _=>?_⟩;have e1:=Qea (ρ:=a.eval) (hev hc) hxs;have e2:=Qea (ρ:=a.eval) (hev hc) hys;simp only[hop,Instr.makeFunc,<- e1,<- e2,<- Qcs];simp
    .exact h.elim
   .exact h.elim
 . -- makeInterface
   rename_i t x hop;split at h
   .rename_i v hx;exact⟨_,h.2,fun hc w' hw=>by simp only[hop,hev hc _ _ hx];exact Qkv _ _ _ (h.1 w' hw)⟩
   .exact h.elim
 . -- load
   rename_i t x hop;split at h
   .rename_i sh n z ht;split at h
    .rename_i p hx;obtain⟨cs,hcs,hK⟩:=h;refine⟨_,hK,fun hc w' hw=>?_⟩;obtain⟨hl,hr⟩:=hund _ hcs hc;have hlc:=run_loadCells_list (P:=P) (w:=w') p cs (hr.run hw);rw[hl]at hlc;simp only[hop,hev hc _ _ hx];refine Qkv _ _ _ ?_;simp[Instr.loadAt,Instr.sureAddr,loadVar,Qn1 (hT.get ht),Qk7 (hT.get ht),hlc]
    .exact h.elim
   .rename_i sh n z ht;split at h
    .rename_i p hx;obtain⟨v,hv,hK⟩:=h;refine⟨_,hK,fun hc w' hw=>?_⟩;have hr:=(hund _ hv hc).run hw;simp only[hop,hev hc _ _ hx];refine Qkv _ _ _ ?_;simp[Instr.loadAt,Instr.sureAddr,loadVar,Qn1 (hT.get ht),hr]
    .exact h.elim
   .exact h.elim
 . -- lookup
   rename_i t m k ok hop;split at h
   .rename_i vm hm;split at h
    .rename_i vk hk;obtain⟨v,hv,hK⟩:=h;exact⟨_,hK,fun hc w' hw=>by simp only[hop,hev hc _ _ hm,hev hc _ _ hk];exact Qkv _ _ _ (hund _ hv hc w' hw)⟩
    .exact h.elim
   .exact h.elim
 . -- slice
   rename_i t x lo hi mx hop;split at h
   .rename_i s hx;split at h
    .rename_i s1 s2 s3 ht;obtain⟨_,d,_,hd,_,hsh,_⟩:=Xl (hT.get ht);obtain rfl:=Qse hsh;split at h
     .split at h
      .rename_i y;split at h
       .rename_i k j hy;refine⟨_,h.2,fun hc w' _=>?_⟩;obtain⟨h0,h1⟩:=hund _ h.1 hc;simp[hop,hev hc _ _ hx,hev hc _ _ hy,Instr.sliceAt,Instr.slice,run_underlying hd,Instr.sliceBounds,Instr.sliceBound,asIntOf,h0,h1]
       .exact h.elim
      .rename_i y;split at h
       .rename_i k j hy;refine⟨_,h.2,fun hc w' _=>?_⟩;obtain⟨h0,h1⟩:=hund _ h.1 hc;simp[hop,hev hc _ _ hx,hev hc _ _ hy,Instr.sliceAt,Instr.slice,run_underlying hd,Instr.sliceBounds,Instr.sliceBound,asIntOf,h0,h1]
       .exact h.elim
      .rename_i y y';split at h
       .rename_i k j hy;split at h
        .rename_i k' j' hy';refine⟨_,h.2,fun hc w' _=>?_⟩;obtain⟨h0,h1,h2⟩:=hund _ h.1 hc;have h3:(0:Int)<=j':=by omega
         have h4:j<=(j'.toNat:Int):=by omega
         simp[hop,hev hc _ _ hx,hev hc _ _ hy,hev hc _ _ hy',Instr.sliceAt,Instr.slice,run_underlying hd,Instr.sliceBounds,Instr.sliceBound,asIntOf,h0,h3,h2];intro h7;omega
        .exact h.elim
       .exact h.elim
      .refine⟨_,h,fun hc w' _=>?_⟩;simp[hop,hev hc _ _ hx,Instr.sliceAt,Instr.slice,run_underlying hd,Instr.sliceBounds]
     .exact h.elim
    .exact h.elim
   .rename_i A n cp hx;split at h
    .rename_i e sz s1 s2 s3 ht;obtain⟨_,d,_,hd,_,hsh,_⟩:=Xl (hT.get ht);obtain⟨rfl,hcs⟩:=Qnu hsh;cases hz:Nat.beq sz 0<;>simp only[hz,cond_true,cond_false]at h
     have hz':=Zba hz;split at h
     .rename_i l hl;split at h
      .rename_i g hg;split at h
       .exact h.elim
       .rename_i hno;split at h
        .rename_i m hm;refine⟨_,h.2,fun hc w' _=>?_⟩;obtain⟨h0,h1,h2,h3⟩:=hund _ h.1 hc
         have hopt:∀(y:Option Operand) (d:Nat) (r:Int),Xkx ev y d=some r->(y=none/\r=d)\/∃z k,y=some z/\a.eval z=.int k r:=by
          intro y d r hy
          cases y with
          |none=>simp only[Xkx,Zb0]at hy;exact .inl ⟨rfl,hy.symm⟩
          |some z =>
           simp only[Xkx]at hy;split at hy
           .rename_i k q hq;simp only[Zb0]at hy;subst hy;exact .inr ⟨z,k,rfl,hev hc _ _ hq⟩
           .cases hy
         have h5:(0:Int)<=g:=by omega
         have h6:(0:Int)<=m:=by omega
         have hlg:l<=(g.toNat:Int):=by omega
         have hgm:g<=(m.toNat:Int):=by omega
         have h8:g<=max m 0:=by omega
         have h9:l<=max g 0:=by omega
         have hbounds:(Instr.sliceBounds true n cp (lo.map a.eval) (hi.map a.eval) (mx.map a.eval)).run P w'=.ok (l.toNat,g.toNat,m.toNat) w':=by
          rcases hopt _ _ _ hl with⟨rfl,rfl⟩|⟨zl,kl,rfl,el⟩<;>rcases hopt _ _ _ hg with⟨rfl,rfl⟩|⟨zg,kg,rfl,eg⟩<;>rcases hopt _ _ _ hm with⟨rfl,rfl⟩|⟨zm,km,rfl,em⟩ <;>
           first
           |exact absurd rfl (hno _ rfl)
           |(simp[Instr.sliceBounds,Instr.sliceBound,asIntOf, *];done)
           |(simp[Instr.sliceBounds,Instr.sliceBound,asIntOf, *];omega)
           |(simp[Instr.sliceBounds,Instr.sliceBound,asIntOf, *];intros;omega)
           |(try simp only[Zbb]at hlg hgm
             simp[Instr.sliceBounds,Instr.sliceBound,asIntOf, *])
         simp only[hop,hev hc _ _ hx];refine Qkv _ _ _ ?_;simp[Instr.sliceAt,Instr.slice,run_underlying hd,hbounds,Qdr hcs hz']
        .exact h.elim
      .exact h.elim
     .exact h.elim
    .exact h.elim
   .rename_i p hx;split at h
    .rename_i y;split at h
     .rename_i vh hy;obtain⟨v,hv,hK⟩:=h;exact⟨_,hK,fun hc w' hw=>by simp only[hop,hev hc _ _ hx,Option.map_none,Zcc,hev hc _ _ hy];exact Qkv _ _ _ (hund _ hv hc w' hw)⟩
     .exact h.elim
    .exact h.elim
   .exact h.elim
 . -- len
   rename_i args argTypes hop;split at h
   .rename_i A n cp hargs;split at h
    .rename_i t ht1;split at h
     .rename_i e sz s1 s2 s3 ht;obtain⟨_,d,_,hd,_,hsh,_⟩:=Xl (hT.get ht);obtain⟨rfl,_⟩:=Qnu hsh;refine⟨_,h,fun hc w' _=>?_⟩;have e1:=Qea (ρ:=a.eval) (hev hc) hargs;have e2:args.map a.eval=#[.slice A n cp]:=by rw[Qcs,e1]
      have e3:argTypes=#[t]:=by apply Zci;simpa using ht1
      simp[hop,resolve,invoke,builtin,Builtin.len_,e2,e3,run_underlying hd,goInt]
     .exact h.elim
    .exact h.elim
   .rename_i s hargs;split at h
    .rename_i t ht1;split at h
     .rename_i s1 s2 s3 ht;obtain⟨_,d,_,hd,_,hsh,_⟩:=Xl (hT.get ht);obtain rfl:=Qse hsh;refine⟨_,h,fun hc w' _=>?_⟩;have e1:=Qea (ρ:=a.eval) (hev hc) hargs;have e2:args.map a.eval=#[.string s]:=by rw[Qcs,e1]
      have e3:argTypes=#[t]:=by apply Zci;simpa using ht1
      simp[hop,resolve,invoke,builtin,Builtin.len_,e2,e3,run_underlying hd,goInt]
     .exact h.elim
    .exact h.elim
   .rename_i r hargs;obtain⟨v,hv,hK⟩:=h;refine⟨_,hK,fun hc w' hw=>?_⟩;have e1:=Qea (ρ:=a.eval) (hev hc) hargs;have e2:args.map a.eval=#[.map r]:=by rw[Qcs,e1]
    have hr:=hund _ hv hc w' hw;have hr':(Builtin.len_ argTypes o.type #[.map r]).run P w'=.ok v w':=hr;simp[hop,resolve,invoke,builtin,e2,hr']
   .exact h.elim
 . -- min
   rename_i args argTypes hop;split at h
   .rename_i k x k' y hargs;refine⟨_,h,fun hc w' _=>?_⟩;have e1:=Qea (ρ:=a.eval) (hev hc) hargs;have e2:args.map a.eval=#[.int k x,.int k' y]:=by rw[Qcs,e1]
    have:(if y<x then y else x)=min x y:=by split<;>omega
    simp[hop,resolve,invoke,builtin,e2,Builtin.min_,Builtin.min2,this]
   .rename_i k x k' y k'' z hargs;refine⟨_,h,fun hc w' _=>?_⟩;have e1:=Qea (ρ:=a.eval) (hev hc) hargs;have e2:args.map a.eval=#[.int k x,.int k' y,.int k'' z]:=by rw[Qcs,e1]
    have e3:(if y<x then y else x)=min x y:=by split<;>omega
    have e4:(if z<min x y then z else min x y)=min (min x y) z:=by split<;>omega
    simp[hop,resolve,invoke,builtin,e2,Builtin.min_,Builtin.min2,e3,e4]
   .exact h.elim
 . -- max
   rename_i args argTypes hop;split at h
   .rename_i k x k' y hargs;refine⟨_,h,fun hc w' _=>?_⟩;have e1:=Qea (ρ:=a.eval) (hev hc) hargs;have e2:args.map a.eval=#[.int k x,.int k' y]:=by rw[Qcs,e1]
    have:(if x<y then y else x)=max x y:=by split<;>omega
    simp[hop,resolve,invoke,builtin,e2,Builtin.max_,Builtin.max2,this]
   .rename_i k x k' y k'' z hargs;refine⟨_,h,fun hc w' _=>?_⟩;have e1:=Qea (ρ:=a.eval) (hev hc) hargs;have e2:args.map a.eval=#[.int k x,.int k' y,.int k'' z]:=by rw[Qcs,e1]
    have e3:(if x<y then y else x)=max x y:=by split<;>omega
    have e4:(if max x y<z then z else max x y)=max (max x y) z:=by split<;>omega
    simp[hop,resolve,invoke,builtin,e2,Builtin.max_,Builtin.max2,e3,e4]
   .exact h.elim
 .exact h.elim
end sound
inductive Qi7(P:Program)(s:Sem Value)(w:World)(R:Value->World->Prop):Prop
 |mk (v:Value) (w':World) (h:s.run P w=.ok v w') (r:R v w'):Qi7 P s w R
inductive Qys(P:Program)(s:Sem Unit)(w:World)(R:Value->World->Prop):Prop
 |mk (w':World) (h:s.run P w=.ok () w') (r:R undef w'):Qys P s w R
def Qql(P:Program)(f:FuncId):Prop:= ∃fn,P.funcs[f]?=some fn∧(fn.name == "runtime.NumGoroutine")=false∧fn.body.isNone=false
structure Cal(P:Program)(f:FuncId)(args:List Value)(w:World)(R:Value->World->Prop):Prop where
 ok:Qql P f
 calls:Calls P f args.toArray w fun e w'=>∃v,e=.returned v/\R v w'
theorem Cal.mono{P f args w R a}(h:Cal P f args w R)(c:∀v w',R v w'->a v w'):Cal P f args w a:=
 ⟨h.ok,h.calls.mono fun _ _ ⟨v,b,d⟩=>⟨v,b,c v _ d⟩⟩
structure New(w w1:World)(b:Nat)(o:Obj):Prop where
 world:w1=w.alloc o
 block:b=w.heap.size
theorem New.size{w w1 b o}(h:New w w1 b o):w1.heap.size=w.heap.size+1:=by rw[h.world];simp
theorem New.ext{w w1 b o}(h:New w w1 b o):Ext w w1:=by rw[h.world];exact(Below.refl _ _).alloc (Zf _) o
theorem New.at_{w w1 b o}(h:New w w1 b o):w1.heap[b]?=some o:=by rw[h.world,h.block];exact heap_alloc_new w o
def At(w:World)(b:Nat)(t:TypeId)(l:List Value):Prop:=w.heap[b]?=some (.cells l.toArray t (0,0))
theorem New.At{w w1:World}{b:Nat}{t:TypeId}{l:List Value}(h:New w w1 b (.cells l.toArray t)):At w1 b t l:=h.at_
theorem At.lt{w b t l}(h:At w b t l):b<w.heap.size:=by
 unfold At at h;rcases Zb6 b w.heap.size with c|a
 .exact c
 .rw[Zbx a]at h;cases h
theorem At.ext{w w' b t l}(h:At w b t l)(hx:Ext w w'):At w' b t l:=(hx.block b h.lt).trans h
theorem At.mod{w w' b t l S}(h:At w b t l)(hx:Mod S w w')(a:¬S b):At w' b t l:=(hx.block b h.lt a).trans h
theorem At.cell{w b t l}(h:At w b t l)(k):w.cell? ⟨b,k,none⟩=l[k]? := by
 unfold At at h;simp[World.cell?,h]
theorem Q7(b k):(⟨b,0,none⟩:Addr).add k=⟨b,k,none⟩:=by unfold Addr.add;split<;>simp_all
theorem Qvg(b o k):(⟨b,o,none⟩:Addr).add k=⟨b,o+k,none⟩:=by unfold Addr.add;split<;>simp_all
theorem Q9(a:Addr)(i j):(a.add i).add j=a.add (i+j):=by
 unfold Addr.add
 by_cases b:i=0<;>by_cases c:j=0<;>simp[b,c,Nat.add_assoc]
theorem At.one{w b t l}(h:At w b t l){k v}(a:nth l k=some v):w.cell? ((⟨b,0,none⟩:Addr).add k)=some v:=by
 rw[Q7,h.cell k,<- Qa8,a]
theorem At.one0{w b t l v}(h:At w b t (v::l)):w.cell? (⟨b,0,none⟩:Addr)=some v:=by rw[h.cell 0];rfl
theorem At.all{w b t l}(h:At w b t l):Xq w ⟨b,0,none⟩ l:=fun c v a=>by rw[Q7,h.cell c,a]
theorem At.frozen{w b t l}(h:At w b t l)(k):w.frozen? ⟨b,k,none⟩=false:=by
 unfold At at h;simp[World.frozen?,h]
def Qwf(n:Nat):Nat->List (Nat×Value)->(List Value->Prop)->Prop
 |_,[],K=>K []
 |k,(a,v)::ps,K=>bif Nat.beq a k then(bif Nat.beq (Qg v).length n then Qwf n (k+1) ps fun cs=>appK (Qg v) cs K else False) else False
where appK:List Value->List Value->(List Value->Prop)->Prop
 |[],cs,K=>K cs
 |x::c,cs,K=>appK c cs fun b=>K (x::b)
theorem Q14:∀{xs cs:List Value} {K:List Value->Prop},Qwf.appK xs cs K->K (xs++cs)
 |[],_,_,h=>h
 |x::xs,cs,K,h=>Q14 (xs:=xs) (K:=fun a=>K (x::a)) h
theorem Qrl{n}:∀{ps:List (Nat×Value)} {k:Nat} {K:List Value->Prop},Qwf n k ps K ->
 ∃cs,K cs/\cs.length=ps.length*n/\∀(pre zs:List Value),pre.length=k*n->zs.length=ps.length*n->(n≠0) ->
  Instr.fill (fun i=>some (i*n,n)) (pre++zs).toArray ps=some (pre++cs).toArray
 |[],k,K,h=>⟨[],h,by simp,fun pre zs _ d _=>by
  have:zs=[]:=Zan (by simpa using d);subst this;rfl⟩
 |(i,v)::ps,k,K,h=>by
  simp only[Qwf]at h;cases e:Nat.beq i k<;>simp only[e,cond_true,cond_false]at h
  cases f:Nat.beq (Qg v).length n<;>simp only[f,cond_true,cond_false]at h
  have m:=Za5 e;have b:=Za5 f;subst m;obtain⟨cs,o,s,r⟩:=Qrl h;refine⟨Qg v++cs,Q14 o,by simp[s,b,Zbv,Zdc],fun pre zs c d u=>?_⟩;have y:v.cells.size=n:=by rw[<- b,<- Qat];simp
  have l:zs.length=n+ps.length*n:=by rw[d];simp[Zbv,Zdc]
  simp only[Instr.fill];rw[if_neg (by simp[y,c];omega)];have:v.cells=(Qg v).toArray:=by rw[<- Qat]
  rw[this,<- Array.foldl_toList];simp only[Array.toList_zipIdx];rw[Qjg (Qg v) (pre++zs) (i*n) 0]
  have w:∀(a pre zs:List Value) (k:Nat),pre.length=k->a.length<=zs.length->Q0r (pre++zs) k a=(pre++a)++zs.drop a.length:=by
   intro a
   induction a with
   |nil=>intro pre zs k _ _;simp[Q0r]
   |cons x a A =>
    intro pre zs k g j
    cases zs with
    |nil=>simp at j
    |cons z zs =>
     simp only[Q0r];have:(pre++z::zs).set k x=(pre++[x])++zs:=(by rw[Zcd _ _ (by omega)];simp[g]);rw[this,A (pre++[x]) zs (k+1) (by simp[g]) (by simpa using j)];simp
  rw[w (Qg v) pre zs (i*n+0) (by rw[c];simp) (by rw[b,l];omega)];have:=r (pre++Qg v) (zs.drop (Qg v).length) (by simp[c,b,Zbv]) (by simp[l,b]) u;rw[this];simp
def Xev(P:Program)(T:Tab)(ev:Operand->Option Value)(o:Oper)(w:World)(R:Value->World->Prop):Prop:=
 match o.op with
 |.box t x=>match ev x with
  |some v=>∀b a,New w a b (.cells (Qg v).toArray t)->R (.pointer (some ⟨b,0,none⟩)) a
  |none=>False
 |.alloc t=>match Qi6 T t with
  |some ⟨_,_,_,z⟩=>∀b a,New w a b (.cells (Qg z).toArray t)->R (.pointer (some ⟨b,0,none⟩)) a
  |none=>False
 |.buildSlice t len parts=>match Qi6 T t with
  |some ⟨.slice e n,_,_,_⟩=>bif Nat.beq n 0 then False else match Qi6 T e with
   |some ⟨_,C,_,z⟩=>bif Nat.beq C n then bif Nat.ble (len*n) 16777216 then match evP ev parts.toList with
    |some ps=>bif Nat.beq ps.length len then Qwf n 0 ps fun cs=>∀b a,New w a b (.cells cs.toArray e)->R (.slice (some ⟨b,0,none⟩) len len) a else False
    |none=>False else False else False
   |none=>False
  |_=>False
 |.makeMap t r=>match r with
  |none=>∀b a,New w a b (.map #[] 0)->R (.map (some b)) a
  |some x=>match Qi6 T t with
   |some ⟨.map _ _,_,_,_⟩=>match ev x with
    |some (.int _ _)=>∀b a,New w a b (.map #[] 0)->R (.map (some b)) a
    |_=>False
   |_=>False
 |.makeSlice t l c=>match ev l with
  |some E=>match ev c with
   |some vc=>Qi7 P (Instr.makeSlice t E vc) w R
   |none=>False
  |none=>False
 |.store t x y=>match ev x with
  |some D=>match ev y with
   |some v=>Qys P (Instr.storeAt t D v) w R
   |none=>False
  |none=>False
 |.mapUpdate t m k x|.insert t m k x=>match ev m with
  |some j=>match ev k with
   |some i=>match ev x with
    |some u=>Qys P (Instr.mapUpdate t j i u) w R
    |none=>False
   |none=>False
  |none=>False
 |.mapEntry t m k=>match ev m with
  |some j=>match ev k with
   |some i=>Qi7 P (Instr.mapEntry t j i) w R
   |none=>False
  |none=>False
 |.entryStore t m k x=>match ev m with
  |some j=>match ev k with
   |some i=>match ev x with
    |some u=>Qys P (Instr.entryStore t j i u) w R
    |none=>False
   |none=>False
  |none=>False
 |.range t x=>match ev x with
  |some v=>Qi7 P (Instr.range t v) w R
  |none=>False
 |.next x s=>match ev x with
  |some v=>Qi7 P (Instr.next v s o.type) w R
  |none=>False
 |.entry x=>match ev x with
  |some v=>Qi7 P (Instr.entry v) w R
  |none=>False
 |.convert s d x=>match ev x with
  |some v=>Qi7 P (convert s d v) w R
  |none=>False
 |.call { callee:= .builtin .append,args,argTypes }=>match evL ev args.toList with
  |some h=>Qi7 P (Builtin.append_ argTypes o.type h.toArray) w R
  |none=>False
 |.call { callee:= .builtin .copy,args,argTypes }=>match evL ev args.toList with
  |some h=>Qi7 P (Builtin.copy_ argTypes o.type h.toArray) w R
  |none=>False
 |.call { callee:= .builtin .delete,args,argTypes }=>match evL ev args.toList with
  |some h=>Qi7 P (Builtin.delete_ argTypes o.type h.toArray) w R
  |none=>False
 |.call { callee:= .builtin .clear,args,argTypes }=>match evL ev args.toList with
  |some h=>Qi7 P (Builtin.clear_ argTypes o.type h.toArray) w R
  |none=>False
 |.call { callee:= .value f,args,argTypes:=_ }=>match ev f with
  |some (.func (.func g) F B)=>match evL ev args.toList with
   |some h=>match F.toList with
    |[]=>match B.toList with
     |[]=>Cal P g h w R
     |y::l=>Cal P g (h++y::l) w R
    |x::l=>Cal P g ((x::l)++h++B.toList) w R
   |none=>False
  |_=>False
 |.call { callee:= .invoke r m,args,argTypes:=_ }=>match ev r with
  |some v=>match evL ev args.toList with
   |some h=>∃g A,(callMethod v m h.toArray).run P w=.ok (.enter g A.toArray) w/\Cal P g A w R
   |none=>False
  |none=>False
 |.typeAssert x H t ok=>match ev x with
  |some v=>Qi7 P (Instr.typeAssert v H t ok) w R
  |none=>False
 |_=>False
section
variable {P:Program}{T:Tab}{ev:Operand->Option Value}{w:World}{R:Value->World->Prop}{a:Act}
theorem Qch{o K Q}(s)(c:execOp a.eval o=(do pure (Next.value (<- s))))(h:Qi7 P s w R)(b:∀v w',R v w'->K (a.put o.dst v) w'):o.wp P a w K Q:=by
 obtain⟨v,w',d,e⟩:=h;unfold Oper.wp;rw[c];simp only[Sem.run_bind,d,Result.andThen_ok,Sem.run_pure,Oper.upon];exact b v w' e
theorem Qu5{o K Q}(s)(c:execOp a.eval o=(do s;pure Next.skip))(h:Qys P s w R)(b:∀v w',R v w'->K (a.put o.dst v) w'):o.wp P a w K Q:=by
 obtain⟨w',d,e⟩:=h;unfold Oper.wp;rw[c];simp only[Sem.run_bind,d,Result.andThen_ok,Sem.run_pure,Oper.upon];exact b _ w' e
theorem Xkq{o K Q}(g args)(hop:execOp a.eval o=callFunc g args.toArray)(h:Cal P g args w R)(hR:∀v w',R v w'->K (a.put o.dst v) w'):o.wp P a w K Q:=by
 obtain⟨⟨fn,hf,hn,hb⟩,hc⟩:=h;unfold Oper.wp;rw[hop]
 have hrun:(callFunc g args.toArray).run P w=.ok (.enter g args.toArray) w:=by
  have hn':fn.name ≠ "runtime.NumGoroutine" := by simpa using hn
  have hb':fn.body≠none:=fun e=>by rw[e]at hb;simp at hb
  simp[callFunc,hf,hn',hb']
 rw[hrun];simp only[Oper.upon];exact hc.mono fun e w' ⟨v,he,hv⟩=>by subst he;exact hR v w' hv
theorem Xg7{o K Q}(g args)(f:(execOp a.eval o).run P w=.ok (.enter g args.toArray) w)(h:Cal P g args w R)(b:∀v w',R v w'->K (a.put o.dst v) w'):o.wp P a w K Q:=by
 obtain⟨_,c⟩:=h;unfold Oper.wp;rw[f];simp only[Oper.upon];exact c.mono fun e w' ⟨v,d,i⟩=>by subst d;exact b v w' i
theorem Qor(I:Qbl P T)(j:∀x v,ev x=some v->a.eval x=v){o}(h:Xev P T ev o w R){K Q}(r:∀v w',R v w'->K (a.put o.dst v) w') :
 o.wp P a w K Q:=by
 unfold Xev at h;split at h
 .rename_i t x b;split at h
  .rename_i v hx;refine Qch (R:=R) (Instr.box t v) (by simp[execOp,b,j _ _ hx]) ⟨_,_,?_,h _ _ ⟨rfl,rfl⟩⟩ r;have:v.cells=(Qg v).toArray:=by rw[<- Qat]
   simp[Instr.box,newVar,newRow,this]
  .exact h.elim
 .rename_i t b;split at h
  .rename_i ar au av z H;refine Qch (R:=R) (Instr.alloc t true (.tuple #[])) (by simp[execOp,b]) ⟨_,_,?_,h _ _ ⟨rfl,rfl⟩⟩ r;have:z.cells=(Qg z).toArray:=by rw[<- Qat]
   simp[Instr.alloc,Ql8 (I.get H),newVar,newRow,this]
  .exact h.elim
 .rename_i t len parts b;split at h
  .rename_i e n ar au av H;obtain⟨_,d,_,J,_,S,_⟩:=Xl (I.get H);obtain⟨rfl,bj⟩:=Qnu S;cases al:Nat.beq n 0<;>simp only[al,cond_true,cond_false]at h
   have an:=Zba al;split at h
   .rename_i sh Y ag z a4;cases ah:Nat.beq Y n<;>simp only[ah,cond_true,cond_false]at h
    have a7:=Za5 ah;subst a7;cases af:Nat.ble (len*Y) 16777216<;>simp only[af,cond_true,cond_false]at h
    have bl:=Zbz af;obtain⟨aq,_,ae,bk,ao,_,L,_⟩:=Xl (I.get a4);split at h
    .rename_i ps a9;cases aj:Nat.beq ps.length len<;>simp only[aj,cond_true,cond_false]at h
     have ak:=Za5 aj;obtain⟨cs,az,O,F⟩:=Qrl h;refine Qch (R:=R) (Instr.buildSlice t len (parts.map fun(i,x)=>(i,a.eval x))) (by simp[execOp,b]) ⟨_,_,?_,az _ _ ⟨rfl,rfl⟩⟩ r;have ai:(parts.map fun(i,x)=>(i,a.eval x)).toList=ps:=(by rw[Array.toList_map];exact Q2k (ρ:=a.eval) j a9);simp only at L ao
     by_cases ac:len=0
     .subst ac;have bb:ps=[]:=Zan ak;subst bb;have a3:cs=[]:=Zan (by simpa using O);subst a3;obtain rfl:parts=#[]:=by simpa using ai
      simp[Instr.buildSlice,run_underlying J,sizeOf,typeInfo,ae,Instr.fill,newRow];rw[show (Array.map (fun(_:Nat)=>(default:Value)) (Array.range 0))=#[] from by apply Zci;simp]
     .have a8:¬len*aq.size=0:=(by rw[L];simp only[Nat.mul_eq_zero,not_or];exact⟨ac,an⟩);refine run_buildSlice w t e len _ cs.toArray aq z J ae ao (by rw[L];omega) a8 ?_;rw[ai,L];have a5:=F [] ((Array.range (len*Y)).map (z.cells[·%z.cells.size]!)).toList (by simp) (by simp[ak]) an;rw[Qcs];simpa using a5
    .exact h.elim
   .exact h.elim
  .exact h.elim
 .rename_i t bg b;split at h
  .refine Qch (R:=R) (Instr.makeMap t none) (by simp[execOp,b]) ⟨_,_,?_,h _ _ ⟨rfl,rfl⟩⟩ r;simp[Instr.makeMap]
  .rename_i x;split at h
   .rename_i k e ar au av H;obtain⟨_,d,_,J,_,S,_⟩:=Xl (I.get H);obtain rfl:=Xl5 S;split at h
    .rename_i be n hx;refine Qch (R:=R) (Instr.makeMap t (some (.int be n))) (by simp[execOp,b,j _ _ hx]) ⟨_,_,?_,h _ _ ⟨rfl,rfl⟩⟩ r;simp[Instr.makeMap,run_underlying J,asInt,asIntOf]
    .exact h.elim
   .exact h.elim
 .rename_i t l c b;split at h
  .rename_i bo O;split at h
   .rename_i vc N;exact Qch (R:=R) _ (by simp[execOp,b,j _ _ O,j _ _ N]) h r
   .exact h.elim
  .exact h.elim
 .rename_i t x y b;split at h
  .rename_i bm a0;split at h
   .rename_i v U;exact Qu5 (R:=R) _ (by simp[execOp,b,j _ _ a0,j _ _ U]) h r
   .exact h.elim
  .exact h.elim
 .rename_i t m k x b;split at h
  .rename_i aa D;split at h
   .rename_i Z C;split at h
    .rename_i aw hx;exact Qu5 (R:=R) _ (by simp[execOp,b,j _ _ D,j _ _ C,j _ _ hx]) h r
    .exact h.elim
   .exact h.elim
  .exact h.elim
 .rename_i t m k x b;split at h
  .rename_i aa D;split at h
   .rename_i Z C;split at h
    .rename_i aw hx;exact Qu5 (R:=R) _ (by simp[execOp,b,j _ _ D,j _ _ C,j _ _ hx]) h r
    .exact h.elim
   .exact h.elim
  .exact h.elim
 .rename_i t m k b;split at h
  .rename_i aa D;split at h
   .rename_i Z C;exact Qch (R:=R) _ (by simp[execOp,b,j _ _ D,j _ _ C]) h r
   .exact h.elim
  .exact h.elim
 .rename_i t m k x b;split at h
  .rename_i aa D;split at h
   .rename_i Z C;split at h
    .rename_i aw hx;exact Qu5 (R:=R) _ (by simp[execOp,b,j _ _ D,j _ _ C,j _ _ hx]) h r
    .exact h.elim
   .exact h.elim
  .exact h.elim
 .rename_i t x b;split at h
  .rename_i v hx;exact Qch (R:=R) _ (by simp[execOp,b,j _ _ hx]) h r
  .exact h.elim
 .rename_i x s b;split at h
  .rename_i v hx;exact Qch (R:=R) _ (by simp[execOp,b,j _ _ hx]) h r
  .exact h.elim
 .rename_i x b;split at h
  .rename_i v hx;exact Qch (R:=R) _ (by simp[execOp,b,j _ _ hx]) h r
  .exact h.elim
 .rename_i s d x b;split at h
  .rename_i v hx;exact Qch (R:=R) _ (by simp[execOp,b,j _ _ hx]) h r
  .exact h.elim
 .rename_i args E b;split at h
  .rename_i u B;have A:args.map a.eval=u.toArray:=by rw[Qcs,Qea (ρ:=a.eval) j B]
   exact Qch (R:=R) _ (by simp[execOp,b,resolve,invoke,builtin,A]) h r
  .exact h.elim
 .rename_i args E b;split at h
  .rename_i u B;have A:args.map a.eval=u.toArray:=by rw[Qcs,Qea (ρ:=a.eval) j B]
   exact Qch (R:=R) _ (by simp[execOp,b,resolve,invoke,builtin,A]) h r
  .exact h.elim
 .rename_i args E b;split at h
  .rename_i u B;have A:args.map a.eval=u.toArray:=by rw[Qcs,Qea (ρ:=a.eval) j B]
   exact Qch (R:=R) _ (by simp[execOp,b,resolve,invoke,builtin,A]) h r
  .exact h.elim
 .rename_i args E b;split at h
  .rename_i u B;have A:args.map a.eval=u.toArray:=by rw[Qcs,Qea (ρ:=a.eval) j B]
   exact Qch (R:=R) _ (by simp[execOp,b,resolve,invoke,builtin,A]) h r
  .exact h.elim
 .rename_i f args E b;split at h
  .rename_i g ax ab F;split at h
   .rename_i u B;have A:args.map a.eval=u.toArray:=by rw[Qcs,Qea (ρ:=a.eval) j B]
    split at h
    .rename_i V;have exs:ax=#[]:=by apply Zci;simpa using V
     split at h
     .rename_i W;have M:ab=#[]:=by apply Zci;simpa using W
      exact Xkq (R:=R) g u (by simp[execOp,b,resolve,invoke,j _ _ F,Deferred.ofValue,A,exs,M]) h r
     .rename_i y l W;have M:ab=(y::l).toArray:=by apply Zci;simpa using W
      exact Xkq (R:=R) g (u++y::l) (by simp[execOp,b,resolve,invoke,j _ _ F,Deferred.ofValue,A,exs,M]) h r
    .rename_i x l V;have exs:ax=(x::l).toArray:=by apply Zci;simpa using V
     obtain⟨bi⟩:=ab;exact Xkq (R:=R) g ((x::l)++u++bi) (by simp[execOp,b,resolve,invoke,j _ _ F,Deferred.ofValue,A,exs]) h r
   .exact h.elim
  .exact h.elim
 .rename_i bg m args E b;split at h
  .rename_i v U;split at h
   .rename_i u B;obtain⟨g,bh,bd,N⟩:=h;have A:args.map a.eval=u.toArray:=by rw[Qcs,Qea (ρ:=a.eval) j B]
    refine Xg7 (R:=R) g bh ?_ N r;have ay:execOp a.eval o=callMethod v m u.toArray:=by simp[execOp,b,resolve,invoke,j _ _ U,A]
    rw[ay];exact bd
   .exact h.elim
  .exact h.elim
 .rename_i x bp t ok b;split at h
  .rename_i v hx;exact Qch (R:=R) _ (by simp[execOp,b,j _ _ hx]) h r
  .exact h.elim
 .exact h.elim
end
def Xbj(ops:List Oper)(d:Env)(e:Loc)(g:Option (Nat×Bool))(K:SP->Prop):Prop:=
 match g with
 |none=>K []
 |some (a,b)=>match nth ops a with
  |some c=>match c.dst with
   |some t=>match look d e t with
    |some (q,.bool _)=>K ((t,b)::q)
    |_=>False
   |none=>False
  |none=>False
def Xjg(cl:Cl)(w w':World)(Φ:Prop):Prop:=
 match cl with
 |.same=>Φ
 |.ext=>Ext w w'/\Φ
 |.mods S=>Mod S w w'/\Φ
 |.gen R _=>R w w'/\Φ
def Xmk(P:Program)(T:Tab)(N:Nat)(cl:Cl)(p:SP)(o:Oper)(b:Env)(c:Loc)(G:List Nat)(w:World)(K:World->Env->Loc->List Nat->Prop):Prop:=
 match p with
 |[]=>Xev P T (evO b c []) o w fun v a=>Xjg cl w a (Xhq N [] o.dst v b c G (K a))
 |x::q=>∃(e:Type) (f:e->Value) (R:e->World->Prop) (_:e),Und b c (x::q) (Xev P T (evO b c (x::q)) o w fun v a=>∃d,v=f d/\R d a) /\
   ∀d a,((Hol b c (x::q)/\R d a)\/(¬Hol b c (x::q)/\a=w))->Xjg cl w a (Xhq N (x::q) o.dst (f d) b c G (K a))
def Qe3(P:Program)(T:Tab)(N:Nat)(cl:Cl)(ops:List Oper):List Oper->Env->Loc->List Nat->World->(Env->Loc->List Nat->World->Prop)->Prop
 |[],a,b,G,w,K=>K a b G w
 |o::g,a,b,G,w,K=>Xbj ops a b o.guard fun p =>
   bif still T o.op then
    Xkw P T cl (fun e x=>evO a b (e++p) x) (Und a b p) o.op w fun v=>Xhq N p o.dst v a b G fun d f c=>Qe3 P T N cl ops g d f c w K
   else Xmk P T N cl p o a b G w fun h d f c=>Qe3 P T N cl ops g d f c h K
section region
variable {P:Program}{T:Tab}{N:Nat}{cl:Cl}{ops:List Oper}
theorem Xx{d e G a}(l:Ag N a d e G){o K}(h:Xbj ops d e o.guard K) :
 ∃p,K p/\Region.wanted o (yielded ops.toArray a.tmps)=cnd d e p:=by
 unfold Xbj at h;split at h
 .rename_i f;exact⟨[],h,by simp[Region.wanted,f,cnd]⟩
 .rename_i j b f;split at h
  .rename_i r g;rw[Qa8]at g;split at h
   .rename_i t n;split at h
    .rename_i q c i;refine⟨_,h,?_⟩;have m:=l.look i;simp only[Region.wanted,f,yielded,List.getElem?_toArray,g,Option.bind_some,n,m,cnd,i]
     by_cases k:cnd d e q=true
     .simp[k]
     .simp[k,undef]
    .exact h.elim
   .exact h.elim
  .exact h.elim
theorem Ag.done{a c d G}(h:Ag N a c d G):Ag N a c [] []:=
 ⟨h.defers,h.size,h.env,fun t q v b=>by simp[Qyo]at b,fun t q v b=>by simp[Qyo]at b⟩
theorem Xix{c e p}{t:Nat}{b d}(a:evO c e p (.tmp t)=some (.bool d))(g:d=b)(f:cnd c e p=true):cnd c e ((t,b)::p)=true:=by
 simp only[evO]at a;simp only[cnd];split at a
 .rename_i q v h;cases i:suf q p<;>simp[i]at a
  subst a;simp[h,g,f]
 .cases a
theorem still_step(y:Qbl P T){g i G a w}(n:Ag N a g i G){p o}(s:Region.wanted o (yielded ops.toArray a.tmps)=cnd g i p)
 {K}(h:Xkw P T cl (fun e x=>evO g i (e++p) x) (Und g i p) o.op w fun v=>Xhq N p o.dst v g i G K) :
 ∃v k l j,YieldsIf P ops.toArray (cl.rel w) o v a/\Ag N (a.put o.dst v) k l j/\K k l j:=by
 obtain⟨v,u,A⟩:=Q54 (a:=a) (ev:=fun e x=>evO g i (e++p) x) (c:=cnd g i p=true) y (fun f x v hx=>n.ev (p:=p) hx f)
  (fun f t b d x v B hx z=>n.ev (p:=(t,b)::p) hx (Xix (p:=p) B z f)) (fun D C f=>(Q1s g i D p).1 C f) h
 obtain⟨k,l,j,r,m⟩:=Qio u n
 by_cases f:cnd g i p=true
 .rw[if_pos f]at m;exact⟨v,k,l,j,.inl ⟨s.trans f,A f⟩,m,r⟩
 .rw[if_neg f]at m;exact⟨undef,k,l,j,.inr ⟨by rw[s];simpa using f,rfl⟩,m,r⟩
theorem Qo7{w w'}{Φ:Prop}(h:Xjg cl w w' Φ):(cl=.same\/cl.rel w w')/\Φ:=by
 cases cl with
 |same=>exact⟨.inl rfl,h⟩
 |ext=>exact⟨.inr h.1,h.2⟩
 |mods S=>exact⟨.inr h.1,h.2⟩
 |gen R a=>exact⟨.inr h.1,h.2⟩
theorem Qbz(A:Qbl P T){r s G a w}(j:Ag N a r s G){p o}(D:Region.wanted o (yielded ops.toArray a.tmps)=cnd r s p)
 {K Q}
 (h:Xmk P T N cl p o r s G w K)
 {M}(u:∀y w' m n d,(cl=.same\/cl.rel w w')->Ag N y m n d->K w' m n d->M y w') :
 if Region.wanted o (yielded ops.toArray a.tmps) then o.wp P a w M Q\/(o.asks P a w/\LetsOut Q) else M (a.put o.dst undef) w:=by
 rw[D];unfold Xmk at h
 cases p with
 |nil =>
  rw[if_pos (by simp[cnd])];refine .inl (Qor A (fun x v hx=>j.ev hx (by simp[cnd])) h fun v w' l=>?_);obtain⟨e,g⟩:=Qo7 l;obtain⟨m,n,d,k,b⟩:=Qio g j;rw[if_pos (by simp[cnd])]at b;exact u _ _ _ _ _ e b k
 |cons x q =>
  obtain⟨F,f,R,E,C,z⟩:=h
  by_cases c:cnd r s (x::q)=true
  .rw[if_pos c];refine .inl (Qor A (fun x v hx=>j.ev hx c) ((Q1s _ _ _ _).1 C c) fun v w' l=>?_);obtain⟨i,rfl,l⟩:=l;obtain⟨e,g⟩:=Qo7 (z i w' (.inl ⟨(Qzq _ _ _).2 c,l⟩));obtain⟨m,n,d,k,b⟩:=Qio g j;rw[if_pos c]at b;exact u _ _ _ _ _ e b k
  .rw[if_neg c];obtain⟨e,g⟩:=Qo7 (z E w (.inr ⟨fun B=>c ((Qzq _ _ _).1 B),rfl⟩));obtain⟨m,n,d,k,b⟩:=Qio g j;rw[if_neg c]at b;exact u _ _ _ _ _ e b k
theorem Qpo(f:Qbl P T){K Q}(l:∀a b c G w,Ag N a b c G->K b c G w->Q .normal a w) :
 ∀(d:List Oper) (k:Nat),(∀j,d[j]?=ops[k+j]?)->∀(b:Env) (c:Loc) (G:List Nat) (a:Act) (w:World),Ag N a b c G->Qe3 P T N .same ops d b c G w K ->
  wpOps P ops.toArray Q (List.range' k d.length) a w
 |[],k,_,b,c,G,a,w,e,h=>by
  simp only[Zae,List.range'_zero,wpOps];exact l a b c G w e h
 |o::d,k,y,b,c,G,a,w,e,h=>by
  have r:ops[k]?=some o:=by have:=y 0;simpa using this.symm
  have z:∀j,d[j]?=ops[k+1+j]? := fun j=>(by have:=y (j+1);rw[show k+1+j=k+(j+1) by omega,<- this];rfl)
  simp only[Zx,List.range'_succ];rw[wpOps_cons];simp only[Qe3]at h;obtain⟨p,s,A⟩:=Xx e h;unfold wpOp;simp only[List.getElem?_toArray,r];cases D:still T o.op<;>simp only[D,cond_true,cond_false]at s
  .exact Qbz (cl:= .same) f e A s fun B F u x g _ m n=>Qpo f l d (k+1) z u x g B F m n
  .obtain⟨v,u,x,g,E,m,n⟩:=still_step f e A s;have C:=Qpo f l d (k+1) z u x g _ w m n;have:=YieldsIf.wpOp (Q:=Q) (i:=k) (ops:=ops.toArray) (by simpa using r) E (w:=w) (Cl.refl _ _) C;unfold wpOp at this;simpa only[List.getElem?_toArray,r] using this
end region
def Qhy(ops:List Oper):List Nat->List Oper
 |[]=>[]
 |i::b=>match nth ops i with
  |some a=>a::Qhy ops b
  |none=>[]
def Q2h(ops:Array Oper)(i:Nat):List Nat:=
 (List.range ops.size).foldl (fun D a=>bif ((ops[a]?).map fun b=>b.after.any fun e=>Region.binds .any e&&(e.on == i||D.contains e.on)).getD false then a::D else D) []
def Xkn(ops:Array Oper)(D:List Nat)(i:Nat):Bool:=
 D.all fun d=>match ops[d]? with
  |some a=>a.after.any fun e=>Region.binds .any e&&(e.on == i||D.contains e.on)
  |none=>false
def Qrv(ops:Array Oper)(B:List Nat)(listed:Array Bool)(i:Nat):Bool:=
 !B.contains i&&(let D:=Q2h ops i;B.all (D.contains ·)&&Xkn ops D i&&D.all fun d=>!listed.getD d false)
def Qct(T:Tab)(ops:Array Oper)(B:List Nat):List Nat->Array Bool->Bool
 |[],listed=>canonB ops B listed
 |i::a,listed=>match ops[i]? with
  |none=>false
  |some b=>(bif still T b.op then(Region.ready .any ops listed).contains i&&Region.free .any ops listed i&&Qrv ops B listed i else Region.ready .any ops listed == [i]&&!B.contains i)&&Qct T ops B a (listed.setIfInBounds i true)
where canonB (ops:Array Oper):List Nat->Array Bool->Bool
 |[],listed=>(Region.ready .any ops listed).isEmpty
 |i::a,listed=>(ops[i]?).isSome&&Region.ready .any ops listed == [i]&&canonB ops a (listed.setIfInBounds i true)
def Q8q(T:Tab)(ops:Array Oper)(A B:List Nat):Bool:=Region.noSelect ops&&(A.length+B.length == ops.size)&&Qct T ops B A (Array.replicate ops.size false)
section
variable {P:Program}{T:Tab}{N:Nat}{cl:Cl}{ops:List Oper}
def wpT(P:Program)(ops:Array Oper)(Q:Exit->Act->World->Prop)(S:Array Bool->World->Prop):Nat->Array Bool->Act->World->Prop
 |0,listed,a,w=>Region.ready .any ops listed=[]/\Q .normal a w
 |fuel+1,listed,a,w =>
  (Region.ready .any ops listed=[]->Q .normal a w) /\
  ∀b∈Region.ready .any ops listed,wpOp P ops Q b (fun d c=>S (listed.setIfInBounds b true) c/\wpT P ops Q S fuel (listed.setIfInBounds b true) d c) a w
theorem Qd3{ops Q S}:∀(fuel:Nat) (listed:Array Bool) (a:Act) (w:World),wpT P ops Q S fuel listed a w->wpAny P .any ops Q fuel listed a w
 |0,_,_,_,h=>h
 |fuel+1,_,_,_,h=>⟨h.1,fun e d=>wpOp_mono (fun b f c=>Qd3 fuel _ b f c.2) (h.2 e d)⟩
theorem Qcr{ops Q S S'}(h:∀L w,S' L w->S L w) :
 ∀(fuel:Nat) (listed:Array Bool) (a:Act) (w:World),wpT P ops Q S' fuel listed a w->wpT P ops Q S fuel listed a w
 |0,_,_,_,b=>b
 |fuel+1,_,_,_,b=>⟨b.1,fun f e=>wpOp_mono (fun d g c=>⟨h _ _ c.1,Qcr h fuel _ d g c.2⟩) (b.2 f e)⟩
def noneOf(B:List Nat)(L:Array Bool):Prop:=∀a∈B,L.getD a false=false
theorem Qbr{B L i}(h:noneOf B L)(hi:i∉B):noneOf B (L.setIfInBounds i true):=fun b a=>by
 have c:i≠b:=fun e=>hi (by rw[e];exact a)
 rw[getD_set_ne false c];exact h b a
theorem Qqk{ops Q B D C i m v}(hi:ops[i]?=some m)(aa:∀(j:Nat) (o:Oper) cs b,ops[j]?=some o->o.op≠.select cs b)
 (ai:∀c a w,Q (.panic c) (a.put m.dst v) w->Q (.panic c) a w)(ak:i∉B)(O:∀j∈B,j∈D)
 (ah:∀d∈D,∀ac,ops[d]?=some ac->∃e∈ac.after,Region.binds .any e=true/\(e.on=i\/e.on∈D)) :
 ∀(n:Nat) (listed:Array Bool) (a:Act) (w:World),
  (∀j g,ops[j]?=some g->j≠i->listed.getD j true=false->(∀e∈g.after,Region.binds .any e=true->e.on≠i)->m.apart ops g=true) ->
  i∈Region.ready .any ops listed->noneOf D listed->YieldsIf P ops C m v a->C w ->
  wpT P ops Q (fun L w=>noneOf B L->C w) n (listed.setIfInBounds i true) (a.put m.dst v) w->wpT P ops Q (fun L w=>noneOf B L->C w) (n+1) listed a w:=by
 intro n
 induction n with
 |zero =>
  intro listed a w _ l x I r H;refine⟨fun h=>(by rw[h]at l;cases l),fun j A=>?_⟩
  by_cases f:j=i
  .subst f;exact I.wpOp hi r ⟨fun _=>r,H⟩
  .have:=ready_mono A f;rw[H.1]at this;cases this
 |succ n au =>
  intro listed a w V l x I r H;refine⟨fun h=>(by rw[h]at l;cases l),fun j A=>?_⟩
  by_cases f:j=i
  .subst f;exact I.wpOp hi r ⟨fun _=>r,H⟩
  .have u:=H.2 j (ready_mono A f);obtain⟨Y,g,F,U⟩:=mem_ready.1 A
   have al:listed.getD i false=false:=by
    have N:=(mem_ready.1 l).1;rcases Zb6 i listed.size with J|J
    .simp[J]at N⊢;exact N
    .simp[Zbx J]
   have Z:∀e∈g.after,Region.binds .any e=true->e.on≠i:=fun e z y heq=>(by have u:=U e z y;rw[heq,al]at u;cases u)
   have E:j∉D:=fun E=>by
    obtain⟨e,z,y,s⟩:=ah j E g F;rcases s with s|s
    .exact Z e z y s
    .have:=U e z y;rw[x _ s]at this;cases this
   have an:j∉B:=fun h=>E (O j h)
   have aq:noneOf B ((listed.setIfInBounds i true).setIfInBounds j true):=Qbr (Qbr (fun k M=>x k (O k M)) ak) an;have ag:=wpOp_putIf (S:=C) F (V j g F f Y Z) (fun cs b=>aa i m cs b hi) (fun cs b=>aa j g cs b F) ai I u
   have aj:∀k ok,ops[k]?=some ok->k≠i->(listed.setIfInBounds j true).getD k true=false ->
    (∀e∈ok.after,Region.binds .any e=true->e.on≠i)->m.apart ops ok=true:=fun k ok M ao ab ar=>by
    refine V k ok M ao ?_ ar
    by_cases W:j=k
    .subst W;exact Y
    .rw[getD_set_ne true W]at ab;exact ab
   refine wpOp_mono (fun af ae K=>?_) ag;have R:C ae:=K.2.1 aq;refine⟨fun _=>R,au (listed.setIfInBounds j true) af ae aj (ready_mono l (Ne.symm f)) (Qbr x E) K.1 R ?_⟩;rw[Array.setIfInBounds_comm _ _ f];exact K.2.2
theorem Qly(l:Qbl P T){K Q}(s:∀a c d G w,Ag N a c d G->K c d G w->Q .normal a w){B0}{C:World->Prop} :
 ∀(B:List Nat) (listed:Array Bool) (c:Env) (d:Loc) (G:List Nat) (a:Act) (w:World),Qct.canonB ops.toArray B listed=true->(∀j∈B,j∈B0)->listed.size=ops.length->Ag N a c d G->Qe3 P T N .same ops (Qhy ops B) c d G w K ->
  wpT P ops.toArray Q (fun L w=>noneOf B0 L->C w) B.length listed a w
 |[],listed,c,d,G,a,w,g,_,_,f,h=>by
  simp only[Qct.canonB,List.isEmpty_iff]at g;exact⟨g,s a c d G w f h⟩
 |i::B,listed,c,d,G,a,w,g,r,x,f,h=>by
  simp only[Qct.canonB,Zk]at g;obtain⟨⟨S,U⟩,H⟩:=g;obtain⟨o,y⟩:=Zcj.1 S;have J:ops[i]?=some o:=by simpa using y
  have O:Region.ready .any ops.toArray listed=[i]:=by simpa using U
  simp only[Qhy,Qa8,J]at h;simp only[Qe3]at h;obtain⟨p,z,R⟩:=Xx f h;have W:i<listed.size:=by rw[x];exact(Zi.1 J).1
  have F:∀b,noneOf B0 (listed.setIfInBounds i true)->C b:=fun b Y=>(by have:=Y i (r i (by simp));simp[W]at this)
  refine⟨fun E=>(by rw[O]at E;cases E),fun j I=>?_⟩;rw[O]at I;obtain rfl:j=i:=by simpa using I
  cases Z:still T o.op<;>simp only[Z,cond_true,cond_false]at z
  .have:=Qbz (Q:=Q) (cl:= .same) l f R z (M:=fun n b=>(noneOf B0 (listed.setIfInBounds j true)->C b)/\wpT P ops.toArray Q (fun L w=>noneOf B0 L->C w) B.length (listed.setIfInBounds j true) n b)
    fun n b A D m _ u e=>⟨F b,Qly l s B _ A D m n b H (fun k e=>r k (by simp[e])) (by simpa using x) u e⟩
   unfold wpOp;simpa only[y] using this
  .obtain⟨v,A,D,m,aa,u,e⟩:=still_step l f R z;have V:=Qly l s (B0:=B0) (C:=C) B (listed.setIfInBounds j true) A D m _ w H (fun k e=>r k (by simp[e])) (by simpa using x) u e;exact YieldsIf.wpOp (Q:=Q) (i:=j) (ops:=ops.toArray) y aa (w:=w) (Cl.refl _ _) ⟨F w,V⟩
theorem Qpn(r:Qbl P T)(S:Region.noSelect ops.toArray=true)(B){K Q}(E:∀a g k G w,Ag N a g k G->K g k G w->Q .normal a w)(O:∀c a w,¬Q (.panic c) a w) :
 ∀(b:List Nat) (listed:Array Bool) (g:Env) (k:Loc) (G:List Nat) (a:Act) (w:World),Qct T ops.toArray B b listed=true->listed.size=ops.length->Ag N a g k G ->
  Qe3 P T N cl ops (Qhy ops b) g k G w (fun x y n w'=>Qe3 P T N .same ops (Qhy ops B) x y n w' K) ->
  (cl=.same->∀i∈b,∀o,ops[i]?=some o->still T o.op=true) ->
  wpT P ops.toArray Q (fun L w'=>noneOf B L->cl.rel w w') (b.length+B.length) listed a w
 |[],listed,g,k,G,a,w,f,z,s,h,_=>by
  simp only[Qct]at f;simp only[Zae,Za6];exact Qly r E B listed g k G a w f (fun _ h=>h) z s h
 |i::b,listed,g,k,G,a,w,f,z,s,h,ac=>by
  simp only[Qct]at f;rw[show (i::b).length+B.length=(b.length+B.length)+1 by simp;omega]
  cases m:ops.toArray[i]? with
  |none=>rw[m]at f;simp at f
  |some o =>
   rw[m]at f;simp only[Zk]at f;obtain⟨u,V⟩:=f;have Y:ops[i]?=some o:=by simpa using m
   have ae:cl=.same->∀i∈b,∀o,ops[i]?=some o->still T o.op=true:=fun e j l o aq=>ac e j (by simp[l]) o aq
   simp only[Qhy,Qa8,Y]at h;simp only[Qe3]at h;obtain⟨p,R,af⟩:=Xx s h;cases ab:still T o.op<;>simp only[ab,cond_true,cond_false]at R u
   .have au:cl≠.same:=fun e=>by have:=ac e i (by simp) o Y;rw[ab]at this;cases this
    simp only[Zk]at u;have Z:Region.ready .any ops.toArray listed=[i]:=by simpa using u.1
    refine⟨fun U=>(by rw[Z]at U;cases U),fun j l=>?_⟩;rw[Z]at l;obtain rfl:j=i:=by simpa using l
    have:=Qbz (Q:=Q) r s af R (M:=fun A w'=>(noneOf B (listed.setIfInBounds j true)->cl.rel w w')/\wpT P ops.toArray Q (fun L w'=>noneOf B L->cl.rel w w') (b.length+B.length) (listed.setIfInBounds j true) A w')
     fun A w' x y n aw F J=>by
      have aa:=aw.resolve_left au;exact⟨fun _=>aa,Qcr (fun L a0 ax ar=>cl.trans aa (ax ar)) _ _ _ _ (Qpn r S B E O b _ x y n A w' V (by simpa using z) F J ae)⟩
    unfold wpOp;simpa only[m] using this
   .obtain⟨v,x,y,n,ay,F,J⟩:=still_step r s af R;simp only[Zk]at u;obtain⟨⟨al,ag⟩,W⟩:=u;simp only[Qrv,Zk,Zam]at W;obtain⟨ah,⟨ai,aj⟩,ak⟩:=W
    refine Qqk (B:=B) (D:=Q2h ops.toArray i) (C:=cl.rel w) m (Region.noSelect_spec S) (fun c a w ao=>(O _ _ _ ao).elim) (by simpa using ah)
     (fun j l=>by have:=Zaa.1 ai j l;simpa using this) ?_ _ listed a w (Region.free_spec m ag) (by simpa using al)
     (fun d I=>by have:=Zaa.1 ak d I;simpa using this) ay (Cl.refl _ _) (Qpn r S B E O b _ x y n _ w V (by simpa using z) F J ae)
    intro d I az av;have:=Zaa.1 aj d I;rw[av]at this;obtain⟨e,an,H⟩:=Array.any_eq_true'.1 this;simp only[Zk,Zbg,beq_iff_eq,List.contains_eq_mem,decide_eq_true_eq]at H;exact⟨e,an,H.1,H.2⟩
end
abbrev KN:=Env->World->Prop
abbrev KE:=List (Nat×(Env->World->Prop))
def Qzk:List (Nat×(Env->World->Prop))->Nat->Option (Env->World->Prop)
 |[],_=>none
 |(t,k)::a,s=>bif Nat.beq t s then some k else Qzk a s
def toQ(N:Nat)(kn:KN)(ex:KE)(rt:KN):Exit->Act->World->Prop
 |.normal,a,w=>∃b,Ag N a b [] []/\kn b w
 |.exit id,a,w=>∃b k,Qzk ex id=some k/\Ag N a b [] []/\k b w
 |.ret,a,w=>∃b,Ag N a b [] []/\rt b w
 |_,_,_=>False
@[irreducible] def SemC (P:Program) (N:Nat) (c:Code) (Γ:Env) (w:World) (kn:KN) (ex:KE) (rt:KN):Prop:=∀a,Ag N a Γ [] []->c.wp P (toQ N kn ex rt) a w
def exs(id:Nat):Code->Nat
 |.seq a b=>exs id a+exs id b
 |.cond _ a b=>exs id a+exs id b
 |.block _ c=>exs id c
 |.loop c=>exs id c
 |.exit d=>bif Nat.beq id d then 1 else 0
 |_=>0
def nrm:Code->Nat
 |.seq a b=>nrm a*nrm b
 |.cond _ a b=>nrm a+nrm b
 |.block id c=>nrm c+exs id c
 |.loop _=>0
 |.exit _=>0
 |.ret=>0
 |.goto _=>0
 |_=>1
def vc(P:Program)(T:Tab)(N:Nat):Code->Env->World->KN->KE->KN->Prop
 |.skip,a,w,d,ex,e=>d a w
 |.label _,a,w,d,ex,e=>d a w
 |.region id ops i,a,w,d,ex,e=>bif i then SemC P N (.region id ops true) a w d ex e else Qe3 P T N .same ops.toList ops.toList a [] [] w fun h _ _ g=>d h g
 |.seq x y,a,w,d,ex,e=>bif Nat.ble 2 (nrm x) then SemC P N (.seq x y) a w d ex e else vc P T N x a w (fun h g=>vc P T N y h g d ex e) ex e
 |.cond c x y,a,w,d,ex,e=>match evO a [] [] c with
  |some (.bool b)=>(b=true->vc P T N x a w d ex e)/\(b=false->vc P T N y a w d ex e)
  |_=>False
 |.block id c,a,w,d,ex,e=>vc P T N c a w d ((id,d)::ex) e
 |.loop c,a,w,d,ex,e=>SemC P N (.loop c) a w d ex e
 |.exit id,a,w,d,ex,e=>match Qzk ex id with
  |some k=>k a w
  |none=>False
 |.ret,a,w,d,ex,e=>e a w
 |.scope c,a,w,d,ex,e=>SemC P N (.scope c) a w d ex e
 |.rangeFunc f ps x y,a,w,d,ex,e=>SemC P N (.rangeFunc f ps x y) a w d ex e
 |.goto _,_,_,_,_,_=>False
 |.refuse _,_,_,_,_,_=>False
section
variable {P:Program}{T:Tab}{N:Nat}
theorem Q43{t s k l}:Qzk ((t,k)::l) s=if t=s then some k else Qzk l s:=by
 simp only[Qzk]
 by_cases h:t=s
 .subst h;simp
 .have:Nat.beq t s=false:=by rw[<- Zai];exact fun e=>h (Za5 e)
  simp[this,h]
theorem Qh3(o:Qbl P T):∀(c:Code) {d:Env} {w:World} {kn:KN} {ex:KE} {rt:KN},vc P T N c d w kn ex rt->SemC P N c d w kn ex rt
 |.skip,d,w,kn,ex,rt,h=>by unfold SemC;exact fun a g=>wp_skip ⟨d,g,h⟩
 |.label _,d,w,kn,ex,rt,h=>by unfold SemC;exact fun a g=>wp_label ⟨d,g,h⟩
 |.region id ops B,d,w,kn,ex,rt,h=>by
  cases B with
  |true=>exact h
  |false =>
   unfold SemC;intro a g;have C:Qe3 P T N .same ops.toList ops.toList d [] [] w (fun n _ _ s=>kn n s):=h;refine wp_region ?_;have:=Qpo (Q:=toQ N kn ex rt) o (fun a d I G w r m=>⟨d,r.done,m⟩) ops.toList 0 (fun j=>by simp) d [] [] a w g C;simpa [List.range_eq_range'] using this
 |.seq x y,d,w,kn,ex,rt,h=>by
  simp only[vc]at h;cases E:Nat.ble 2 (nrm x)<;>simp only[E,cond_true,cond_false]at h
  case true=>exact h
  unfold SemC;intro a g;refine wp_seq ?_;have hx:=Qh3 o x (kn:=fun n s=>vc P T N y n s kn ex rt) (ex:=ex) (rt:=rt) h;unfold SemC at hx;refine wp_mono (hx a g) fun e v s i=>?_
  cases e with
  |normal =>
   obtain⟨n,r,F⟩:=i;have A:=Qh3 o y F;unfold SemC at A;exact A v r
  |exit id=>exact i
  |ret=>exact i
  |goto l=>exact i
  |panic c=>exact i
  |outgrown=>exact i
 |.cond c x y,d,w,kn,ex,rt,h=>by
  unfold SemC;intro a g;simp only[vc]at h;split at h
  .rename_i b D;have u:a.eval c=.bool b:=g.ev D (by simp[cnd]);refine wp_cond_split u (fun e=>?_) (fun e=>?_)
   .have:=Qh3 o x (h.1 e);unfold SemC at this;exact this a g
   .have:=Qh3 o y (h.2 e);unfold SemC at this;exact this a g
  .exact h.elim
 |.block id c,d,w,kn,ex,rt,h=>by
  unfold SemC;intro a g;refine wp_block ?_;have u:=Qh3 o c (kn:=kn) (ex:=(id,kn)::ex) (rt:=rt) h;unfold SemC at u;refine wp_mono (u a g) fun e v s i=>?_
  cases e with
  |normal=>exact i
  |exit H =>
   obtain⟨n,k,m,r,z⟩:=i;rw[Q43]at m;simp only[Exit.inBlock]
   by_cases hid:H=id
   .rw[if_pos hid];rw[if_pos hid.symm]at m;obtain rfl:kn=k:=by simpa using m
    exact⟨n,r,z⟩
   .rw[if_neg hid];rw[if_neg (fun e=>hid e.symm)]at m;exact⟨n,k,m,r,z⟩
  |ret=>exact i
  |goto l=>exact i
  |panic c=>exact i
  |outgrown=>exact i
 |.loop c,d,w,kn,ex,rt,h=>h
 |.exit id,d,w,kn,ex,rt,h=>by
  unfold SemC;intro a g;simp only[vc]at h;split at h
  .rename_i k m;exact wp_exit ⟨d,k,m,g,h⟩
  .exact h.elim
 |.ret,d,w,kn,ex,rt,h=>by unfold SemC;exact fun a g=>wp_ret ⟨d,g,h⟩
 |.scope c,d,w,kn,ex,rt,h=>h
 |.rangeFunc f ps x y,d,w,kn,ex,rt,h=>h
 |.goto _,_,_,_,_,_,h=>h.elim
 |.refuse _,_,_,_,_,_,h=>h.elim
theorem Ql(cl:Cl)(A B:List Nat)(l:Qbl P T)(x:P.follows .mixedOrders=true){id:Nat}{ops:Array Oper}{b:Env}{w:World}{kn:KN}{ex:KE}{rt:KN}(d:Q8q T ops A B=true)
 (z:cl=.same->A.all (fun i=>match ops[i]? with|some o=>still T o.op|none=>true)=true)
 (h:Qe3 P T N cl ops.toList (Qhy ops.toList A) b [] [] w.drew fun D F f w'=>Qe3 P T N .same ops.toList (Qhy ops.toList B) D F f w' fun E _ _ C=>kn E C):SemC P N (.region id ops true) b w kn ex rt:=by
 unfold SemC;intro a m;simp only[Q8q,Zk,beq_iff_eq]at d;obtain⟨⟨g,j⟩,k⟩:=d
 have:=Qpn (ops:=ops.toList) (Q:=toQ N kn ex rt) l g B (fun a b H G w n v=>⟨b,n.done,v⟩) (fun c a w y=>y) A (Array.replicate ops.size false) b [] [] a w.drew k (by simp) m h
  (fun e i r o s=>by
   have:=Zaa.1 (z e) i r;have u:ops[i]?=some o:=by simpa using s
   simpa [u] using this)
 rw[j]at this;exact wp_region_any x (Qd3 _ _ _ _ this)
def Sub:Env->Env->Prop
 |[],_=>True
 |(t,v)::b,a=>get a t=some v/\Sub b a
theorem Sub.get:∀{E a:Env},Sub E a->∀{t v},Se.get E t=some v->Se.get a t=some v
 |[],_,_,_,_,h=>by simp[Se.get]at h
 |(s,u)::E,a,b,t,v,h=>by
  rw[Qno]at h
  by_cases e:s=t
  .rw[if_pos e]at h;obtain rfl:u=v:=by simpa using h
   rw[<- e];exact b.1
  .rw[if_neg e]at h;exact Sub.get b.2 h
theorem Ag.sub{a E c}(h:Ag N a c [] [])(d:Sub E c):Ag N a E [] []:=
 ⟨h.defers,h.size,fun t v e=>h.env t v (d.get e),fun t q v b=>by simp[Qyo]at b,fun t q v b=>by simp[Qyo]at b⟩
theorem Qh(s:Qbl P T){ι:Type}(g:ι->World->Prop)(E:ι->Env)(f:ι->Nat)(i0){c h w kn ex rt}(k:g i0 w)(m:Sub (E i0) h)
 (round:∀i w,g i w->vc P T N c (E i) w (fun j w'=>∃d,f d<f i/\g d w'/\Sub (E d) j) ex rt):SemC P N (.loop c) h w kn ex rt:=by
 unfold SemC;intro a u;refine wp_loop_ghost (fun n a w=>∃i,f i=n/\g i w/\Ag N a (E i) [] []) (f i0) ⟨i0,rfl,k,u.sub m⟩ ?_;rintro n a w ⟨i,rfl,o,v⟩;have:=Qh3 s c (round i w o);unfold SemC at this;refine wp_mono (this a v) fun e A w' b=>?_
 cases e with
 |normal =>
  obtain⟨j,x,d,y,r,z⟩:=b;exact⟨f d,y,d,rfl,r,x.sub z⟩
 |exit id=>exact b
 |ret=>exact b
 |goto l=>exact b
 |panic c=>exact b
 |outgrown=>exact b
theorem Qa(d:Qbl P T){x y g w kn ex rt}(h:vc P T N x g w (fun i w'=>vc P T N y i w' kn ex rt) ex rt):SemC P N (.seq x y) g w kn ex rt:=by
 have f:=Qh3 d x h;unfold SemC at f⊢;intro a k;refine wp_seq (wp_mono (f a k) fun e j w' b=>?_)
 cases e with
 |normal =>
  obtain⟨i,m,n⟩:=b;have:=Qh3 d y n;unfold SemC at this;exact this j m
 |exit id=>exact b
 |ret=>exact b
 |goto l=>exact b
 |panic c=>exact b
 |outgrown=>exact b
theorem Xi(d:Qbl P T){x y g w kn ex rt}{ι:Type}(E:ι->Env)(M:ι->World->Prop)
 (hx:vc P T N x g w (fun h w'=>∃i,M i w'/\Sub (E i) h) ex rt)(r:∀i w',M i w'->vc P T N y (E i) w' kn ex rt):SemC P N (.seq x y) g w kn ex rt:=by
 have f:=Qh3 d x hx;unfold SemC at f⊢;intro a m;refine wp_seq (wp_mono (f a m) fun e j w' b=>?_)
 cases e with
 |normal =>
  obtain⟨h,n,i,k,o⟩:=b;have:=Qh3 d y (r i w' k);unfold SemC at this;exact this j (n.sub o)
 |exit id=>exact b
 |ret=>exact b
 |goto l=>exact b
 |panic c=>exact b
 |outgrown=>exact b
def Q0i(T:Tab):List ResultVar->Env->World->(List Value->Prop)->Prop
 |[],_,_,K=>K []
 |.tmp t::rs,b,w,K=>match get b t with
  |some v=>Q0i T rs b w fun c=>K (v::c)
  |none=>False
 |.cell t ty::rs,b,w,K=>match get b t with
  |some (.pointer (some a))=>match Qi6 T ty with
   |some ⟨_,n,true,_⟩=>∃cs,(cs.length=n/\Xq w a cs)/\Q0i T rs b w fun c=>K (.agg cs.toArray::c)
   |some ⟨_,_,false,_⟩=>∃v,w.cell? a=some v/\Q0i T rs b w fun c=>K (v::c)
   |none=>False
  |_=>False
def Xm1(T:Tab)(rs:List ResultVar)(R:Value->World->Prop)(a:Env)(w:World):Prop:=
 Q0i T rs a w fun vs=>match vs with
  |[v]=>R v w
  |vs=>R (.tuple vs.toArray) w
def Qss:List Value->Env
 |[]=>[]
 |[a]=>[(0,a)]
 |[a,b]=>[(0,a),(1,b)]
 |[a,b,c]=>[(0,a),(1,b),(2,c)]
 |[a,b,c,d]=>[(0,a),(1,b),(2,c),(3,d)]
 |[a,b,c,d,e]=>[(0,a),(1,b),(2,c),(3,d),(4,e)]
 |[a,b,c,d,e,f]=>[(0,a),(1,b),(2,c),(3,d),(4,e),(5,f)]
 |[a,b,c,d,e,f,g]=>[(0,a),(1,b),(2,c),(3,d),(4,e),(5,f),(6,g)]
 |[a,b,c,d,e,f,g,h]=>[(0,a),(1,b),(2,c),(3,d),(4,e),(5,f),(6,g),(7,h)]
 |_=>[]
theorem Xi6(t):get [] t=none:=rfl
theorem Q4a(args t v)(h:get (Qss args) t=some v):args[t]?=some v:=by
 unfold Qss at h;split at h<;>(simp only[Qno,Xi6]at h)<;>(repeat' split at h)<;>(first|(cases h;done)|(subst_vars;simpa using h))
def rvS(tmps:Array Value):ResultVar->Sem Value
 |.tmp t=>pure (tmps.getD t undef)
 |.cell a t=>do loadVar t (<- asAddr (tmps.getD a undef))
theorem Quj(b:Qbl P T){l w a}(e:Ag N a l [] []):∀(rs:List ResultVar) {K:List Value->Prop},Q0i T rs l w K ->
 ∃vs,K vs/\(rs.mapM (rvS a.tmps)).run P w=.ok vs w
 |[],K,h=>⟨[],h,by simp⟩
 |.tmp t::rs,K,h=>by
  simp only[Q0i]at h;split at h
  .rename_i v i;obtain⟨vs,d,f⟩:=Quj b e rs h;have:=e.env t v i;have c:(rvS a.tmps (.tmp t)).run P w=.ok v w:=by simp[rvS,Zcq,this]
   exact⟨v::vs,d,by simp[List.mapM_cons,f,c]⟩
  .exact h.elim
 |.cell t ty::rs,K,h=>by
  simp only[Q0i]at h;split at h
  .rename_i p i;have k:=e.env t _ i;split at h
   .rename_i sh n z g;obtain⟨cs,⟨r,m⟩,h⟩:=h;obtain⟨vs,d,f⟩:=Quj b e rs h;have j:=run_loadCells_list (P:=P) (w:=w) p cs m;rw[r]at j;have c:(rvS a.tmps (.cell t ty)).run P w=.ok (.agg cs.toArray) w:=(by simp[rvS,Zcq,k,asAddr,loadVar,Qn1 (b.get g),Qk7 (b.get g),j]);exact⟨_,d,by simp[List.mapM_cons,f,c]⟩
   .rename_i sh n z g;obtain⟨v,o,h⟩:=h;obtain⟨vs,d,f⟩:=Quj b e rs h;have c:(rvS a.tmps (.cell t ty)).run P w=.ok v w:=(by simp[rvS,Zcq,k,asAddr,loadVar,Qn1 (b.get g),o]);exact⟨_,d,by simp[List.mapM_cons,f,c]⟩
   .exact h.elim
  .exact h.elim
theorem Q6c(fn:Func)(tmps:Array Value):results fn tmps=(do let vs <- fn.results.mapM (rvS tmps);pure (if h:vs.size=1 then vs[0] else .tuple vs)):=by
 unfold results;congr 1
theorem Qd(hT:Qbl P T){f:FuncId}{fn:Func}{body:Code}{args:List Value}{w:World}{R:Value->World->Prop}(hf:P.funcs[f]?=some fn)
 (hn:(fn.name == "runtime.NumGoroutine")=false)(hb:fn.body=some body)(rs:List ResultVar)(hrs:fn.results.toList=rs)(hN:fn.ntmps=N)(hargs:Nat.ble args.length N=true)
 (h:vc P T N body (Qss args) w (Xm1 T rs R) [] (Xm1 T rs R)):Cal P f args w R:=by
 have hle:args.length<=N:=Zbz hargs;refine⟨⟨fn,hf,hn,by rw[hb];rfl⟩,calls_of_wp hf hb ?_⟩;have hs:=Qh3 hT body h;unfold SemC at hs;have ha:Ag N { tmps:=args.toArray++Array.replicate (fn.ntmps-args.toArray.size) undef,defers:= [] } (Qss args) [] []:=(by refine⟨rfl,by simp[hN];omega,fun t v ht=>?_,fun t q v hl=>by simp[Qyo]at hl,fun t q v hl=>by simp[Qyo]at hl⟩;have:=Q4a args t v ht;have hlt:t<args.length:=(Zi.1 this).1;rw[Array.getElem?_append_left (by simpa using hlt)];simpa using this);refine wp_mono (hs _ ha) fun e a' w' hq=>?_
 have key:∀Γ,Ag N a' Γ [] []->Xm1 T rs R Γ w'->a'.defers=[]/\∃v,(results fn a'.tmps).run P w'=.ok v w'/\∃u,Ending.returned v=.returned u/\R u w':=by
  intro Γ hag hk;obtain⟨vs,hK,hr⟩:=Quj hT hag rs hk;refine⟨hag.defers,?_⟩
  have hres:∃v,(results fn a'.tmps).run P w'=.ok v w'/\R v w':=by
   rw[Q6c,Array.mapM_eq_mapM_toList,hrs];simp only[Sem.run_bind,Sem.run_map,hr,Result.andThen_ok,Sem.run_pure]
   match vs,hK with
   |[v],hK=>exact⟨v,by simp,hK⟩
   |[],hK=>exact⟨.tuple #[],by simp,hK⟩
   |u::v::l,hK=>exact⟨.tuple (u::v::l).toArray,by simp,hK⟩
  obtain⟨v,hv,hR⟩:=hres;exact⟨v,hv,v,rfl,hR⟩
 cases e with
 |normal=>obtain⟨Γ,hag,hk⟩:=hq;exact key Γ hag hk
 |ret=>obtain⟨Γ,hag,hk⟩:=hq;exact key Γ hag hk
 |exit id=>obtain⟨Γ,k,hk,_⟩:=hq;simp[Qzk]at hk
 |goto l=>exact hq.elim
 |panic c=>exact hq.elim
 |outgrown=>exact hq.elim
end
def Xnl(P:Program)(t:TypeId):List (String×Nat×Nat):=(P.fieldsOf t).toList.map fun f=>(f.name,f.type,f.offset)
structure Xib(P:Program)(t:TypeId)(fs:List (String×Nat×Nat)):Prop where
 und:P.underlying t=some (.struct (P.fieldsOf t))
 fields:Xnl P t=fs
 guard:P.eqGuardType P.depth t=false
 held:P.stoodInHeld t=false
def eqL(T:Tab):List (String×Nat×Nat)->List Value->List Value->Option Bool
 |[],_,_=>some true
 |(nm,t,off)::fs,xs,ys=>bif nm == "_" then none else match Qi6 T t with
  |some ⟨.int _,_,_,_⟩=>match nth xs off with
   |some (.int k a)=>match nth ys off with
    |some (.int k' b)=>bif decide (k=k') then match eqL T fs xs ys with
     |some r=>some (decide (a=b)&&r)
     |none=>none else none
    |_=>none
   |_=>none
  |some ⟨.str,_,_,_⟩=>match nth xs off with
   |some (.string a)=>match nth ys off with
    |some (.string b)=>match eqL T fs xs ys with
     |some r=>some (decide (a=b)&&r)
     |none=>none
    |_=>none
   |_=>none
  |some ⟨.bool,_,_,_⟩=>match nth xs off with
   |some (.bool a)=>match nth ys off with
    |some (.bool b)=>match eqL T fs xs ys with
     |some r=>some (decide (a=b)&&r)
     |none=>none
    |_=>none
   |_=>none
  |_=>none
theorem Xcm{P d}(h:Qyq P d=.bool):d=.bool:=by cases d<;>simp[Qyq]at h;rfl
theorem Qcc{P:Program}{t:TypeId}{d:TypeDesc}(a:P.underlying t=some d)(b:(match d with|.struct _|.array _ _=>true|_=>false)=false){xs:List Value}{off:Nat}{v:Value}(h:nth xs off=some v)(w:World) :
 (part t xs.toArray off).run P w=.ok v w:=by
 rw[Qa8]at h;have:(isAgg t).run P w=.ok false w:=(by unfold isAgg;simp only[Sem.run_bind,run_underlying a,Result.andThen_ok];cases d<;>simp_all);simp[part,this,h]
theorem Qj9{P T}(hT:Qbl P T)(d):∀{gs:List Field} {fs:List (String×Nat×Nat)} {xs ys:List Value} {b:Bool},gs.map (fun f=>(f.name,f.type,f.offset))=fs->eqL T fs xs ys=some b ->
 ∀w,(Op.eqFields (d+1) xs.toArray ys.toArray gs).run P w=.ok b w
 |[],fs,xs,ys,b,hg,h,w=>by
  simp at hg;subst hg;obtain rfl:true=b:=by simpa [eqL] using h
  simp[Op.eqFields]
 |g::gs,[],xs,ys,b,hg,h,w=>by simp at hg
 |g::gs,(nm,t,off)::fs,xs,ys,b,hg,h,w=>by
  simp only[Zm,Zc4,Prod.mk.injEq]at hg;obtain⟨⟨rfl,rfl,rfl⟩,hg'⟩:=hg;simp only[eqL]at h
  cases hnm:(g.name == "_")<;>simp only [hnm,cond_true,cond_false]at h
  case true=>cases h
  have hnm':g.name ≠ "_" := by simpa using hnm
  split at h
  .rename_i k0 s1 s2 s3 ht;obtain⟨_,d0,_,hd,_,hsh,_⟩:=Xl (hT.get ht);obtain rfl:=Xcn hsh;split at h
   .rename_i k a ha;split at h
    .rename_i k' c hc
     by_cases hk:k=k'
     .subst hk;simp only[decide_true,cond_true]at h;split at h
      .rename_i r hr;obtain rfl:(decide (a=c)&&r)=b:=by simpa using h
       have ih:=Qj9 hT d hg' hr w;have p1:=Qcc hd rfl ha w;have p2:=Qcc hd rfl hc w;have p3:=run_equalIn_int (P:=P) w d g.type k k0 a c hd;simp only[Op.eqFields,if_pos hnm',Sem.run_bind,p1,p2,p3,Result.andThen_ok]
       by_cases e:a=c
       .simp[e,ih]
       .simp[e]
      .cases h
     .simp[hk]at h
    .cases h
   .cases h
  .rename_i s1 s2 s3 ht;obtain⟨_,d0,_,hd,_,hsh,_⟩:=Xl (hT.get ht);obtain rfl:=Qse hsh;split at h
   .rename_i a ha;split at h
    .rename_i c hc;split at h
     .rename_i r hr;obtain rfl:(decide (a=c)&&r)=b:=by simpa using h
      have ih:=Qj9 hT d hg' hr w;have p1:=Qcc hd rfl ha w;have p2:=Qcc hd rfl hc w;have p3:=run_equalIn_string (P:=P) w d g.type a c hd;rw[str_eq]at p3;simp only[Op.eqFields,if_pos hnm',Sem.run_bind,p1,p2,p3,Result.andThen_ok]
      by_cases e:a=c
      .simp[e,ih]
      .simp[e]
     .cases h
    .cases h
   .cases h
  .rename_i s1 s2 s3 ht;obtain⟨_,d0,_,hd,_,hsh,_⟩:=Xl (hT.get ht);obtain rfl:=Xcm hsh;split at h
   .rename_i a ha;split at h
    .rename_i c hc;split at h
     .rename_i r hr;obtain rfl:(decide (a=c)&&r)=b:=by simpa using h
      have ih:=Qj9 hT d hg' hr w;have p1:=Qcc hd rfl ha w;have p2:=Qcc hd rfl hc w;have p3:=run_equalIn_bool' (P:=P) w d g.type a c hd;simp only[Op.eqFields,if_pos hnm',Sem.run_bind,p1,p2,p3,Result.andThen_ok]
      by_cases e:a=c
      .simp[e,ih]
      .simp[e]
     .cases h
    .cases h
   .cases h
  .cases h
theorem Qmg{P T}(d:Qbl P T){t c}(a:Xib P t c){xs ys b}(h:eqL T c xs ys=some b)(w) :
 (Op.equal t (.agg xs.toArray) (.agg ys.toArray)).run P w=.ok b w:=by
 have:=run_equalIn_struct (P:=P) w 9999 t xs.toArray ys.toArray a.und a.held;unfold Op.equal Op.maxDepth;rw[this];exact Qj9 d 9998 a.fields h w
theorem Qwi{P T}(j:Qbl P T){t c}(a:Xib P t c){ox oy xs ys b}(h:eqL T c xs ys=some b) :
 Qve P t ox oy (.agg xs.toArray) (.agg ys.toArray) b:=by
 intro w;have g:=run_eqGuard_agg (P:=P) w .eql t ox oy xs.toArray ys.toArray a.guard;have i:=run_eqGuard_agg (P:=P) w .neq t ox oy xs.toArray ys.toArray a.guard;have d:=run_eql_struct (P:=P) w t xs.toArray ys.toArray;have e:=run_neq_struct (P:=P) w t xs.toArray ys.toArray;have f:=Qmg j a h w;unfold Op.equal Op.maxDepth at f;rw[f]at d e;constructor
 .simp only[Sem.run_bind,g,Result.andThen_ok,d]
 .simp only[Sem.run_bind,i,Result.andThen_ok,e]
inductive Pl where
 |done
 |one (i:Nat) (p:Pl)
 |two (i:Nat) (p:Pl) (j:Nat) (q:Pl)
def Pl.size:Pl->Nat
 |.done=>0
 |.one _ p=>p.size+1
 |.two _ p _ _=>p.size+1
def Pl.seq:List Nat->Pl->Pl
 |[],p=>p
 |i::a,p=>.one i (Pl.seq a p)
def Xhl(T:Tab)(ops:Array Oper):Pl->Array Bool->Bool
 |.done,listed=>(Region.ready .any ops listed).isEmpty
 |.one a p,listed=>match ops[a]? with
  |none=>false
  |some c=>(bif still T c.op then(Region.ready .any ops listed).contains a&&Region.free .any ops listed a else Region.ready .any ops listed == [a])&&Xhl T ops p (listed.setIfInBounds a true)
 |.two a p b q,listed=>match ops[a]? with
  |none=>false
  |some c=>match ops[b]? with
   |none=>false
   |some d=>!still T c.op&&!still T d.op&&Region.ready .any ops listed == [a,b]&&p.size == q.size&&Xhl T ops p (listed.setIfInBounds a true)&&Xhl T ops q (listed.setIfInBounds b true)
section
variable {P:Program}{T:Tab}{N:Nat}{cl:Cl}{ops:List Oper}
def Qfk(P:Program)(T:Tab)(N:Nat)(cl:Cl)(ops:List Oper)(o:Oper)(a:Env)(b:Loc)(G:List Nat)(w:World)(K:Env->Loc->List Nat->World->Prop):Prop:=
 Xbj ops a b o.guard fun p =>
  bif still T o.op then
   Xkw P T cl (fun e x=>evO a b (e++p) x) (Und a b p) o.op w fun v=>Xhq N p o.dst v a b G fun d f c=>K d f c w
  else Xmk P T N cl p o a b G w fun g d f c=>K d f c g
def Xky(P:Program)(T:Tab)(N:Nat)(cl:Cl)(ops:List Oper):Pl->Env->Loc->List Nat->World->(Env->Loc->List Nat->World->Prop)->Prop
 |.done,a,b,G,w,K=>K a b G w
 |.one i p,a,b,G,w,K=>match nth ops i with
  |some d=>Qfk P T N cl ops d a b G w fun f g c e=>Xky P T N cl ops p f g c e K
  |none=>False
 |.two i p h q,a,b,G,w,K=>(match nth ops i with
  |some d=>Qfk P T N cl ops d a b G w fun f g c e=>Xky P T N cl ops p f g c e K
  |none=>False)/\(match nth ops h with
  |some d=>Qfk P T N cl ops d a b G w fun f g c e=>Xky P T N cl ops q f g c e K
  |none=>False)
theorem Qkp(o:Qbl P T)(z:cl≠.same)(U:Region.noSelect ops.toArray=true){K Q}(I:∀a m n G w,Ag N a m n G->K m n G w->Q .normal a w)(O:∀c a w,¬Q (.panic c) a w) :
 ∀(pl:Pl) (listed:Array Bool) (m:Env) (n:Loc) (G:List Nat) (a:Act) (w:World),Xhl T ops.toArray pl listed=true->Ag N a m n G ->
  Xky P T N cl ops pl m n G w K->wpT P ops.toArray Q (fun L w'=>noneOf [] L->cl.rel w w') pl.size listed a w
 |.done,listed,m,n,G,a,w,b,g,h=>by
  simp only[Xhl,List.isEmpty_iff]at b;exact⟨b,I a m n G w g h⟩
 |.one i pl,listed,m,n,G,a,w,b,g,h=>by
  simp only[Xhl]at b
  cases f:ops.toArray[i]? with
  |none=>rw[f]at b;simp at b
  |some ab =>
   rw[f]at b;simp only[Zk]at b;obtain⟨y,W⟩:=b;have ag:ops[i]?=some ab:=by simpa using f
   simp only[Xky,Qa8,ag]at h;unfold Qfk at h;obtain⟨p,F,aa⟩:=Xx g h;cases ah:still T ab.op<;>simp only[ah,cond_true,cond_false]at F y
   .have R:Region.ready .any ops.toArray listed=[i]:=by simpa using y
    refine⟨fun H=>(by rw[R]at H;cases H),fun j Y=>?_⟩;rw[R]at Y;obtain rfl:j=i:=by simpa using Y
    have:=Qbz (Q:=Q) o g aa F (M:=fun e w'=>(noneOf [] (listed.setIfInBounds j true)->cl.rel w w')/\wpT P ops.toArray Q (fun L w'=>noneOf [] L->cl.rel w w') pl.size (listed.setIfInBounds j true) e w')
     fun e w' A E s S x l=>by
      have r:=S.resolve_left z;exact⟨fun _=>r,Qcr (fun L aj V J=>cl.trans r (V J)) _ _ _ _ (Qkp o z U I O pl _ A E s e w' W x l)⟩
    unfold wpOp;simpa only[f] using this
   .obtain⟨v,A,E,s,au,x,l⟩:=still_step o g aa F;simp only[Zk]at y
    exact Qqk (B:= []) (D:= []) (C:=cl.rel w) f (Region.noSelect_spec U) (fun c a w ak=>(O _ _ _ ak).elim) (by simp)
     (fun j Y=>by simp at Y) (fun d af=>by simp at af) _ listed a w (Region.free_spec f y.2) (by simpa using y.1)
     (fun d af=>by simp at af) au (Cl.refl _ _) (Qkp o z U I O pl _ A E s _ w W x l)
 |.two i pl j av,listed,m,n,G,a,w,b,g,h=>by
  simp only[Xhl]at b
  cases f:ops.toArray[i]? with
  |none=>rw[f]at b;simp at b
  |some ab =>
   rw[f]at b
   cases Z:ops.toArray[j]? with
   |none=>rw[Z]at b;simp at b
   |some u =>
    rw[Z]at b;simp only[Zk,Zam,beq_iff_eq]at b;obtain⟨⟨⟨⟨⟨ah,an⟩,R⟩,ao⟩,y⟩,W⟩:=b;have ag:ops[i]?=some ab:=by simpa using f
    have aq:ops[j]?=some u:=by simpa using Z
    obtain⟨ac,ae⟩:=h;simp only[Qa8,ag]at ac;simp only[Qa8,aq]at ae;unfold Qfk at ac ae;obtain⟨p,F,aa⟩:=Xx g ac;obtain⟨aw,ai,ar⟩:=Xx g ae;simp only[ah,an,cond_false]at F ai;refine⟨fun H=>(by rw[R]at H;cases H),fun k l=>?_⟩;rw[R]at l;have al:k=i\/k=j:=by simpa using l
    rcases al with rfl|rfl
    .have:=Qbz (Q:=Q) o g aa F (M:=fun e w'=>(noneOf [] (listed.setIfInBounds k true)->cl.rel w w')/\wpT P ops.toArray Q (fun L w'=>noneOf [] L->cl.rel w w') pl.size (listed.setIfInBounds k true) e w')
      fun e w' A E s S x l=>by
       have r:=S.resolve_left z;exact⟨fun _=>r,Qcr (fun L aj V J=>cl.trans r (V J)) _ _ _ _ (Qkp o z U I O pl _ A E s e w' y x l)⟩
     unfold wpOp;simpa only[f] using this
    .have:=Qbz (Q:=Q) o g ar ai (M:=fun e w'=>(noneOf [] (listed.setIfInBounds k true)->cl.rel w w')/\wpT P ops.toArray Q (fun L w'=>noneOf [] L->cl.rel w w') pl.size (listed.setIfInBounds k true) e w')
      fun e w' A E s S x l=>by
       have r:=S.resolve_left z;refine⟨fun _=>r,?_⟩;rw[ao];exact Qcr (fun L aj V J=>cl.trans r (V J)) _ _ _ _ (Qkp o z U I O av _ A E s e w' W x l)
     unfold wpOp;simpa only[Z] using this
theorem Qhl(cl pl)(n:cl≠.same)(i:Qbl P T)(m:P.follows .mixedOrders=true){id ops b w kn ex rt}(d:(Region.noSelect ops&&(pl.size == ops.size)&&Xhl T ops pl (Array.replicate ops.size false))=true)
 (h:Xky P T N cl ops.toList pl b [] [] w.drew fun r _ _ w'=>kn r w'):SemC P N (.region id ops true) b w kn ex rt:=by
 unfold SemC;intro a j;simp only[Zk,beq_iff_eq]at d;obtain⟨⟨e,f⟩,g⟩:=d;have:=Qkp (ops:=ops.toList) (Q:=toQ N kn ex rt) i n e (fun a b s G w k l=>⟨b,k.done,l⟩) (fun c a w o=>o) pl (Array.replicate ops.size false) b [] [] a w.drew g j h;rw[f]at this;exact wp_region_any m (Qd3 _ _ _ _ this)
theorem Qsm{ops Q S B D C i m v}(hi:ops[i]?=some m)(ac:∀(j:Nat) (o:Oper) cs b,ops[j]?=some o->o.op≠.select cs b)
 (al:∀c a w,Q (.panic c) (a.put m.dst v) w->Q (.panic c) a w)(ao:∀L w,S (L.setIfInBounds i true) w->S L w)(an:∀L w,noneOf B L->S L w->C w)(ar:i∉B)(U:∀j∈B,j∈D)
 (ak:∀d∈D,∀af,ops[d]?=some af->∃e∈af.after,Region.binds .any e=true/\(e.on=i\/e.on∈D)) :
 ∀(n:Nat) (listed:Array Bool) (a:Act) (w:World),
  (∀j g,ops[j]?=some g->j≠i->listed.getD j true=false->(∀e∈g.after,Region.binds .any e=true->e.on≠i)->m.apart ops g=true) ->
  i∈Region.ready .any ops listed->noneOf D listed->YieldsIf P ops C m v a->C w->S (listed.setIfInBounds i true) w ->
  wpT P ops Q S n (listed.setIfInBounds i true) (a.put m.dst v) w->wpT P ops Q S (n+1) listed a w:=by
 intro n
 induction n with
 |zero =>
  intro listed a w _ l u I M N H;refine⟨fun h=>(by rw[h]at l;cases l),fun j A=>?_⟩
  by_cases f:j=i
  .subst f;exact I.wpOp hi M ⟨N,H⟩
  .have:=ready_mono A f;rw[H.1]at this;cases this
 |succ n az =>
  intro listed a w Y l u I M N H;refine⟨fun h=>(by rw[h]at l;cases l),fun j A=>?_⟩
  by_cases f:j=i
  .subst f;exact I.wpOp hi M ⟨N,H⟩
  .have s:=H.2 j (ready_mono A f);obtain⟨aa,g,F,V⟩:=mem_ready.1 A
   have au:listed.getD i false=false:=by
    have R:=(mem_ready.1 l).1;rcases Zb6 i listed.size with J|J
    .simp[J]at R⊢;exact R
    .simp[Zbx J]
   have ab:∀e∈g.after,Region.binds .any e=true->e.on≠i:=fun e z y heq=>(by have s:=V e z y;rw[heq,au]at s;cases s)
   have E:j∉D:=fun E=>by
    obtain⟨e,z,y,r⟩:=ak j E g F;rcases r with r|r
    .exact ab e z y r
    .have:=V e z y;rw[u _ r]at this;cases this
   have av:j∉B:=fun h=>E (U j h)
   have ax:noneOf B ((listed.setIfInBounds i true).setIfInBounds j true):=Qbr (Qbr (fun k O=>u k (U k O)) ar) av;have ai:=wpOp_putIf (S:=C) F (Y j g F f aa ab) (fun cs b=>ac i m cs b hi) (fun cs b=>ac j g cs b F) al I s
   have aq:∀k ok,ops[k]?=some ok->k≠i->(listed.setIfInBounds j true).getD k true=false ->
    (∀e∈ok.after,Region.binds .any e=true->e.on≠i)->m.apart ops ok=true:=fun k ok O aw ae ay=>by
    refine Y k ok O aw ?_ ay
    by_cases Z:j=k
    .subst Z;exact aa
    .rw[getD_set_ne true Z]at ae;exact ae
   refine wpOp_mono (fun ah ag K=>?_) ai;have x:=K.2.1;have aj:C ag:=an _ _ ax x;have W:(listed.setIfInBounds i true).setIfInBounds j true=(listed.setIfInBounds j true).setIfInBounds i true:=Array.setIfInBounds_comm _ _ (Ne.symm f);rw[W]at x;refine⟨ao _ _ x,az (listed.setIfInBounds j true) ah ag aq (ready_mono l (Ne.symm f)) (Qbr u E) K.1 aj x ?_⟩;rw[<- W];exact K.2.2
def SS(a B:List Nat)(b:World)(cl:Cl)(w:World)(L:Array Bool)(w':World):Prop:=(noneOf a L->w'=b)/\(noneOf B L->cl.rel w w')
theorem Qmn{B L i}(h:noneOf B (L.setIfInBounds i true)):noneOf B L:=fun a c=>by
 have:=h a c
 by_cases e:i=a
 .subst e;rcases Zb6 i L.size with d|b
  .simp[d]at this
  .simp[Zbx b]
 .rw[getD_set_ne false e]at this;exact this
theorem Qjk(l:Qbl P T){K Q}(s:∀a c d G w,Ag N a c d G->K c d G w->Q .normal a w){B0:List Nat}{S}(u:∀(L:Array Bool) (w:World) (i:Nat),i<L.size->i∈B0->S (L.setIfInBounds i true) w) :
 ∀(B:List Nat) (listed:Array Bool) (c:Env) (d:Loc) (G:List Nat) (a:Act) (w:World),Qct.canonB ops.toArray B listed=true->(∀j∈B,j∈B0)->listed.size=ops.length->Ag N a c d G->Qe3 P T N .same ops (Qhy ops B) c d G w K ->
  wpT P ops.toArray Q S B.length listed a w
 |[],listed,c,d,G,a,w,g,_,_,f,h=>by
  simp only[Qct.canonB,List.isEmpty_iff]at g;exact⟨g,s a c d G w f h⟩
 |i::B,listed,c,d,G,a,w,g,r,y,f,h=>by
  simp only[Qct.canonB,Zk]at g;obtain⟨⟨U,V⟩,H⟩:=g;obtain⟨o,z⟩:=Zcj.1 U;have J:ops[i]?=some o:=by simpa using z
  have O:Region.ready .any ops.toArray listed=[i]:=by simpa using V
  simp only[Qhy,Qa8,J]at h;simp only[Qe3]at h;obtain⟨p,A,R⟩:=Xx f h;have Y:i<listed.size:=by rw[y];exact(Zi.1 J).1
  refine⟨fun E=>(by rw[O]at E;cases E),fun j I=>?_⟩;rw[O]at I;obtain rfl:j=i:=by simpa using I
  have F:∀b,S (listed.setIfInBounds j true) b:=fun b=>u _ _ _ Y (r j (by simp))
  cases Z:still T o.op<;>simp only[Z,cond_true,cond_false]at A
  .have:=Qbz (Q:=Q) (cl:= .same) l f R A (M:=fun n b=>S (listed.setIfInBounds j true) b/\wpT P ops.toArray Q S B.length (listed.setIfInBounds j true) n b)
    fun n b C D m _ x e=>⟨F b,Qjk l s u B _ C D m n b H (fun k e=>r k (by simp[e])) (by simpa using y) x e⟩
   unfold wpOp;simpa only[z] using this
  .obtain⟨v,C,D,m,aa,x,e⟩:=still_step l f R A;have W:=Qjk l s u B (listed.setIfInBounds j true) C D m _ w H (fun k e=>r k (by simp[e])) (by simpa using y) x e;exact YieldsIf.wpOp (Q:=Q) (i:=j) (ops:=ops.toArray) z aa (w:=w) (Cl.refl _ _) ⟨F w,W⟩
def Q16(T:Tab)(ops:Array Oper)(b A B:List Nat):List (Nat×Bool)->Array Bool->Bool
 |[],listed=>Qct T ops B A listed
 |(a,s)::d,listed=>match ops[a]? with
  |none=>false
  |some c=>still T c.op&&(Region.ready .any ops listed).contains a&&Region.free .any ops listed a&&Qrv ops (bif s then b else B) listed a&&!b.contains a&&!B.contains a&&Q16 T ops b A B d (listed.setIfInBounds a true)
def Q29(P:Program)(T:Tab)(N:Nat)(cl:Cl)(ops:List Oper):List (Nat×Bool)->Env->Loc->List Nat->World->(Env->Loc->List Nat->World->Prop)->Prop
 |[],a,b,G,w,K=>K a b G w
 |(i,s)::f,a,b,G,w,K=>match nth ops i with
  |some c=>Xbj ops a b c.guard fun p=>Xkw P T (match s with|true=>.same|false=>cl) (fun e x=>evO a b (e++p) x) (Und a b p) c.op w fun v=>Xhq N p c.dst v a b G fun g h d=>Q29 P T N cl ops f g h d w K
  |none=>False
theorem Qlx(x:Qbl P T)(ah:Region.noSelect ops.toArray=true)(f B r)(R:∀j∈B,j∈f){K Q}(V:∀a m n G w,Ag N a m n G->K m n G w->Q .normal a w)(af:∀c a w,¬Q (.panic c) a w) :
 ∀(g:List Nat) (listed:Array Bool) (m:Env) (n:Loc) (G:List Nat) (a:Act) (w:World),(∀i∈g,∀o,ops[i]?=some o->(still T o.op=false↔i∈f))->Qct T ops.toArray B g listed=true->listed.size=ops.length->Ag N a m n G->(noneOf f listed->w=r) ->
  Qe3 P T N cl ops (Qhy ops g) m n G w (fun F H u w'=>Qe3 P T N .same ops (Qhy ops B) F H u w' K) ->
  (cl=.same->∀i∈g,∀o,ops[i]?=some o->still T o.op=true) ->
  wpT P ops.toArray Q (SS f B r cl w) (g.length+B.length) listed a w
 |[],listed,m,n,G,a,w,_,k,A,y,ai,h,_=>by
  simp only[Qct]at k;simp only[Zae,Za6];exact Qjk x V (B0:=B) (S:=SS f B r cl w) (fun L w' i aq ak=>⟨fun b=>by have:=b i (R i ak);simp[aq]at this,fun b=>by have:=b i ak;simp[aq]at this⟩) B listed m n G a w k (fun _ h=>h) A y h
 |i::g,listed,m,n,G,a,w,U,k,A,y,ai,h,ax=>by
  simp only[Qct]at k;rw[show (i::g).length+B.length=(g.length+B.length)+1 by simp;omega]
  cases s:ops.toArray[i]? with
  |none=>rw[s]at k;simp at k
  |some o =>
   rw[s]at k;simp only[Zk]at k;obtain⟨z,an⟩:=k;have E:ops[i]?=some o:=by simpa using s
   have bd:i<listed.size:=by rw[A];exact(Zi.1 E).1
   have ay:cl=.same->∀i∈g,∀o,ops[i]?=some o->still T o.op=true:=fun e j l o ac=>ax e j (by simp[l]) o ac
   have al:∀i∈g,∀o,ops[i]?=some o->(still T o.op=false↔i∈f):=fun j l o ac=>U j (by simp[l]) o ac
   simp only[Qhy,Qa8,E]at h;simp only[Qe3]at h;obtain⟨p,ag,az⟩:=Xx y h;cases J:still T o.op<;>simp only[J,cond_true,cond_false]at ag z
   .have be:cl≠.same:=fun e=>by have:=ax e i (by simp) o E;rw[J]at this;cases this
    have ab:i∈f:=(U i (by simp) o E).1 J;simp only[Zk]at z;have av:Region.ready .any ops.toArray listed=[i]:=by simpa using z.1
    refine⟨fun aj=>(by rw[av]at aj;cases aj),fun j l=>?_⟩;rw[av]at l;obtain rfl:j=i:=by simpa using l
    have au:¬noneOf f (listed.setIfInBounds j true):=fun b=>by have:=b j ab;simp[bd]at this
    have:=Qbz (Q:=Q) x y az ag (M:=fun O w'=>SS f B r cl w (listed.setIfInBounds j true) w'/\wpT P ops.toArray Q (SS f B r cl w) (g.length+B.length) (listed.setIfInBounds j true) O w')
     fun O w' F H u bh W ae=>by
      have aw:=bh.resolve_left be;exact⟨⟨fun b=>(au b).elim,fun _=>aw⟩,Qcr (fun L bk a0=>⟨a0.1,fun b=>cl.trans aw (a0.2 b)⟩) _ _ _ _ (Qlx x ah f B r R V af g _ F H u O w' al an (by simpa using A) W (fun b=>(au b).elim) ae ay)⟩
    unfold wpOp;simpa only[s] using this
   .obtain⟨v,F,H,u,bi,W,ae⟩:=still_step x y az ag;have ab:i∉f:=fun aa=>by have:=(U i (by simp) o E).2 aa;rw[J]at this;cases this
    simp only[Zk]at z;obtain⟨⟨a9,a3⟩,ao⟩:=z;simp only[Qrv,Zk,Zam]at ao;obtain⟨a4,⟨a5,a7⟩,a8⟩:=ao;have ar:i∉B:=by simpa using a4
    refine Qsm (B:=B) (D:=Q2h ops.toArray i) (C:=cl.rel w) s (Region.noSelect_spec ah) (fun c a w aa=>(af _ _ _ aa).elim) (fun L w' I=>⟨fun b=>I.1 (Qbr b ab),fun b=>I.2 (Qbr b ar)⟩) (fun L w' b I=>I.2 b) ar
     (fun j l=>by have:=Zaa.1 a5 j l;simpa using this) ?_ _ listed a w (Region.free_spec s a3) (by simpa using a9)
     (fun d Z=>by have:=Zaa.1 a8 d Z;simpa using this) bi (Cl.refl _ _) ⟨fun b=>ai (Qmn b),fun _=>Cl.refl _ _⟩ (Qlx x ah f B r R V af g _ F H u _ w al an (by simpa using A) W (fun b=>ai (Qmn b)) ae ay)
    intro d Z bj bg;have:=Zaa.1 a7 d Z;rw[bg]at this;obtain⟨e,bb,Y⟩:=Array.any_eq_true'.1 this;simp only[Zk,Zbg,beq_iff_eq,List.contains_eq_mem,decide_eq_true_eq]at Y;exact⟨e,bb,Y.1,Y.2⟩
theorem Qr2(O:Qbl P T)(W:Region.noSelect ops.toArray=true)(f A B b)(Y:∀j∈B,j∈f){K Q}(aa:∀a k l G w,Ag N a k l G->K k l G w->Q .normal a w)(V:∀c a w,¬Q (.panic c) a w)
 (Z:∀i∈A,∀o,ops[i]?=some o->(still T o.op=false↔i∈f))(ab:cl=.same->∀i∈A,∀o,ops[i]?=some o->still T o.op=true) :
 ∀(n:List (Nat×Bool)) (listed:Array Bool) (k:Env) (l:Loc) (G:List Nat) (a:Act),Q16 T ops.toArray f A B n listed=true->listed.size=ops.length->Ag N a k l G ->
  Q29 P T N cl ops n k l G b (fun z E u w'=>Qe3 P T N cl ops (Qhy ops A) z E u w' (fun z E u w'=>Qe3 P T N .same ops (Qhy ops B) z E u w' K)) ->
  wpT P ops.toArray Q (SS f B b cl b) (n.length+(A.length+B.length)) listed a b
 |[],listed,k,l,G,a,g,U,H,h=>by
  rw[show ([]:List (Nat×Bool)).length+(A.length+B.length)=A.length+B.length by simp];exact Qlx O W f B b Y aa V A listed k l G a b Z g U H (fun _=>rfl) h ab
 |(i,s)::n,listed,k,l,G,a,g,U,H,h=>by
  simp only[Q16]at g;rw[show ((i,s)::n).length+(A.length+B.length)=(n.length+(A.length+B.length))+1 by simp;omega]
  cases y:ops.toArray[i]? with
  |none=>rw[y]at g;simp at g
  |some o =>
   rw[y]at g;simp only[Zk,Zam]at g;obtain⟨⟨⟨⟨⟨⟨a3,al⟩,ah⟩,x⟩,J⟩,I⟩,ag⟩:=g;have aw:ops[i]?=some o:=by simpa using y
   have J:i∉f:=by simpa using J
   have I:i∉B:=by simpa using I
   simp only[Q29,Qa8,aw]at h;obtain⟨p,ay,az⟩:=Xx H h;obtain⟨v,z,E,u,M,af,av⟩:=still_step O H az ay;have ao:=Qr2 O W f A B b Y aa V Z ab n (listed.setIfInBounds i true) z E u _ ag (by simpa using U) af av
   have ae:∃X:List Nat,∃F:Cl,YieldsIf P ops.toArray (F.rel b) o v a/\Qrv ops.toArray X listed i=true/\i∉X/\∀L w',noneOf X L->SS f B b cl b L w'->F.rel b w':=by
    cases s with
    |true=>exact⟨f,.same,M,x,J,fun L w' m r=>r.1 m⟩
    |false=>exact⟨B,cl,M,x,I,fun L w' m r=>r.2 m⟩
   obtain⟨X,F,M,x,ar,ac⟩:=ae;simp only[Qrv,Zk,Zam]at x;obtain⟨a0,⟨ai,aj⟩,ak⟩:=x
   refine Qsm (B:=X) (D:=Q2h ops.toArray i) (C:=F.rel b) y (Region.noSelect_spec W) (fun c a w aq=>(V _ _ _ aq).elim) (fun L w' r=>⟨fun m=>r.1 (Qbr m J),fun m=>r.2 (Qbr m I)⟩) ac ar
    (fun j au=>by have:=Zaa.1 ai j au;simpa using this) ?_ _ listed a b (Region.free_spec y ah) (by simpa using al)
    (fun d S=>by have:=Zaa.1 ak d S;simpa using this) M (Cl.refl _ _) ⟨fun _=>rfl,fun _=>Cl.refl _ _⟩ ao
   intro d S a4 ax;have:=Zaa.1 aj d S;rw[ax]at this;obtain⟨e,an,R⟩:=Array.any_eq_true'.1 this;simp only[Zk,Zbg,beq_iff_eq,List.contains_eq_mem,decide_eq_true_eq]at R;exact⟨e,an,R.1,R.2⟩
theorem Qdt(cl:Cl)(O:List (Nat×Bool))(A B b:List Nat)(C:Qbl P T)(m:P.follows .mixedOrders=true){id:Nat}{ops:Array Oper}{d:Env}{w:World}{kn:KN}{ex:KE}{rt:KN}
 (s:(Region.noSelect ops&&(O.length+(A.length+B.length) == ops.size)&&B.all (b.contains ·)&&A.all (fun i=>match ops[i]? with|some o=>(!still T o.op) == b.contains i|none=>true)&&Q16 T ops b A B O (Array.replicate ops.size false))=true)
 (J:cl=.same->A.all (fun i=>match ops[i]? with|some o=>still T o.op|none=>true)=true)
 (h:Q29 P T N cl ops.toList O d [] [] w.drew fun n r f w'=>Qe3 P T N cl ops.toList (Qhy ops.toList A) n r f w' fun n r f w'=>Qe3 P T N .same ops.toList (Qhy ops.toList B) n r f w' fun L _ _ K=>kn L K):SemC P N (.region id ops true) d w kn ex rt:=by
 unfold SemC;intro a D;simp only[Zk,beq_iff_eq]at s;obtain⟨⟨⟨⟨u,v⟩,y⟩,z⟩,x⟩:=s
 have:=Qr2 (ops:=ops.toList) (Q:=toQ N kn ex rt) C u b A B w.drew (fun j F=>by have:=Zaa.1 y j F;simpa using this) (fun a d M G w E H=>⟨d,E.done,H⟩) (fun c a w I=>I)
  (fun i g o k=>by
   have:=Zaa.1 z i g;have l:ops[i]?=some o:=by simpa using k
   simp only[l,beq_iff_eq]at this;have m:(b.contains i=true)↔i∈b:=by simp
   rw[<- m,<- this];simp)
  (fun e i g o k=>by
   have:=Zaa.1 (J e) i g;have l:ops[i]?=some o:=by simpa using k
   simpa [l] using this) O (Array.replicate ops.size false) d [] [] a x (by simp) D h
 rw[v]at this;exact wp_region_any m (Qd3 _ _ _ _ this)
end
theorem Ql1{P N c d w kn ex rt}{ι:Type}(E:ι->Env)(M:ι->World->Prop)
 (hx:SemC P N c d w (fun f w'=>∃i,M i w'/\Sub (E i) f) ex rt)(m:∀i w',M i w'->kn (E i) w'):SemC P N c d w kn ex rt:=by
 unfold SemC at hx⊢;intro a h;refine wp_mono (hx a h) fun e n w' b=>?_
 cases e with
 |normal =>
  obtain⟨f,j,i,g,k⟩:=b;exact⟨E i,j.sub k,m i w' g⟩
 |exit id=>exact b
 |ret=>exact b
 |goto l=>exact b
 |panic c=>exact b
 |outgrown=>exact b
end Go.Se
